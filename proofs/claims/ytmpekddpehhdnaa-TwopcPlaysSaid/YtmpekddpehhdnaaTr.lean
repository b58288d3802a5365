/-
  Layer 34 (twopc): the contracts of the document's calls.
-/
import Derived.Test.YtmpekddpehhdnaaTl
import Derived.Test.YtmpekddpehhdnaaSTR
namespace Go.Proofs.Ytmpekddpehhdnaa
open Go

def askT (d : Option Addr) (to : Int) (R : Int → Heap → Prop) (s : Int) (h_5 : Heap) : Prop :=
  Nn d fun p6 =>
  Ld .sl h_5 p6 fun (State1 : Sl) =>
  Ix State1 to 1 fun e4 =>
  St h_5 e4 (.int .i64 s) fun h_6 =>
  Join [.one (.int .i64)] (fun _ (answer : Int) h_7 =>
    Nn d fun p7 =>
    Ld .sl h_7 (p7.add 5) fun (Flight2 : Sl) =>
    Alloc h_7 (.cells #[.int .i64 answer, .int .i64 to] 59) fun b h_8 =>
    App Try.prog 54 54 Flight2 ⟨some b, 1, 1⟩ h_8 fun s1 h_9 =>
    Nn d fun p8 =>
    St h_9 (p8.add 5) (.slice s1.a s1.n s1.c) fun h_10 =>
    R 0 h_10
    ) fun J2 =>
  (bif s == 3 then
    J2 3 h_6
  else
    J2 2 h_6
  )
def ackT (d : Option Addr) (to : Int) (R : Int → Heap → Prop) (h_17 : Heap) : Prop :=
  Nn d fun p12 =>
  Ld .sl h_17 (p12.add 5) fun (Flight4 : Sl) =>
  Alloc h_17 (.cells #[.int .i64 6, .int .i64 to] 59) fun b2 h_18 =>
  App Try.prog 54 54 Flight4 ⟨some b2, 1, 1⟩ h_18 fun s4 h_19 =>
  Nn d fun p13 =>
  St h_19 (p13.add 5) (.slice s4.a s4.n s4.c) fun h_20 =>
  R 0 h_20
def toT (d : Option Addr) (m : Addr) (R : Int → Heap → Prop) (to : Int) (h_4 : Heap) : Prop :=
  Nn d fun p3 =>
  Ld .sl h_4 (p3.add 1) fun (Down : Sl) =>
  Ix Down to 1 fun e1 =>
  Ld .bool h_4 e1 fun (x : Bool) =>
  (bif x then
    R 12 h_4
  else
    Nn d fun p4 =>
    Ld .sl h_4 p4 fun (State : Sl) =>
    Ix State to 1 fun e2 =>
    Ld (.int .i64) h_4 e2 fun (x1 : Int) =>
    Ld (.int .i64) h_4 m fun (Kind1 : Int) =>
    (bif Kind1 == 1 then
      (bif x1 == 0 then
        Nn d fun p5 =>
        Ld .sl h_4 (p5.add 2) fun (Willing1 : Sl) =>
        Ix Willing1 to 1 fun e3 =>
        Ld .bool h_4 e3 fun (x2 : Bool) =>
        Join [.one (.int .i64)] (fun _ (s : Int) h_5 =>
          Nn d fun p6 =>
          Ld .sl h_5 p6 fun (State1 : Sl) =>
          Ix State1 to 1 fun e4 =>
          St h_5 e4 (.int .i64 s) fun h_6 =>
          Join [.one (.int .i64)] (fun _ (answer : Int) h_7 =>
            Nn d fun p7 =>
            Ld .sl h_7 (p7.add 5) fun (Flight2 : Sl) =>
            Alloc h_7 (.cells #[.int .i64 answer, .int .i64 to] 59) fun b h_8 =>
            App Try.prog 54 54 Flight2 ⟨some b, 1, 1⟩ h_8 fun s1 h_9 =>
            Nn d fun p8 =>
            St h_9 (p8.add 5) (.slice s1.a s1.n s1.c) fun h_10 =>
            R 0 h_10
            ) fun J2 =>
          (bif s == 3 then
            J2 3 h_6
          else
            J2 2 h_6
          )
          ) fun J1 =>
        (bif x2 then
          J1 1 h_4
        else
          (bif x1 == 0 then
            J1 3 h_4
          else
            J1 x1 h_4
          )
        )
      else
        Join [.one (.int .i64)] (fun _ (s2 : Int) h_11 =>
          Nn d fun p9 =>
          Ld .sl h_11 p9 fun (State2 : Sl) =>
          Ix State2 to 1 fun e5 =>
          St h_11 e5 (.int .i64 s2) fun h_12 =>
          Join [.one (.int .i64)] (fun _ (answer1 : Int) h_13 =>
            Nn d fun p10 =>
            Ld .sl h_13 (p10.add 5) fun (Flight3 : Sl) =>
            Alloc h_13 (.cells #[.int .i64 answer1, .int .i64 to] 59) fun b1 h_14 =>
            App Try.prog 54 54 Flight3 ⟨some b1, 1, 1⟩ h_14 fun s3 h_15 =>
            Nn d fun p11 =>
            St h_15 (p11.add 5) (.slice s3.a s3.n s3.c) fun h_16 =>
            R 0 h_16
            ) fun J4 =>
          (bif s2 == 3 then
            J4 3 h_12
          else
            J4 2 h_12
          )
          ) fun J3 =>
        (bif x1 == 0 then
          J3 3 h_4
        else
          J3 x1 h_4
        )
      )
    else
      Ld (.int .i64) h_4 m fun (Kind2 : Int) =>
      (bif Kind2 == 4 then
        Join [] (fun _ h_17 =>
          Nn d fun p12 =>
          Ld .sl h_17 (p12.add 5) fun (Flight4 : Sl) =>
          Alloc h_17 (.cells #[.int .i64 6, .int .i64 to] 59) fun b2 h_18 =>
          App Try.prog 54 54 Flight4 ⟨some b2, 1, 1⟩ h_18 fun s4 h_19 =>
          Nn d fun p13 =>
          St h_19 (p13.add 5) (.slice s4.a s4.n s4.c) fun h_20 =>
          R 0 h_20
          ) fun J5 =>
        (bif x1 == 1 then
          Nn d fun p14 =>
          Ld .sl h_4 p14 fun (State3 : Sl) =>
          Ix State3 to 1 fun e6 =>
          St h_4 e6 (.int .i64 2) fun h_21 =>
          J5  h_21
        else
          J5  h_4
        )
      else
        Ld (.int .i64) h_4 m fun (Kind3 : Int) =>
        (bif Kind3 == 5 then
          Join [] (fun _ h_22 =>
            Nn d fun p15 =>
            Ld .sl h_22 (p15.add 5) fun (Flight5 : Sl) =>
            Alloc h_22 (.cells #[.int .i64 6, .int .i64 to] 59) fun b3 h_23 =>
            App Try.prog 54 54 Flight5 ⟨some b3, 1, 1⟩ h_23 fun s5 h_24 =>
            Nn d fun p16 =>
            St h_24 (p16.add 5) (.slice s5.a s5.n s5.c) fun h_25 =>
            R 0 h_25
            ) fun J6 =>
          (bif decide (x1 < 2) then
            Nn d fun p17 =>
            Ld .sl h_4 p17 fun (State4 : Sl) =>
            Ix State4 to 1 fun e7 =>
            St h_4 e7 (.int .i64 3) fun h_26 =>
            J6  h_26
          else
            J6  h_4
          )
        else
          Ld (.int .i64) h_4 m fun (Kind4 : Int) =>
          (bif Kind4 == 6 then
            Nn d fun p18 =>
            Ld .sl h_4 (p18.add 4) fun (Ack : Sl) =>
            Ld (.int .i64) h_4 (m.add 1) fun (Who : Int) =>
            Alloc h_4 (.cells #[.int .i64 Who] 3) fun b4 h_27 =>
            (Ld .sl h_27 (p18.add 4) fun (Ack1 : Sl) => (.slice Ack1.a Ack1.n Ack1.c : Value) = .slice Ack.a Ack.n Ack.c) ∧
            App Try.prog 53 53 Ack ⟨some b4, 1, 1⟩ h_27 fun s6 h_28 =>
            Nn d fun p19 =>
            St h_28 (p19.add 4) (.slice s6.a s6.n s6.c) fun h_29 =>
            R 0 h_29
          else
            Ld (.int .i64) h_4 m fun (Kind5 : Int) =>
            (bif Kind5 == 3 then
              (bif x1 == 0 then
                C_ref34_Deal_note d 3 h_4 fun h_30 =>
                R 0 h_30
              else
                R 0 h_4
              )
            else
              Nn d fun p20 =>
              Ld .sl h_4 (p20.add 3) fun (Votes : Sl) =>
              Ld (.int .i64) h_4 (m.add 1) fun (Who1 : Int) =>
              Alloc h_4 (.cells #[.int .i64 Who1] 3) fun b5 h_31 =>
              (Ld .sl h_31 (p20.add 3) fun (Votes1 : Sl) => (.slice Votes1.a Votes1.n Votes1.c : Value) = .slice Votes.a Votes.n Votes.c) ∧
              App Try.prog 53 53 Votes ⟨some b5, 1, 1⟩ h_31 fun s7 h_32 =>
              Nn d fun p21 =>
              St h_32 (p21.add 3) (.slice s7.a s7.n s7.c) fun h_33 =>
              Nn d fun p22 =>
              Ld .sl h_33 (p22.add 2) fun (Willing2 : Sl) =>
              Loop [.one .bool, .one (.int .i64)] (fun _ (all : Bool) (x186 : Int) h_34 go =>
                (bif decide (x186 < (Willing2.n : Int)) then
                  (bif all then
                    Nn d fun p23 =>
                    Ld .sl h_34 (p23.add 3) fun (Votes2 : Sl) =>
                    C_ref34_in Votes2 x186 h_34 fun (r1 : Bool) h_35 =>
                    go r1 (IntKind.i64.wrap (x186 + 1)) h_35
                  else
                    go false (IntKind.i64.wrap (x186 + 1)) h_34
                  )
                else
                  (bif x1 == 0 then
                    (bif all then
                      C_ref34_Deal_note d 2 h_34 fun h_36 =>
                      R 0 h_36
                    else
                      R 0 h_34
                    )
                  else
                    R 0 h_34
                  )
                )
                ) (true, 0, ()) h_33
            )
          )
        )
      )
    )
  )
theorem TRm : ElemT Try.prog 54 59 2 16 := .of (by kernel_rfl)
theorem TBo : ElemT Try.prog 41 4 1 1 := .of (by kernel_rfl)
theorem ZBo : ZeroT Try.prog 4 [.bool false] := ⟨by kernel_rfl⟩
def refL (d : Nat) (ty : TypeId) (s1 s2 w s3 s4 s5 : Sl) (D : TD) (vl al : List Int) : List Res :=
  [.blk d ty [.slice s1.a s1.n s1.c, .slice s2.a s2.n s2.c, .slice w.a w.n w.c, .slice s3.a s3.n s3.c, .slice s4.a s4.n s4.c, .slice s5.a s5.n s5.c],
   .own s1 1 (eNum.fl (D.l.map (·.state) ++ [D.bs])), .own s2 1 (eBool.fl (D.l.map (·.down) ++ [D.bd])), .own s3 1 (eNum.fl vl), .own s4 1 (eNum.fl al), .own s5 2 (eMsg.fl D.fl)]
structure VR (N : Nat) (D : TD) (vl al : List Int) : Prop where
  v : ∀ i : Nat, i < D.l.length → (D.votes.testBit i = true ↔ (i : Int) ∈ vl)
  a : ∀ i : Nat, i < D.l.length → (D.acks.testBit i = true ↔ (i : Int) ∈ al)
  vn : vl.length ≤ N
  an : al.length ≤ N
def RefAt (hB h : Heap) (d : Nat) (w : Sl) (N : Nat) (D : TD) (F : List Res) : Prop :=
  ∃ (ty : TypeId) (s1 s2 s3 s4 s5 : Sl) (vl al : List Int), At hB h (refL d ty s1 s2 w s3 s4 s5 D vl al ++ F) ∧ VR N D vl al
theorem VR.of {N : Nat} {D D' : TD} {vl al : List Int} (h : VR N D vl al) (hl : D'.l.length = D.l.length) (hv : D'.votes = D.votes) (ha : D'.acks = D.acks) : VR (N + 1) D' vl al :=
  ⟨fun i hi => by rw [hv]; exact h.v i (by omega), fun i hi => by rw [ha]; exact h.a i (by omega), by have := h.vn; omega, by have := h.an; omega⟩
/-! ## Rows with the coordinator behind -/
section
variable {α β : Type}
theorem row_at (f : α → β) (l : List α) (a : β) {k : Nat} (hk : k < l.length) : (l.map f ++ [a])[k]? = some (f l[k]) := by
  rw [List.getElem?_append_left (by rw [List.length_map]; exact hk), List.getElem?_map, List.getElem?_eq_getElem hk]; rfl
theorem row_last (f : α → β) (l : List α) (a : β) : (l.map f ++ [a])[l.length]? = some a := by
  rw [List.getElem?_append_right (by rw [List.length_map]; exact Nat.le_refl _), List.length_map, Nat.sub_self]; rfl
theorem row_len (f : α → β) (l : List α) (a : β) : (l.map f ++ [a]).length = l.length + 1 := by simp
theorem row_set_last (f : α → β) (l : List α) (a b : β) : (l.map f ++ [a]).set l.length b = l.map f ++ [b] := by
  rw [List.set_append_right _ _ (by rw [List.length_map]; exact Nat.le_refl _), List.length_map, Nat.sub_self]; rfl
theorem row_set (f : α → β) (l : List α) (a : β) {k : Nat} (hk : k < l.length) (y : α) : (l.map f ++ [a]).set k (f y) = (l.set k y).map f ++ [a] := by
  rw [List.set_append_left _ _ (by rw [List.length_map]; exact hk), List.map_set]
theorem map_same (f : α → β) (l : List α) {k : Nat} (hk : k < l.length) (y : α) (h : f y = f l[k]) : (l.set k y).map f = l.map f := by
  rw [List.map_set, h, show f l[k] = (l.map f)[k]'(by rw [List.length_map]; exact hk) by rw [List.getElem_map]]
  exact List.set_getElem_self ..
end
theorem ldRow {α : Type} {sz : Nat} {E : Enc α sz} {h0 h : Heap} {L : List Res} {kd : Kd} {s : Sl} {l : List α} {k : Nat} {e : Addr} {K : kd.T → Prop} (H : At h0 h L) (n : Nat) (hn : L[n]? = some (.own s sz (E.fl l))) (he : ElAt s sz k e) (y : α) (hy : l[k]? = some y) (x : kd.T) (hx : (E.cells y)[0]? = some (kd.mk x)) (hK : K x) : Ld kd h e K := by
  obtain ⟨hk, hy⟩ := List.getElem?_eq_some_iff.1 hy
  exact ldEl0 H n hn he hk x (by rw [hy]; exact hx) hK
section
variable {hB h : Heap} {F : List Res} {d : Nat} {ty : TypeId} {s1 s2 w s3 s4 s5 : Sl} {D : TD} {vl al : List Int} {N : Nat} {ws : List Bool}
theorem ref34_in_ok {l : Sl} {xs : List Int} {x : Int} {R : Bool → Heap → Prop} (A : RdS h 1 l (eNum.fl xs)) (hlen : xs.length ≤ 10000000) (hR : R (decide (x ∈ xs)) h) : C_ref34_in l x h R := by
  refine A_ref34_in ?_
  unfold S_ref34_in
  have hn := rdn A
  refine loop1 (s1 := .one (.int .i64)) (fun (y : Int) h1 => ∃ (j : Nat), y = j ∧ j ≤ xs.length ∧ h1 = h ∧ ∀ i, (hi : i < xs.length) → i < j → x ≠ xs[i]) (fun (y : Int) _ => (xs.length - y).toNat)
    ⟨0, rfl, Nat.zero_le _, rfl, fun i _ hi => absurd hi (Nat.not_lt_zero _)⟩ fun _ (y : Int) h1 hI => ?_
  obtain ⟨j, rfl, hj, rfl, hp⟩ := hI
  refine brD (fun hc => ?_) fun hc => ?_
  · have hj2 : j < xs.length := by omega
    refine ixR A j rfl hj2 fun e he => ?_
    refine ldR0 A he hj2 xs[j] rfl ?_
    refine br beq_iff_eq (fun heq => ?_) fun hne => ?_
    · rw [decide_eq_true (show x ∈ xs by rw [heq]; exact List.getElem_mem hj2)] at hR
      exact hR
    · rw [w64 (by omega) (by omega)]
      refine ⟨⟨j + 1, by omega, by omega, rfl, fun i hi hij => ?_⟩, by omega⟩
      by_cases hij2 : i < j
      · exact hp i hi hij2
      · obtain rfl : i = j := by omega
        exact hne
  · have hd : decide (x ∈ xs) = false := decide_eq_false fun hm => by
      obtain ⟨i, hi, he⟩ := List.getElem_of_mem hm
      exact hp i hi (by omega) he.symm
    rw [hd] at hR
    exact hR
theorem ref34_tell_ok {k : Int} {but : Sl} {bl : List Int} {b : Nat} {R : Heap → Prop} (H : At hB h (refL d ty s1 s2 w s3 s4 s5 D vl al ++ F)) (W : RdS hB 1 w (eBool.fl ws)) (hw : ws.length = D.l.length) (h7 : D.l.length ≤ 7) (hl : D.fl.length ≤ 7000000 - 7) (hbl : bl.length ≤ 10000000)
    (hbut : ∀ h' s5' fl', At hB h' (refL d ty s1 s2 w s3 s4 s5' { D with fl := fl' } vl al ++ F) → RdS h' 1 but (eNum.fl bl)) (hbit : ∀ i : Nat, i < D.l.length → (b.testBit i = true ↔ (i : Int) ∈ bl))
    (hR : ∀ h' s5', At hB h' (refL d ty s1 s2 w s3 s4 s5' (tellM D k b) vl al ++ F) → R h') : C_ref34_Deal_tell (some ⟨d, 0, none⟩) k but h R := by
  refine A_ref34_Deal_tell ?_
  unfold S_ref34_Deal_tell
  have hwn := rdn W
  repeat (first | with_reducible refine nn ?_ | with_reducible refine let_ ?_ | with_reducible refine brSome ?_ | with_reducible refine brF ?_ | with_reducible refine brT ?_ | ((with_reducible apply ldAt H 0); exact rfl; exact rfl) | ((with_reducible apply ldAt0 H 0); exact rfl; exact rfl) | ((with_reducible apply stAt H 0); exact rfl; exact rfl; intro h H) | ((with_reducible apply stAt0 H 0); exact rfl; exact rfl; intro h H) | ((with_reducible apply allocAt H); intro h b H) | ((with_reducible refine ⟨?_, ?_⟩); first | ((with_reducible apply ldAt H 0); exact rfl; exact rfl; exact rfl) | ((with_reducible apply ldAt0 H 0); exact rfl; exact rfl; exact rfl)))
  refine loop1 (s1 := .one (.int .i64)) (fun (x : Int) h1 => ∃ (j : Nat) (s5' : Sl), x = j ∧ j ≤ D.l.length ∧ At hB h1 (refL d ty s1 s2 w s3 s4 s5' { D with fl := D.fl ++ toAll j k b } vl al ++ F)) (fun (x : Int) _ => (D.l.length - x).toNat)
    ⟨0, s5, rfl, Nat.zero_le _, by rw [show toAll 0 k b = [] from rfl, List.append_nil]; exact H⟩ fun _ (x : Int) h1 hI => ?_
  obtain ⟨j, s5', rfl, hj, H⟩ := hI
  refine brD (fun hc => ?_) fun hc => ?_
  · have hj2 : j < D.l.length := by omega
    have hlj := toAll_len j k b
    refine ref34_in_ok (hbut _ _ _ H) hbl ?_
    have hb := hbit j hj2
    refine brNot (fun hnm => ?_) fun hm => ?_
    · have hnm := of_decide_eq_false hnm
      have hbf : b.testBit j = false := by
        cases hbj : b.testBit j with
        | false => rfl
        | true => exact absurd (hb.1 hbj) hnm
      repeat (first | with_reducible refine nn ?_ | with_reducible refine let_ ?_ | with_reducible refine brSome ?_ | with_reducible refine brF ?_ | with_reducible refine brT ?_ | ((with_reducible apply ldAt H 0); exact rfl; exact rfl) | ((with_reducible apply ldAt0 H 0); exact rfl; exact rfl) | ((with_reducible apply stAt H 0); exact rfl; exact rfl; intro h H) | ((with_reducible apply stAt0 H 0); exact rfl; exact rfl; intro h H) | ((with_reducible apply allocAt H); intro h b H) | ((with_reducible refine ⟨?_, ?_⟩); first | ((with_reducible apply ldAt H 0); exact rfl; exact rfl; exact rfl) | ((with_reducible apply ldAt0 H 0); exact rfl; exact rfl; exact rfl)))
      refine app1B TRm H 6 rfl 0 rfl ⟨k, j⟩ rfl (by rw [List.length_append]; omega) (by rw [List.length_append]; omega) fun s6 h H => ?_
      repeat (first | with_reducible refine nn ?_ | with_reducible refine let_ ?_ | with_reducible refine brSome ?_ | with_reducible refine brF ?_ | with_reducible refine brT ?_ | ((with_reducible apply ldAt H 0); exact rfl; exact rfl) | ((with_reducible apply ldAt0 H 0); exact rfl; exact rfl) | ((with_reducible apply ldAt H 1); exact rfl; exact rfl) | ((with_reducible apply ldAt0 H 1); exact rfl; exact rfl) | ((with_reducible apply stAt H 0); exact rfl; exact rfl; intro h H) | ((with_reducible apply stAt0 H 0); exact rfl; exact rfl; intro h H) | ((with_reducible apply stAt H 1); exact rfl; exact rfl; intro h H) | ((with_reducible apply stAt0 H 1); exact rfl; exact rfl; intro h H) | ((with_reducible apply allocAt H); intro h b H) | ((with_reducible refine ⟨?_, ?_⟩); first | ((with_reducible apply ldAt H 0); exact rfl; exact rfl; exact rfl) | ((with_reducible apply ldAt0 H 0); exact rfl; exact rfl; exact rfl) | ((with_reducible apply ldAt H 1); exact rfl; exact rfl; exact rfl) | ((with_reducible apply ldAt0 H 1); exact rfl; exact rfl; exact rfl)))
      rw [w64 (by omega) (by omega)]
      refine ⟨⟨j + 1, s6, by omega, by omega, ?_⟩, by omega⟩
      rw [toAll_succ, hbf, if_neg (by decide), ← List.append_assoc]
      exact H.tail
    · have hbt : b.testBit j = true := hb.2 (of_decide_eq_true hm)
      rw [w64 (by omega) (by omega)]
      refine ⟨⟨j + 1, s5', by omega, by omega, ?_⟩, by omega⟩
      rw [toAll_succ, hbt, if_pos rfl, List.append_nil]
      exact H
  · have hjl : j = D.l.length := by omega
    subst hjl
    exact hR _ s5' H
theorem ref34_note_ok {s : Int} {R : Heap → Prop} (H : At hB h (refL d ty s1 s2 w s3 s4 s5 D vl al ++ F)) (W : RdS hB 1 w (eBool.fl ws)) (hw : ws.length = D.l.length) (h7 : D.l.length ≤ 7) (hl : D.fl.length ≤ 7000000 - 7) (hs : s = 2 ∨ s = 3)
    (hR : ∀ h' s5', At hB h' (refL d ty s1 s2 w s3 s4 s5' (notesM D s) vl al ++ F) → R h') : C_ref34_Deal_note (some ⟨d, 0, none⟩) s h R := by
  refine A_ref34_Deal_note ?_
  unfold S_ref34_Deal_note
  have hwn := rdn W
  repeat (first | with_reducible refine nn ?_ | with_reducible refine let_ ?_ | with_reducible refine brSome ?_ | with_reducible refine brF ?_ | with_reducible refine brT ?_ | ((with_reducible apply ldAt H 0); exact rfl; exact rfl) | ((with_reducible apply ldAt0 H 0); exact rfl; exact rfl) | ((with_reducible apply stAt H 0); exact rfl; exact rfl; intro h H) | ((with_reducible apply stAt0 H 0); exact rfl; exact rfl; intro h H) | ((with_reducible apply allocAt H); intro h b H) | ((with_reducible refine ⟨?_, ?_⟩); first | ((with_reducible apply ldAt H 0); exact rfl; exact rfl; exact rfl) | ((with_reducible apply ldAt0 H 0); exact rfl; exact rfl; exact rfl)))
  refine ixAt H 1 rfl D.l.length (by omega) (by rw [row_len]; omega) fun e he => ?_
  refine stEl0 (E := eNum) s H 1 rfl he (by rw [row_len]; omega) rfl fun h H => ?_
  rw [w64 (by omega) (by omega)]
  rw [row_set_last] at H
  have ek : s + 2 = outK s := by unfold outK; split <;> omega
  rw [ek]
  exact ref34_tell_ok (D := { D with bs := s }) (b := 0) (bl := []) H W hw h7 hl (Nat.zero_le _) (fun h' _ _ _ => RdS.nil _ _ _ _) (fun i _ => by simp) hR
theorem ref34_Begin_ok {R : Int → Heap → Prop} (H : At hB h (refL d ty s1 s2 w s3 s4 s5 D vl al ++ F)) (W : RdS hB 1 w (eBool.fl ws)) (hw : ws.length = D.l.length) (ho : TOk N D) (hN : N + 1 ≤ 1000000) (hi : D.bs = 0 ∨ D.bs = 2 ∨ D.bs = 3) (V : VR N D vl al)
    (hR : ∀ h', RefAt hB h' d w (N + 1) (beginM D).1 F → R (beginM D).2 h') : C_ref34_Deal_Begin (some ⟨d, 0, none⟩) h R := by
  refine A_ref34_Deal_Begin ?_
  unfold S_ref34_Deal_Begin
  have hwn := rdn W
  have hl := ho.fl
  have h7 := ho.n7.2
  have hvn := V.vn
  have han := V.an
  have up : ∀ {D' : TD} {h' : Heap} {s5' : Sl}, D'.l.length = D.l.length → D'.votes = D.votes → D'.acks = D.acks → At hB h' (refL d ty s1 s2 w s3 s4 s5' D' vl al ++ F) → RefAt hB h' d w (N + 1) D' F := fun a b c H => ⟨_, _, _, _, _, _, _, _, H, V.of a b c⟩
  repeat (first | with_reducible refine nn ?_ | with_reducible refine let_ ?_ | with_reducible refine brSome ?_ | with_reducible refine brF ?_ | with_reducible refine brT ?_ | ((with_reducible apply ldAt H 0); exact rfl; exact rfl) | ((with_reducible apply ldAt0 H 0); exact rfl; exact rfl) | ((with_reducible apply stAt H 0); exact rfl; exact rfl; intro h H) | ((with_reducible apply stAt0 H 0); exact rfl; exact rfl; intro h H) | ((with_reducible apply allocAt H); intro h b H) | ((with_reducible refine ⟨?_, ?_⟩); first | ((with_reducible apply ldAt H 0); exact rfl; exact rfl; exact rfl) | ((with_reducible apply ldAt0 H 0); exact rfl; exact rfl; exact rfl)))
  rw [hwn, hw]
  refine ixAt H 2 rfl D.l.length rfl (by rw [row_len]; omega) fun e he => ?_
  refine ldRow H 2 rfl he D.bd (row_last ..) D.bd rfl ?_
  unfold beginM at hR
  refine brB (fun hc => ?_) fun hc => ?_
  · rw [if_pos hc] at hR; exact hR _ (up rfl rfl rfl H)
  · rw [if_neg (by rw [hc]; decide)] at hR
    repeat (first | with_reducible refine nn ?_ | with_reducible refine let_ ?_ | with_reducible refine brSome ?_ | with_reducible refine brF ?_ | with_reducible refine brT ?_ | ((with_reducible apply ldAt H 0); exact rfl; exact rfl) | ((with_reducible apply ldAt0 H 0); exact rfl; exact rfl) | ((with_reducible apply stAt H 0); exact rfl; exact rfl; intro h H) | ((with_reducible apply stAt0 H 0); exact rfl; exact rfl; intro h H) | ((with_reducible apply allocAt H); intro h b H) | ((with_reducible refine ⟨?_, ?_⟩); first | ((with_reducible apply ldAt H 0); exact rfl; exact rfl; exact rfl) | ((with_reducible apply ldAt0 H 0); exact rfl; exact rfl; exact rfl)))
    refine ixAt H 1 rfl D.l.length rfl (by rw [row_len]; omega) fun e he => ?_
    refine ldRow H 1 rfl he D.bs (row_last ..) D.bs rfl ?_
    refine br beq_iff_eq (fun hc => ?_) fun hc => ?_
    · rw [if_pos hc] at hR
      repeat (first | with_reducible refine nn ?_ | with_reducible refine let_ ?_ | with_reducible refine brSome ?_ | with_reducible refine brF ?_ | with_reducible refine brT ?_ | ((with_reducible apply ldAt H 0); exact rfl; exact rfl) | ((with_reducible apply ldAt0 H 0); exact rfl; exact rfl) | ((with_reducible apply stAt H 0); exact rfl; exact rfl; intro h H) | ((with_reducible apply stAt0 H 0); exact rfl; exact rfl; intro h H) | ((with_reducible apply allocAt H); intro h b H) | ((with_reducible refine ⟨?_, ?_⟩); first | ((with_reducible apply ldAt H 0); exact rfl; exact rfl; exact rfl) | ((with_reducible apply ldAt0 H 0); exact rfl; exact rfl; exact rfl)))
      exact ref34_tell_ok H W hw h7 (by omega) (by omega) (fun h' s5' fl' H => H.rdo 3 rfl) V.v fun h' s5' H => hR _ (up rfl rfl rfl H)
    · rw [if_neg hc] at hR
      repeat (first | with_reducible refine nn ?_ | with_reducible refine let_ ?_ | with_reducible refine brSome ?_ | with_reducible refine brF ?_ | with_reducible refine brT ?_ | ((with_reducible apply ldAt H 0); exact rfl; exact rfl) | ((with_reducible apply ldAt0 H 0); exact rfl; exact rfl) | ((with_reducible apply stAt H 0); exact rfl; exact rfl; intro h H) | ((with_reducible apply stAt0 H 0); exact rfl; exact rfl; intro h H) | ((with_reducible apply allocAt H); intro h b H) | ((with_reducible refine ⟨?_, ?_⟩); first | ((with_reducible apply ldAt H 0); exact rfl; exact rfl; exact rfl) | ((with_reducible apply ldAt0 H 0); exact rfl; exact rfl; exact rfl)))
      refine ixAt H 1 rfl D.l.length rfl (by rw [row_len]; omega) fun e he => ?_
      refine ldRow H 1 rfl he D.bs (row_last ..) D.bs rfl ?_
      rw [w64 (by omega) (by omega)]
      have ek : D.bs + 2 = outK D.bs := by unfold outK; split <;> omega
      rw [ek]
      repeat (first | with_reducible refine nn ?_ | with_reducible refine let_ ?_ | with_reducible refine brSome ?_ | with_reducible refine brF ?_ | with_reducible refine brT ?_ | ((with_reducible apply ldAt H 0); exact rfl; exact rfl) | ((with_reducible apply ldAt0 H 0); exact rfl; exact rfl) | ((with_reducible apply stAt H 0); exact rfl; exact rfl; intro h H) | ((with_reducible apply stAt0 H 0); exact rfl; exact rfl; intro h H) | ((with_reducible apply allocAt H); intro h b H) | ((with_reducible refine ⟨?_, ?_⟩); first | ((with_reducible apply ldAt H 0); exact rfl; exact rfl; exact rfl) | ((with_reducible apply ldAt0 H 0); exact rfl; exact rfl; exact rfl)))
      exact ref34_tell_ok H W hw h7 (by omega) (by omega) (fun h' s5' fl' H => H.rdo 4 rfl) V.a fun h' s5' H => hR _ (up rfl rfl rfl H)
theorem ref34_GiveUp_ok {R : Int → Heap → Prop} (H : At hB h (refL d ty s1 s2 w s3 s4 s5 D vl al ++ F)) (W : RdS hB 1 w (eBool.fl ws)) (hw : ws.length = D.l.length) (ho : TOk N D) (hN : N + 1 ≤ 1000000) (V : VR N D vl al)
    (hR : ∀ h', RefAt hB h' d w (N + 1) (giveM D).1 F → R (giveM D).2 h') : C_ref34_Deal_GiveUp (some ⟨d, 0, none⟩) h R := by
  refine A_ref34_Deal_GiveUp ?_
  unfold S_ref34_Deal_GiveUp
  have hwn := rdn W
  have hl := ho.fl
  have h7 := ho.n7.2
  have up : ∀ {D' : TD} {h' : Heap} {s5' : Sl}, D'.l.length = D.l.length → D'.votes = D.votes → D'.acks = D.acks → At hB h' (refL d ty s1 s2 w s3 s4 s5' D' vl al ++ F) → RefAt hB h' d w (N + 1) D' F := fun a b c H => ⟨_, _, _, _, _, _, _, _, H, V.of a b c⟩
  repeat (first | with_reducible refine nn ?_ | with_reducible refine let_ ?_ | with_reducible refine brSome ?_ | with_reducible refine brF ?_ | with_reducible refine brT ?_ | ((with_reducible apply ldAt H 0); exact rfl; exact rfl) | ((with_reducible apply ldAt0 H 0); exact rfl; exact rfl) | ((with_reducible apply stAt H 0); exact rfl; exact rfl; intro h H) | ((with_reducible apply stAt0 H 0); exact rfl; exact rfl; intro h H) | ((with_reducible apply allocAt H); intro h b H) | ((with_reducible refine ⟨?_, ?_⟩); first | ((with_reducible apply ldAt H 0); exact rfl; exact rfl; exact rfl) | ((with_reducible apply ldAt0 H 0); exact rfl; exact rfl; exact rfl)))
  rw [hwn, hw]
  refine ixAt H 2 rfl D.l.length rfl (by rw [row_len]; omega) fun e he => ?_
  refine ldRow H 2 rfl he D.bd (row_last ..) D.bd rfl ?_
  unfold giveM at hR
  refine brB (fun hc => ?_) fun hc => ?_
  · rw [if_pos hc] at hR; exact hR _ (up rfl rfl rfl H)
  · rw [if_neg (by rw [hc]; decide)] at hR
    repeat (first | with_reducible refine nn ?_ | with_reducible refine let_ ?_ | with_reducible refine brSome ?_ | with_reducible refine brF ?_ | with_reducible refine brT ?_ | ((with_reducible apply ldAt H 0); exact rfl; exact rfl) | ((with_reducible apply ldAt0 H 0); exact rfl; exact rfl) | ((with_reducible apply stAt H 0); exact rfl; exact rfl; intro h H) | ((with_reducible apply stAt0 H 0); exact rfl; exact rfl; intro h H) | ((with_reducible apply allocAt H); intro h b H) | ((with_reducible refine ⟨?_, ?_⟩); first | ((with_reducible apply ldAt H 0); exact rfl; exact rfl; exact rfl) | ((with_reducible apply ldAt0 H 0); exact rfl; exact rfl; exact rfl)))
    refine ixAt H 1 rfl D.l.length rfl (by rw [row_len]; omega) fun e he => ?_
    refine ldRow H 1 rfl he D.bs (row_last ..) D.bs rfl ?_
    refine br bne_iff_ne (fun hc => ?_) fun hc => ?_
    · rw [if_pos hc] at hR; exact hR _ (up rfl rfl rfl H)
    · rw [if_neg hc] at hR
      exact ref34_note_ok H W hw h7 (by omega) (.inr rfl) fun h' s5' H => hR _ (up rfl rfl rfl H)
theorem ref34_Drop_ok {i : Int} {R : Int → Heap → Prop} (H : At hB h (refL d ty s1 s2 w s3 s4 s5 D vl al ++ F)) (hl : D.fl.length ≤ 7000000) (hb : (i < 0 ∨ (D.fl.length : Int) ≤ i) → R 6 h)
    (hg : ∀ k : Nat, i = k → k < D.fl.length → ∀ h' s5', At hB h' (refL d ty s1 s2 w s3 s4 s5' (tDropM D k) vl al ++ F) → R 0 h') : C_ref34_Deal_Drop (some ⟨d, 0, none⟩) i h R := by
  refine A_ref34_Deal_Drop ?_
  unfold S_ref34_Deal_Drop
  have hn := H.n 5 rfl
  have ho := H.own 5 rfl
  have hsc := ho.2.1
  refine brD (fun hc => hb (.inl hc)) fun hc => ?_
  repeat (first | with_reducible refine nn ?_ | with_reducible refine let_ ?_ | with_reducible refine brSome ?_ | with_reducible refine brF ?_ | with_reducible refine brT ?_ | ((with_reducible apply ldAt H 0); exact rfl; exact rfl) | ((with_reducible apply ldAt0 H 0); exact rfl; exact rfl) | ((with_reducible apply stAt H 0); exact rfl; exact rfl; intro h H) | ((with_reducible apply stAt0 H 0); exact rfl; exact rfl; intro h H) | ((with_reducible apply allocAt H); intro h b H) | ((with_reducible refine ⟨?_, ?_⟩); first | ((with_reducible apply ldAt H 0); exact rfl; exact rfl; exact rfl) | ((with_reducible apply ldAt0 H 0); exact rfl; exact rfl; exact rfl)))
  refine brD (fun hc2 => hb (.inr (by omega))) fun hc2 => ?_
  obtain ⟨k, rfl⟩ : ∃ k : Nat, i = k := ⟨i.toNat, by omega⟩
  have hk : k < D.fl.length := by omega
  repeat (first | with_reducible refine nn ?_ | with_reducible refine let_ ?_ | with_reducible refine brSome ?_ | with_reducible refine brF ?_ | with_reducible refine brT ?_ | ((with_reducible apply ldAt H 0); exact rfl; exact rfl) | ((with_reducible apply ldAt0 H 0); exact rfl; exact rfl) | ((with_reducible apply stAt H 0); exact rfl; exact rfl; intro h H) | ((with_reducible apply stAt0 H 0); exact rfl; exact rfl; intro h H) | ((with_reducible apply allocAt H); intro h b H) | ((with_reducible refine ⟨?_, ?_⟩); first | ((with_reducible apply ldAt H 0); exact rfl; exact rfl; exact rfl) | ((with_reducible apply ldAt0 H 0); exact rfl; exact rfl; exact rfl)))
  refine cutR (E := eMsg) TRm ho.rd 0 k s5.c lo0 (hii rfl) (.inl ⟨rfl, rfl⟩) (Nat.zero_le _) (by omega) (by omega) (Nat.le_refl _) fun sA rA nA cA bA => ?_
  repeat (first | with_reducible refine nn ?_ | with_reducible refine let_ ?_ | with_reducible refine brSome ?_ | with_reducible refine brF ?_ | with_reducible refine brT ?_ | ((with_reducible apply ldAt H 0); exact rfl; exact rfl) | ((with_reducible apply ldAt0 H 0); exact rfl; exact rfl) | ((with_reducible apply stAt H 0); exact rfl; exact rfl; intro h H) | ((with_reducible apply stAt0 H 0); exact rfl; exact rfl; intro h H) | ((with_reducible apply allocAt H); intro h b H) | ((with_reducible refine ⟨?_, ?_⟩); first | ((with_reducible apply ldAt H 0); exact rfl; exact rfl; exact rfl) | ((with_reducible apply ldAt0 H 0); exact rfl; exact rfl; exact rfl)))
  rw [w64 (by omega) (by omega)]
  refine cutR (E := eMsg) TRm ho.rd (k + 1) s5.n s5.c (loi (by omega)) (hi0 _) (.inl ⟨rfl, rfl⟩) (by omega) (by omega) hsc (Nat.le_refl _) fun sB rB nB cB bB => ?_
  rw [List.drop_zero, Nat.sub_zero] at rA
  rw [List.take_of_length_le (by rw [List.length_drop]; omega)] at rB
  refine alloc (cs := []) fun h1 b1 e1 z1 => ?_
  have H1 := H.ext' e1
  have o1 : Own h1 2 ⟨some ⟨h.size, 0, none⟩, 0, 0⟩ (eMsg.fl []) := Own.full b1 (sz := 2) (n := 0) rfl (by decide)
  refine ⟨ldAt H1 0 rfl _ rfl rfl, ldAt H1 0 rfl _ rfl rfl, ?_⟩
  refine appR TRm o1 (rA.ext' e1) (by rw [List.length_nil, List.length_take]; omega) (by rw [List.length_nil, List.length_take]; omega) fun s6 h2 o2 g2 => ?_
  rw [List.nil_append] at o2
  have fr : Sl.from_ ⟨some ⟨h.size, 0, none⟩, 0, 0⟩ h.size := fun g hg => by have hg : some h.size = some g := hg; injection hg with hg; omega
  have E2 : Ext h.size h h2 := e1.trans (g2.ext fr (by omega))
  have H2 := H.ext' E2
  have f2 : s6.from_ h.size := g2.from_ fr (by omega)
  refine ⟨ldAt H2 0 rfl _ rfl rfl, ?_⟩
  refine appR TRm o2 (rB.ext' E2) (by rw [List.length_take, List.length_drop]; omega) (by rw [List.length_take, List.length_drop]; omega) fun s7 h3 o3 g3 => ?_
  have E3 : Ext h.size h h3 := E2.trans (g3.ext f2 (by have := E2.1; omega))
  have f3 : s7.from_ h.size := g3.from_ f2 (by have := E2.1; omega)
  have H := H.new (r := .own s7 2 (eMsg.fl (D.fl.take k ++ D.fl.drop (k + 1)))) E3 o3 f3
  repeat (first | with_reducible refine nn ?_ | with_reducible refine let_ ?_ | with_reducible refine brSome ?_ | with_reducible refine brF ?_ | with_reducible refine brT ?_ | ((with_reducible apply ldAt H 0); exact rfl; exact rfl) | ((with_reducible apply ldAt0 H 0); exact rfl; exact rfl) | ((with_reducible apply ldAt H 1); exact rfl; exact rfl) | ((with_reducible apply ldAt0 H 1); exact rfl; exact rfl) | ((with_reducible apply stAt H 0); exact rfl; exact rfl; intro h H) | ((with_reducible apply stAt0 H 0); exact rfl; exact rfl; intro h H) | ((with_reducible apply stAt H 1); exact rfl; exact rfl; intro h H) | ((with_reducible apply stAt0 H 1); exact rfl; exact rfl; intro h H) | ((with_reducible apply allocAt H); intro h b H) | ((with_reducible refine ⟨?_, ?_⟩); first | ((with_reducible apply ldAt H 0); exact rfl; exact rfl; exact rfl) | ((with_reducible apply ldAt0 H 0); exact rfl; exact rfl; exact rfl) | ((with_reducible apply ldAt H 1); exact rfl; exact rfl; exact rfl) | ((with_reducible apply ldAt0 H 1); exact rfl; exact rfl; exact rfl)))
  exact hg k rfl hk _ s7 ((H.del 6).mv 1 5)
theorem ref34_Double_ok {i : Int} {R : Int → Heap → Prop} (H : At hB h (refL d ty s1 s2 w s3 s4 s5 D vl al ++ F)) (hl : D.fl.length ≤ 7000000) (hb : (i < 0 ∨ (D.fl.length : Int) ≤ i) → R 6 h)
    (hg : ∀ k : Nat, i = k → (hk : k < D.fl.length) → ∀ h' s5', At hB h' (refL d ty s1 s2 w s3 s4 s5' (tDoubleM D D.fl[k]) vl al ++ F) → R 0 h') : C_ref34_Deal_Double (some ⟨d, 0, none⟩) i h R := by
  refine A_ref34_Deal_Double ?_
  unfold S_ref34_Deal_Double
  have hn := H.n 5 rfl
  refine brD (fun hc => hb (.inl hc)) fun hc => ?_
  repeat (first | with_reducible refine nn ?_ | with_reducible refine let_ ?_ | with_reducible refine brSome ?_ | with_reducible refine brF ?_ | with_reducible refine brT ?_ | ((with_reducible apply ldAt H 0); exact rfl; exact rfl) | ((with_reducible apply ldAt0 H 0); exact rfl; exact rfl) | ((with_reducible apply stAt H 0); exact rfl; exact rfl; intro h H) | ((with_reducible apply stAt0 H 0); exact rfl; exact rfl; intro h H) | ((with_reducible apply allocAt H); intro h b H) | ((with_reducible refine ⟨?_, ?_⟩); first | ((with_reducible apply ldAt H 0); exact rfl; exact rfl; exact rfl) | ((with_reducible apply ldAt0 H 0); exact rfl; exact rfl; exact rfl)))
  refine brD (fun hc2 => hb (.inr (by omega))) fun hc2 => ?_
  obtain ⟨k, rfl⟩ : ∃ k : Nat, i = k := ⟨i.toNat, by omega⟩
  have hk : k < D.fl.length := by omega
  repeat (first | with_reducible refine nn ?_ | with_reducible refine let_ ?_ | with_reducible refine brSome ?_ | with_reducible refine brF ?_ | with_reducible refine brT ?_ | ((with_reducible apply ldAt H 0); exact rfl; exact rfl) | ((with_reducible apply ldAt0 H 0); exact rfl; exact rfl) | ((with_reducible apply stAt H 0); exact rfl; exact rfl; intro h H) | ((with_reducible apply stAt0 H 0); exact rfl; exact rfl; intro h H) | ((with_reducible apply allocAt H); intro h b H) | ((with_reducible refine ⟨?_, ?_⟩); first | ((with_reducible apply ldAt H 0); exact rfl; exact rfl; exact rfl) | ((with_reducible apply ldAt0 H 0); exact rfl; exact rfl; exact rfl)))
  refine ixAt H 5 rfl k rfl hk fun e he => ?_
  repeat (first | with_reducible refine nn ?_ | with_reducible refine let_ ?_ | with_reducible refine brSome ?_ | with_reducible refine brF ?_ | with_reducible refine brT ?_ | ((with_reducible apply ldAt H 0); exact rfl; exact rfl) | ((with_reducible apply ldAt0 H 0); exact rfl; exact rfl) | ((with_reducible apply ldAt H 1); exact rfl; exact rfl) | ((with_reducible apply ldAt0 H 1); exact rfl; exact rfl) | ((with_reducible apply ldAt H 2); exact rfl; exact rfl) | ((with_reducible apply ldAt0 H 2); exact rfl; exact rfl) | ((with_reducible apply ldAt H 3); exact rfl; exact rfl) | ((with_reducible apply ldAt0 H 3); exact rfl; exact rfl) | ((with_reducible apply ldAt H 4); exact rfl; exact rfl) | ((with_reducible apply ldAt0 H 4); exact rfl; exact rfl) | ((with_reducible apply ldAt H 5); exact rfl; exact rfl) | ((with_reducible apply ldAt0 H 5); exact rfl; exact rfl) | ((with_reducible apply ldEl H 0); exact rfl; assumption; (case hk => assumption); exact rfl) | ((with_reducible apply ldEl0 H 0); exact rfl; assumption; (case hk => assumption); exact rfl) | ((with_reducible apply ldElS H 0); exact rfl; assumption; (case hk => assumption); exact rfl) | ((with_reducible apply ldElS0 H 0); exact rfl; assumption; (case hk => assumption); exact rfl) | ((with_reducible apply ldEl H 1); exact rfl; assumption; (case hk => assumption); exact rfl) | ((with_reducible apply ldEl0 H 1); exact rfl; assumption; (case hk => assumption); exact rfl) | ((with_reducible apply ldElS H 1); exact rfl; assumption; (case hk => assumption); exact rfl) | ((with_reducible apply ldElS0 H 1); exact rfl; assumption; (case hk => assumption); exact rfl) | ((with_reducible apply ldEl H 2); exact rfl; assumption; (case hk => assumption); exact rfl) | ((with_reducible apply ldEl0 H 2); exact rfl; assumption; (case hk => assumption); exact rfl) | ((with_reducible apply ldElS H 2); exact rfl; assumption; (case hk => assumption); exact rfl) | ((with_reducible apply ldElS0 H 2); exact rfl; assumption; (case hk => assumption); exact rfl) | ((with_reducible apply ldEl H 3); exact rfl; assumption; (case hk => assumption); exact rfl) | ((with_reducible apply ldEl0 H 3); exact rfl; assumption; (case hk => assumption); exact rfl) | ((with_reducible apply ldElS H 3); exact rfl; assumption; (case hk => assumption); exact rfl) | ((with_reducible apply ldElS0 H 3); exact rfl; assumption; (case hk => assumption); exact rfl) | ((with_reducible apply ldEl H 4); exact rfl; assumption; (case hk => assumption); exact rfl) | ((with_reducible apply ldEl0 H 4); exact rfl; assumption; (case hk => assumption); exact rfl) | ((with_reducible apply ldElS H 4); exact rfl; assumption; (case hk => assumption); exact rfl) | ((with_reducible apply ldElS0 H 4); exact rfl; assumption; (case hk => assumption); exact rfl) | ((with_reducible apply ldEl H 5); exact rfl; assumption; (case hk => assumption); exact rfl) | ((with_reducible apply ldEl0 H 5); exact rfl; assumption; (case hk => assumption); exact rfl) | ((with_reducible apply ldElS H 5); exact rfl; assumption; (case hk => assumption); exact rfl) | ((with_reducible apply ldElS0 H 5); exact rfl; assumption; (case hk => assumption); exact rfl) | ((with_reducible apply stAt H 0); exact rfl; exact rfl; intro h H) | ((with_reducible apply stAt0 H 0); exact rfl; exact rfl; intro h H) | ((with_reducible apply stAt H 1); exact rfl; exact rfl; intro h H) | ((with_reducible apply stAt0 H 1); exact rfl; exact rfl; intro h H) | ((with_reducible apply stAt H 2); exact rfl; exact rfl; intro h H) | ((with_reducible apply stAt0 H 2); exact rfl; exact rfl; intro h H) | ((with_reducible apply stAt H 3); exact rfl; exact rfl; intro h H) | ((with_reducible apply stAt0 H 3); exact rfl; exact rfl; intro h H) | ((with_reducible apply stAt H 4); exact rfl; exact rfl; intro h H) | ((with_reducible apply stAt0 H 4); exact rfl; exact rfl; intro h H) | ((with_reducible apply stAt H 5); exact rfl; exact rfl; intro h H) | ((with_reducible apply stAt0 H 5); exact rfl; exact rfl; intro h H) | ((with_reducible apply stElS (E := eMsg) ⟨_, _⟩ H 0); exact rfl; assumption; (case hk => assumption); exact rfl; (first | exact rfl | (dsimp only [eMsg, List.set_cons_succ, List.set_cons_zero] <;> exact rfl)); intro h H) | ((with_reducible apply stElS0 (E := eMsg) ⟨_, _⟩ H 0); exact rfl; assumption; (case hk => assumption); (first | exact rfl | (dsimp only [eMsg, List.set_cons_succ, List.set_cons_zero] <;> exact rfl)); intro h H) | ((with_reducible apply stEl (E := eMsg) ⟨_, _⟩ H 0); exact rfl; assumption; (case hk => assumption); exact rfl; (first | exact rfl | (dsimp only [eMsg, List.set_cons_succ, List.set_cons_zero] <;> exact rfl)); intro h H) | ((with_reducible apply stEl0 (E := eMsg) ⟨_, _⟩ H 0); exact rfl; assumption; (case hk => assumption); (first | exact rfl | (dsimp only [eMsg, List.set_cons_succ, List.set_cons_zero] <;> exact rfl)); intro h H) | ((with_reducible apply stElS (E := eMsg) ⟨_, _⟩ H 1); exact rfl; assumption; (case hk => assumption); exact rfl; (first | exact rfl | (dsimp only [eMsg, List.set_cons_succ, List.set_cons_zero] <;> exact rfl)); intro h H) | ((with_reducible apply stElS0 (E := eMsg) ⟨_, _⟩ H 1); exact rfl; assumption; (case hk => assumption); (first | exact rfl | (dsimp only [eMsg, List.set_cons_succ, List.set_cons_zero] <;> exact rfl)); intro h H) | ((with_reducible apply stEl (E := eMsg) ⟨_, _⟩ H 1); exact rfl; assumption; (case hk => assumption); exact rfl; (first | exact rfl | (dsimp only [eMsg, List.set_cons_succ, List.set_cons_zero] <;> exact rfl)); intro h H) | ((with_reducible apply stEl0 (E := eMsg) ⟨_, _⟩ H 1); exact rfl; assumption; (case hk => assumption); (first | exact rfl | (dsimp only [eMsg, List.set_cons_succ, List.set_cons_zero] <;> exact rfl)); intro h H) | ((with_reducible apply stElS (E := eMsg) ⟨_, _⟩ H 2); exact rfl; assumption; (case hk => assumption); exact rfl; (first | exact rfl | (dsimp only [eMsg, List.set_cons_succ, List.set_cons_zero] <;> exact rfl)); intro h H) | ((with_reducible apply stElS0 (E := eMsg) ⟨_, _⟩ H 2); exact rfl; assumption; (case hk => assumption); (first | exact rfl | (dsimp only [eMsg, List.set_cons_succ, List.set_cons_zero] <;> exact rfl)); intro h H) | ((with_reducible apply stEl (E := eMsg) ⟨_, _⟩ H 2); exact rfl; assumption; (case hk => assumption); exact rfl; (first | exact rfl | (dsimp only [eMsg, List.set_cons_succ, List.set_cons_zero] <;> exact rfl)); intro h H) | ((with_reducible apply stEl0 (E := eMsg) ⟨_, _⟩ H 2); exact rfl; assumption; (case hk => assumption); (first | exact rfl | (dsimp only [eMsg, List.set_cons_succ, List.set_cons_zero] <;> exact rfl)); intro h H) | ((with_reducible apply stElS (E := eMsg) ⟨_, _⟩ H 3); exact rfl; assumption; (case hk => assumption); exact rfl; (first | exact rfl | (dsimp only [eMsg, List.set_cons_succ, List.set_cons_zero] <;> exact rfl)); intro h H) | ((with_reducible apply stElS0 (E := eMsg) ⟨_, _⟩ H 3); exact rfl; assumption; (case hk => assumption); (first | exact rfl | (dsimp only [eMsg, List.set_cons_succ, List.set_cons_zero] <;> exact rfl)); intro h H) | ((with_reducible apply stEl (E := eMsg) ⟨_, _⟩ H 3); exact rfl; assumption; (case hk => assumption); exact rfl; (first | exact rfl | (dsimp only [eMsg, List.set_cons_succ, List.set_cons_zero] <;> exact rfl)); intro h H) | ((with_reducible apply stEl0 (E := eMsg) ⟨_, _⟩ H 3); exact rfl; assumption; (case hk => assumption); (first | exact rfl | (dsimp only [eMsg, List.set_cons_succ, List.set_cons_zero] <;> exact rfl)); intro h H) | ((with_reducible apply stElS (E := eMsg) ⟨_, _⟩ H 4); exact rfl; assumption; (case hk => assumption); exact rfl; (first | exact rfl | (dsimp only [eMsg, List.set_cons_succ, List.set_cons_zero] <;> exact rfl)); intro h H) | ((with_reducible apply stElS0 (E := eMsg) ⟨_, _⟩ H 4); exact rfl; assumption; (case hk => assumption); (first | exact rfl | (dsimp only [eMsg, List.set_cons_succ, List.set_cons_zero] <;> exact rfl)); intro h H) | ((with_reducible apply stEl (E := eMsg) ⟨_, _⟩ H 4); exact rfl; assumption; (case hk => assumption); exact rfl; (first | exact rfl | (dsimp only [eMsg, List.set_cons_succ, List.set_cons_zero] <;> exact rfl)); intro h H) | ((with_reducible apply stEl0 (E := eMsg) ⟨_, _⟩ H 4); exact rfl; assumption; (case hk => assumption); (first | exact rfl | (dsimp only [eMsg, List.set_cons_succ, List.set_cons_zero] <;> exact rfl)); intro h H) | ((with_reducible apply stElS (E := eMsg) ⟨_, _⟩ H 5); exact rfl; assumption; (case hk => assumption); exact rfl; (first | exact rfl | (dsimp only [eMsg, List.set_cons_succ, List.set_cons_zero] <;> exact rfl)); intro h H) | ((with_reducible apply stElS0 (E := eMsg) ⟨_, _⟩ H 5); exact rfl; assumption; (case hk => assumption); (first | exact rfl | (dsimp only [eMsg, List.set_cons_succ, List.set_cons_zero] <;> exact rfl)); intro h H) | ((with_reducible apply stEl (E := eMsg) ⟨_, _⟩ H 5); exact rfl; assumption; (case hk => assumption); exact rfl; (first | exact rfl | (dsimp only [eMsg, List.set_cons_succ, List.set_cons_zero] <;> exact rfl)); intro h H) | ((with_reducible apply stEl0 (E := eMsg) ⟨_, _⟩ H 5); exact rfl; assumption; (case hk => assumption); (first | exact rfl | (dsimp only [eMsg, List.set_cons_succ, List.set_cons_zero] <;> exact rfl)); intro h H) | ((with_reducible apply allocAt H); intro h b H) | ((with_reducible refine ⟨?_, ?_⟩); first | ((with_reducible apply ldAt H 0); exact rfl; exact rfl; exact rfl) | ((with_reducible apply ldAt0 H 0); exact rfl; exact rfl; exact rfl) | ((with_reducible apply ldAt H 1); exact rfl; exact rfl; exact rfl) | ((with_reducible apply ldAt0 H 1); exact rfl; exact rfl; exact rfl) | ((with_reducible apply ldAt H 2); exact rfl; exact rfl; exact rfl) | ((with_reducible apply ldAt0 H 2); exact rfl; exact rfl; exact rfl) | ((with_reducible apply ldAt H 3); exact rfl; exact rfl; exact rfl) | ((with_reducible apply ldAt0 H 3); exact rfl; exact rfl; exact rfl) | ((with_reducible apply ldAt H 4); exact rfl; exact rfl; exact rfl) | ((with_reducible apply ldAt0 H 4); exact rfl; exact rfl; exact rfl) | ((with_reducible apply ldAt H 5); exact rfl; exact rfl; exact rfl) | ((with_reducible apply ldAt0 H 5); exact rfl; exact rfl; exact rfl) | ((with_reducible apply ldEl H 0); exact rfl; assumption; (case hk => assumption); exact rfl; exact rfl) | ((with_reducible apply ldEl0 H 0); exact rfl; assumption; (case hk => assumption); exact rfl; exact rfl) | ((with_reducible apply ldElS H 0); exact rfl; assumption; (case hk => assumption); exact rfl; exact rfl) | ((with_reducible apply ldElS0 H 0); exact rfl; assumption; (case hk => assumption); exact rfl; exact rfl) | ((with_reducible apply ldEl H 1); exact rfl; assumption; (case hk => assumption); exact rfl; exact rfl) | ((with_reducible apply ldEl0 H 1); exact rfl; assumption; (case hk => assumption); exact rfl; exact rfl) | ((with_reducible apply ldElS H 1); exact rfl; assumption; (case hk => assumption); exact rfl; exact rfl) | ((with_reducible apply ldElS0 H 1); exact rfl; assumption; (case hk => assumption); exact rfl; exact rfl) | ((with_reducible apply ldEl H 2); exact rfl; assumption; (case hk => assumption); exact rfl; exact rfl) | ((with_reducible apply ldEl0 H 2); exact rfl; assumption; (case hk => assumption); exact rfl; exact rfl) | ((with_reducible apply ldElS H 2); exact rfl; assumption; (case hk => assumption); exact rfl; exact rfl) | ((with_reducible apply ldElS0 H 2); exact rfl; assumption; (case hk => assumption); exact rfl; exact rfl) | ((with_reducible apply ldEl H 3); exact rfl; assumption; (case hk => assumption); exact rfl; exact rfl) | ((with_reducible apply ldEl0 H 3); exact rfl; assumption; (case hk => assumption); exact rfl; exact rfl) | ((with_reducible apply ldElS H 3); exact rfl; assumption; (case hk => assumption); exact rfl; exact rfl) | ((with_reducible apply ldElS0 H 3); exact rfl; assumption; (case hk => assumption); exact rfl; exact rfl) | ((with_reducible apply ldEl H 4); exact rfl; assumption; (case hk => assumption); exact rfl; exact rfl) | ((with_reducible apply ldEl0 H 4); exact rfl; assumption; (case hk => assumption); exact rfl; exact rfl) | ((with_reducible apply ldElS H 4); exact rfl; assumption; (case hk => assumption); exact rfl; exact rfl) | ((with_reducible apply ldElS0 H 4); exact rfl; assumption; (case hk => assumption); exact rfl; exact rfl) | ((with_reducible apply ldEl H 5); exact rfl; assumption; (case hk => assumption); exact rfl; exact rfl) | ((with_reducible apply ldEl0 H 5); exact rfl; assumption; (case hk => assumption); exact rfl; exact rfl) | ((with_reducible apply ldElS H 5); exact rfl; assumption; (case hk => assumption); exact rfl; exact rfl) | ((with_reducible apply ldElS0 H 5); exact rfl; assumption; (case hk => assumption); exact rfl; exact rfl)))
  refine app1B TRm H 6 rfl 0 rfl D.fl[k] rfl (by omega) (by omega) fun s6 h H => ?_
  repeat (first | with_reducible refine nn ?_ | with_reducible refine let_ ?_ | with_reducible refine brSome ?_ | with_reducible refine brF ?_ | with_reducible refine brT ?_ | ((with_reducible apply ldAt H 0); exact rfl; exact rfl) | ((with_reducible apply ldAt0 H 0); exact rfl; exact rfl) | ((with_reducible apply ldAt H 1); exact rfl; exact rfl) | ((with_reducible apply ldAt0 H 1); exact rfl; exact rfl) | ((with_reducible apply stAt H 0); exact rfl; exact rfl; intro h H) | ((with_reducible apply stAt0 H 0); exact rfl; exact rfl; intro h H) | ((with_reducible apply stAt H 1); exact rfl; exact rfl; intro h H) | ((with_reducible apply stAt0 H 1); exact rfl; exact rfl; intro h H) | ((with_reducible apply allocAt H); intro h b H) | ((with_reducible refine ⟨?_, ?_⟩); first | ((with_reducible apply ldAt H 0); exact rfl; exact rfl; exact rfl) | ((with_reducible apply ldAt0 H 0); exact rfl; exact rfl; exact rfl) | ((with_reducible apply ldAt H 1); exact rfl; exact rfl; exact rfl) | ((with_reducible apply ldAt0 H 1); exact rfl; exact rfl; exact rfl)))
  exact hg k rfl hk _ s6 H.tail
theorem ref34_place_ok {i : Int} {R : Int → Heap → Prop} (H : At hB h (refL d ty s1 s2 w s3 s4 s5 D vl al ++ F)) (W : RdS hB 1 w (eBool.fl ws)) (hw : ws.length = D.l.length) (hb : (i < -1 ∨ (D.l.length : Int) ≤ i) → R (-1) h) (hz : i = -1 → R (D.l.length : Int) h) (hg : ∀ k : Nat, i = k → k < D.l.length → R (k : Int) h) : C_ref34_Deal_place (some ⟨d, 0, none⟩) i h R := by
  refine A_ref34_Deal_place ?_
  unfold S_ref34_Deal_place
  have hwn := rdn W
  refine br beq_iff_eq (fun h1 => ?_) fun h1 => ?_
  · repeat (first | with_reducible refine nn ?_ | with_reducible refine let_ ?_ | with_reducible refine brSome ?_ | with_reducible refine brF ?_ | with_reducible refine brT ?_ | ((with_reducible apply ldAt H 0); exact rfl; exact rfl) | ((with_reducible apply ldAt0 H 0); exact rfl; exact rfl) | ((with_reducible apply stAt H 0); exact rfl; exact rfl; intro h H) | ((with_reducible apply stAt0 H 0); exact rfl; exact rfl; intro h H) | ((with_reducible apply allocAt H); intro h b H) | ((with_reducible refine ⟨?_, ?_⟩); first | ((with_reducible apply ldAt H 0); exact rfl; exact rfl; exact rfl) | ((with_reducible apply ldAt0 H 0); exact rfl; exact rfl; exact rfl)))
    rw [hwn, hw]
    exact hz h1
  · refine brD (fun h2 => hb (by omega)) fun h2 => ?_
    repeat (first | with_reducible refine nn ?_ | with_reducible refine let_ ?_ | with_reducible refine brSome ?_ | with_reducible refine brF ?_ | with_reducible refine brT ?_ | ((with_reducible apply ldAt H 0); exact rfl; exact rfl) | ((with_reducible apply ldAt0 H 0); exact rfl; exact rfl) | ((with_reducible apply stAt H 0); exact rfl; exact rfl; intro h H) | ((with_reducible apply stAt0 H 0); exact rfl; exact rfl; intro h H) | ((with_reducible apply allocAt H); intro h b H) | ((with_reducible refine ⟨?_, ?_⟩); first | ((with_reducible apply ldAt H 0); exact rfl; exact rfl; exact rfl) | ((with_reducible apply ldAt0 H 0); exact rfl; exact rfl; exact rfl)))
    refine brD (fun h3 => hb (by omega)) fun h3 => ?_
    have := hg i.toNat (by omega) (by omega)
    rw [show ((i.toNat : Nat) : Int) = i by omega] at this
    exact this
/-- One participant is another one. -/
theorem refL_set {k : Nat} (hk : k < D.l.length) (y : TPart) (fl : List TMsg) : refL d ty s1 s2 w s3 s4 s5 { D with l := D.l.set k y, fl := fl } vl al =
    [.blk d ty [.slice s1.a s1.n s1.c, .slice s2.a s2.n s2.c, .slice w.a w.n w.c, .slice s3.a s3.n s3.c, .slice s4.a s4.n s4.c, .slice s5.a s5.n s5.c],
     .own s1 1 (eNum.fl ((D.l.map (·.state) ++ [D.bs]).set k y.state)), .own s2 1 (eBool.fl ((D.l.map (·.down) ++ [D.bd]).set k y.down)), .own s3 1 (eNum.fl vl), .own s4 1 (eNum.fl al), .own s5 2 (eMsg.fl fl)] := by
  unfold refL
  rw [row_set (·.state) D.l D.bs hk y, row_set (·.down) D.l D.bd hk y]
theorem row_same {α β : Type} (f : α → β) (l : List α) (a : β) {k : Nat} (hk : k < l.length) {y : β} (h : y = f l[k]) : (l.map f ++ [a]).set k y = l.map f ++ [a] := by
  subst h
  rw [row_set f l a hk l[k], List.set_getElem_self]
theorem ref34_Crash_ok {i : Int} {R : Int → Heap → Prop} (H : At hB h (refL d ty s1 s2 w s3 s4 s5 D vl al ++ F)) (W : RdS hB 1 w (eBool.fl ws)) (hw : ws.length = D.l.length) (V : VR N D vl al)
    (hR : ∀ h', RefAt hB h' d w (N + 1) (onT D i (crashB D) (crashP D)).1 F → R (onT D i (crashB D) (crashP D)).2 h') : C_ref34_Deal_Crash (some ⟨d, 0, none⟩) i h R := by
  refine A_ref34_Deal_Crash ?_
  unfold S_ref34_Deal_Crash
  refine ref34_place_ok H W hw (fun hb => ?_) (fun hz => ?_) fun k hi hk => ?_
  · rw [onT_bad hb] at hR
    exact brT (hR _ ⟨_, _, _, _, _, _, _, _, H, V.of rfl rfl rfl⟩)
  · subst hz
    rw [onT_boss] at hR
    unfold crashB at hR
    refine brN (decide_eq_false (by omega)) ?_
    repeat (first | with_reducible refine nn ?_ | with_reducible refine let_ ?_ | with_reducible refine brSome ?_ | with_reducible refine brF ?_ | with_reducible refine brT ?_ | ((with_reducible apply ldAt H 0); exact rfl; exact rfl) | ((with_reducible apply ldAt0 H 0); exact rfl; exact rfl) | ((with_reducible apply stAt H 0); exact rfl; exact rfl; intro h H) | ((with_reducible apply stAt0 H 0); exact rfl; exact rfl; intro h H) | ((with_reducible apply allocAt H); intro h b H) | ((with_reducible refine ⟨?_, ?_⟩); first | ((with_reducible apply ldAt H 0); exact rfl; exact rfl; exact rfl) | ((with_reducible apply ldAt0 H 0); exact rfl; exact rfl; exact rfl)))
    refine ixAt H 2 rfl D.l.length rfl (by rw [row_len]; omega) fun e he => ?_
    refine ldRow H 2 rfl he D.bd (row_last ..) D.bd rfl ?_
    refine brB (fun hd => ?_) fun hd => ?_
    · rw [if_pos hd] at hR; exact hR _ ⟨_, _, _, _, _, _, _, _, H, V.of rfl rfl rfl⟩
    · rw [if_neg (by rw [hd]; decide)] at hR
      repeat (first | with_reducible refine nn ?_ | with_reducible refine let_ ?_ | with_reducible refine brSome ?_ | with_reducible refine brF ?_ | with_reducible refine brT ?_ | ((with_reducible apply ldAt H 0); exact rfl; exact rfl) | ((with_reducible apply ldAt0 H 0); exact rfl; exact rfl) | ((with_reducible apply stAt H 0); exact rfl; exact rfl; intro h H) | ((with_reducible apply stAt0 H 0); exact rfl; exact rfl; intro h H) | ((with_reducible apply allocAt H); intro h b H) | ((with_reducible refine ⟨?_, ?_⟩); first | ((with_reducible apply ldAt H 0); exact rfl; exact rfl; exact rfl) | ((with_reducible apply ldAt0 H 0); exact rfl; exact rfl; exact rfl)))
      refine ixAt H 2 rfl D.l.length rfl (by rw [row_len]; omega) fun e he => ?_
      refine stEl0 (E := eBool) true H 2 rfl he (by rw [row_len]; omega) rfl fun h H => ?_
      rw [row_set_last] at H
      refine brY rfl ?_
      repeat (first | with_reducible refine nn ?_ | with_reducible refine let_ ?_ | with_reducible refine brSome ?_ | with_reducible refine brF ?_ | with_reducible refine brT ?_ | ((with_reducible apply ldAt H 0); exact rfl; exact rfl) | ((with_reducible apply ldAt0 H 0); exact rfl; exact rfl) | ((with_reducible apply stAt H 0); exact rfl; exact rfl; intro h H) | ((with_reducible apply stAt0 H 0); exact rfl; exact rfl; intro h H) | ((with_reducible apply allocAt H); intro h b H) | ((with_reducible refine ⟨?_, ?_⟩); first | ((with_reducible apply ldAt H 0); exact rfl; exact rfl; exact rfl) | ((with_reducible apply ldAt0 H 0); exact rfl; exact rfl; exact rfl)))
      have H := (H.as_ 3 rfl (.own ⟨none, 0, 0⟩ 1 (eNum.fl [])) (Own.nil _ _) (fun g hg => by simp [Res.fp, Sl.blk] at hg)).as_ 4 rfl (.own ⟨none, 0, 0⟩ 1 (eNum.fl [])) (Own.nil _ _) (fun g hg => by simp [Res.fp, Sl.blk] at hg)
      exact hR _ ⟨_, _, _, ⟨none, 0, 0⟩, ⟨none, 0, 0⟩, _, [], [], H, fun i _ => by simp, fun i _ => by simp, Nat.zero_le _, Nat.zero_le _⟩
  · subst hi
    rw [onT_ok hk] at hR
    unfold crashP at hR
    refine brN (decide_eq_false (by omega)) ?_
    repeat (first | with_reducible refine nn ?_ | with_reducible refine let_ ?_ | with_reducible refine brSome ?_ | with_reducible refine brF ?_ | with_reducible refine brT ?_ | ((with_reducible apply ldAt H 0); exact rfl; exact rfl) | ((with_reducible apply ldAt0 H 0); exact rfl; exact rfl) | ((with_reducible apply stAt H 0); exact rfl; exact rfl; intro h H) | ((with_reducible apply stAt0 H 0); exact rfl; exact rfl; intro h H) | ((with_reducible apply allocAt H); intro h b H) | ((with_reducible refine ⟨?_, ?_⟩); first | ((with_reducible apply ldAt H 0); exact rfl; exact rfl; exact rfl) | ((with_reducible apply ldAt0 H 0); exact rfl; exact rfl; exact rfl)))
    refine ixAt H 2 rfl k rfl (by rw [row_len]; omega) fun e he => ?_
    refine ldRow H 2 rfl he D.l[k].down (row_at _ _ _ hk) D.l[k].down rfl ?_
    refine brB (fun hd => ?_) fun hd => ?_
    · rw [if_pos hd] at hR; exact hR _ ⟨_, _, _, _, _, _, _, _, H, V.of rfl rfl rfl⟩
    · rw [if_neg (by rw [hd]; decide)] at hR
      repeat (first | with_reducible refine nn ?_ | with_reducible refine let_ ?_ | with_reducible refine brSome ?_ | with_reducible refine brF ?_ | with_reducible refine brT ?_ | ((with_reducible apply ldAt H 0); exact rfl; exact rfl) | ((with_reducible apply ldAt0 H 0); exact rfl; exact rfl) | ((with_reducible apply stAt H 0); exact rfl; exact rfl; intro h H) | ((with_reducible apply stAt0 H 0); exact rfl; exact rfl; intro h H) | ((with_reducible apply allocAt H); intro h b H) | ((with_reducible refine ⟨?_, ?_⟩); first | ((with_reducible apply ldAt H 0); exact rfl; exact rfl; exact rfl) | ((with_reducible apply ldAt0 H 0); exact rfl; exact rfl; exact rfl)))
      refine ixAt H 2 rfl k rfl (by rw [row_len]; omega) fun e he => ?_
      refine stEl0 (E := eBool) true H 2 rfl he (by rw [row_len]; omega) rfl fun h H => ?_
      refine brN (beq_eq_false_iff_ne.2 (by omega)) ?_
      refine hR _ ⟨ty, s1, s2, s3, s4, s5, vl, al, ?_, V.of List.length_set rfl rfl⟩
      rw [refL_set hk { D.l[k] with down := true } D.fl, row_same (·.state) D.l D.bs hk rfl]
      exact H
theorem ref34_Start_ok {i : Int} {R : Int → Heap → Prop} (H : At hB h (refL d ty s1 s2 w s3 s4 s5 D vl al ++ F)) (W : RdS hB 1 w (eBool.fl ws)) (hw : ws.length = D.l.length) (V : VR N D vl al)
    (hR : ∀ h', RefAt hB h' d w (N + 1) (onT D i (startB D) (startP D)).1 F → R (onT D i (startB D) (startP D)).2 h') : C_ref34_Deal_Start (some ⟨d, 0, none⟩) i h R := by
  refine A_ref34_Deal_Start ?_
  unfold S_ref34_Deal_Start
  refine ref34_place_ok H W hw (fun hb => ?_) (fun hz => ?_) fun k hi hk => ?_
  · rw [onT_bad hb] at hR
    exact brT (hR _ ⟨_, _, _, _, _, _, _, _, H, V.of rfl rfl rfl⟩)
  · subst hz
    rw [onT_boss] at hR
    unfold startB at hR
    refine brN (decide_eq_false (by omega)) ?_
    repeat (first | with_reducible refine nn ?_ | with_reducible refine let_ ?_ | with_reducible refine brSome ?_ | with_reducible refine brF ?_ | with_reducible refine brT ?_ | ((with_reducible apply ldAt H 0); exact rfl; exact rfl) | ((with_reducible apply ldAt0 H 0); exact rfl; exact rfl) | ((with_reducible apply stAt H 0); exact rfl; exact rfl; intro h H) | ((with_reducible apply stAt0 H 0); exact rfl; exact rfl; intro h H) | ((with_reducible apply allocAt H); intro h b H) | ((with_reducible refine ⟨?_, ?_⟩); first | ((with_reducible apply ldAt H 0); exact rfl; exact rfl; exact rfl) | ((with_reducible apply ldAt0 H 0); exact rfl; exact rfl; exact rfl)))
    refine ixAt H 2 rfl D.l.length rfl (by rw [row_len]; omega) fun e he => ?_
    refine ldRow H 2 rfl he D.bd (row_last ..) D.bd rfl ?_
    refine brNot (fun hd => ?_) fun hd => ?_
    · rw [if_neg (by rw [hd]; decide)] at hR; exact hR _ ⟨_, _, _, _, _, _, _, _, H, V.of rfl rfl rfl⟩
    · rw [if_pos hd] at hR
      repeat (first | with_reducible refine nn ?_ | with_reducible refine let_ ?_ | with_reducible refine brSome ?_ | with_reducible refine brF ?_ | with_reducible refine brT ?_ | ((with_reducible apply ldAt H 0); exact rfl; exact rfl) | ((with_reducible apply ldAt0 H 0); exact rfl; exact rfl) | ((with_reducible apply stAt H 0); exact rfl; exact rfl; intro h H) | ((with_reducible apply stAt0 H 0); exact rfl; exact rfl; intro h H) | ((with_reducible apply allocAt H); intro h b H) | ((with_reducible refine ⟨?_, ?_⟩); first | ((with_reducible apply ldAt H 0); exact rfl; exact rfl; exact rfl) | ((with_reducible apply ldAt0 H 0); exact rfl; exact rfl; exact rfl)))
      refine ixAt H 2 rfl D.l.length rfl (by rw [row_len]; omega) fun e he => ?_
      refine stEl0 (E := eBool) false H 2 rfl he (by rw [row_len]; omega) rfl fun h H => ?_
      rw [row_set_last] at H
      refine brY rfl ?_
      repeat (first | with_reducible refine nn ?_ | with_reducible refine let_ ?_ | with_reducible refine brSome ?_ | with_reducible refine brF ?_ | with_reducible refine brT ?_ | ((with_reducible apply ldAt H 0); exact rfl; exact rfl) | ((with_reducible apply ldAt0 H 0); exact rfl; exact rfl) | ((with_reducible apply stAt H 0); exact rfl; exact rfl; intro h H) | ((with_reducible apply stAt0 H 0); exact rfl; exact rfl; intro h H) | ((with_reducible apply allocAt H); intro h b H) | ((with_reducible refine ⟨?_, ?_⟩); first | ((with_reducible apply ldAt H 0); exact rfl; exact rfl; exact rfl) | ((with_reducible apply ldAt0 H 0); exact rfl; exact rfl; exact rfl)))
      refine ixAt H 1 rfl D.l.length rfl (by rw [row_len]; omega) fun e he => ?_
      refine ldRow H 1 rfl he D.bs (row_last ..) D.bs rfl ?_
      refine br beq_iff_eq (fun h0 => ?_) fun h0 => ?_
      · rw [if_pos h0] at hR
        repeat (first | with_reducible refine nn ?_ | with_reducible refine let_ ?_ | with_reducible refine brSome ?_ | with_reducible refine brF ?_ | with_reducible refine brT ?_ | ((with_reducible apply ldAt H 0); exact rfl; exact rfl) | ((with_reducible apply ldAt0 H 0); exact rfl; exact rfl) | ((with_reducible apply stAt H 0); exact rfl; exact rfl; intro h H) | ((with_reducible apply stAt0 H 0); exact rfl; exact rfl; intro h H) | ((with_reducible apply allocAt H); intro h b H) | ((with_reducible refine ⟨?_, ?_⟩); first | ((with_reducible apply ldAt H 0); exact rfl; exact rfl; exact rfl) | ((with_reducible apply ldAt0 H 0); exact rfl; exact rfl; exact rfl)))
        refine ixAt H 1 rfl D.l.length rfl (by rw [row_len]; omega) fun e he => ?_
        refine stEl0 (E := eNum) 3 H 1 rfl he (by rw [row_len]; omega) rfl fun h H => ?_
        rw [row_set_last] at H
        exact hR _ ⟨_, _, _, _, _, _, _, _, H, V.of rfl rfl rfl⟩
      · rw [if_neg h0] at hR
        exact hR _ ⟨_, _, _, _, _, _, _, _, H, V.of rfl rfl rfl⟩
  · subst hi
    rw [onT_ok hk] at hR
    unfold startP at hR
    refine brN (decide_eq_false (by omega)) ?_
    repeat (first | with_reducible refine nn ?_ | with_reducible refine let_ ?_ | with_reducible refine brSome ?_ | with_reducible refine brF ?_ | with_reducible refine brT ?_ | ((with_reducible apply ldAt H 0); exact rfl; exact rfl) | ((with_reducible apply ldAt0 H 0); exact rfl; exact rfl) | ((with_reducible apply stAt H 0); exact rfl; exact rfl; intro h H) | ((with_reducible apply stAt0 H 0); exact rfl; exact rfl; intro h H) | ((with_reducible apply allocAt H); intro h b H) | ((with_reducible refine ⟨?_, ?_⟩); first | ((with_reducible apply ldAt H 0); exact rfl; exact rfl; exact rfl) | ((with_reducible apply ldAt0 H 0); exact rfl; exact rfl; exact rfl)))
    refine ixAt H 2 rfl k rfl (by rw [row_len]; omega) fun e he => ?_
    refine ldRow H 2 rfl he D.l[k].down (row_at _ _ _ hk) D.l[k].down rfl ?_
    refine brNot (fun hd => ?_) fun hd => ?_
    · rw [if_neg (by rw [hd]; decide)] at hR; exact hR _ ⟨_, _, _, _, _, _, _, _, H, V.of rfl rfl rfl⟩
    · rw [if_pos hd] at hR
      repeat (first | with_reducible refine nn ?_ | with_reducible refine let_ ?_ | with_reducible refine brSome ?_ | with_reducible refine brF ?_ | with_reducible refine brT ?_ | ((with_reducible apply ldAt H 0); exact rfl; exact rfl) | ((with_reducible apply ldAt0 H 0); exact rfl; exact rfl) | ((with_reducible apply stAt H 0); exact rfl; exact rfl; intro h H) | ((with_reducible apply stAt0 H 0); exact rfl; exact rfl; intro h H) | ((with_reducible apply allocAt H); intro h b H) | ((with_reducible refine ⟨?_, ?_⟩); first | ((with_reducible apply ldAt H 0); exact rfl; exact rfl; exact rfl) | ((with_reducible apply ldAt0 H 0); exact rfl; exact rfl; exact rfl)))
      refine ixAt H 2 rfl k rfl (by rw [row_len]; omega) fun e he => ?_
      refine stEl0 (E := eBool) false H 2 rfl he (by rw [row_len]; omega) rfl fun h H => ?_
      refine brN (beq_eq_false_iff_ne.2 (by omega)) ?_
      refine hR _ ⟨ty, s1, s2, s3, s4, s5, vl, al, ?_, V.of List.length_set rfl rfl⟩
      rw [refL_set hk { D.l[k] with down := false } D.fl, row_same (·.state) D.l D.bs hk rfl]
      exact H
/-! ## What comes -/
theorem askT_ok {k : Nat} {R : Int → Heap → Prop} {F : List Res} (H : At hB h (refL d ty s1 s2 w s3 s4 s5 D vl al ++ F)) (hl : D.fl.length ≤ 7000000) (hk : k < D.l.length) (V : VR N D vl al)
    (hR : ∀ h', RefAt hB h' d w (N + 1) (askedM D k D.l[k]) F → R 0 h') : askT (some ⟨d, 0, none⟩) (k : Int) R (askS D.l[k]) h := by
  unfold askT
  repeat (first | with_reducible refine nn ?_ | with_reducible refine let_ ?_ | with_reducible refine brSome ?_ | with_reducible refine brF ?_ | with_reducible refine brT ?_ | ((with_reducible apply ldAt H 0); exact rfl; exact rfl) | ((with_reducible apply ldAt0 H 0); exact rfl; exact rfl) | ((with_reducible apply stAt H 0); exact rfl; exact rfl; intro h H) | ((with_reducible apply stAt0 H 0); exact rfl; exact rfl; intro h H) | ((with_reducible apply allocAt H); intro h b H) | ((with_reducible refine ⟨?_, ?_⟩); first | ((with_reducible apply ldAt H 0); exact rfl; exact rfl; exact rfl) | ((with_reducible apply ldAt0 H 0); exact rfl; exact rfl; exact rfl)))
  refine ixAt H 1 rfl k rfl (by rw [row_len]; omega) fun e he => ?_
  refine stEl0 (E := eNum) (askS D.l[k]) H 1 rfl he (by rw [row_len]; omega) rfl fun h H => ?_
  have H : At hB h (refL d ty s1 s2 w s3 s4 s5 { D with l := D.l.set k { D.l[k] with state := askS D.l[k] } } vl al ++ F) := by
    rw [refL_set hk { D.l[k] with state := askS D.l[k] } D.fl, row_same (·.down) D.l D.bd hk rfl]
    exact H
  refine join1 (s1 := .one (.int .i64)) (fun (a : Int) h1 => h1 = h ∧ a = if askS D.l[k] = 3 then 3 else 2) (fun _ (a : Int) h1 hJ => ?_) ?_
  · obtain ⟨rfl, rfl⟩ := hJ
    repeat (first | with_reducible refine nn ?_ | with_reducible refine let_ ?_ | with_reducible refine brSome ?_ | with_reducible refine brF ?_ | with_reducible refine brT ?_ | ((with_reducible apply ldAt H 0); exact rfl; exact rfl) | ((with_reducible apply ldAt0 H 0); exact rfl; exact rfl) | ((with_reducible apply stAt H 0); exact rfl; exact rfl; intro h H) | ((with_reducible apply stAt0 H 0); exact rfl; exact rfl; intro h H) | ((with_reducible apply allocAt H); intro h b H) | ((with_reducible refine ⟨?_, ?_⟩); first | ((with_reducible apply ldAt H 0); exact rfl; exact rfl; exact rfl) | ((with_reducible apply ldAt0 H 0); exact rfl; exact rfl; exact rfl)))
    refine app1B TRm H 6 rfl 0 rfl ⟨if askS D.l[k] = 3 then 3 else 2, k⟩ rfl (by show (D.fl.length + 1) * 16 ≤ _; omega) (by show D.fl.length + 1 ≤ _; omega) fun s6 h H => ?_
    repeat (first | with_reducible refine nn ?_ | with_reducible refine let_ ?_ | with_reducible refine brSome ?_ | with_reducible refine brF ?_ | with_reducible refine brT ?_ | ((with_reducible apply ldAt H 0); exact rfl; exact rfl) | ((with_reducible apply ldAt0 H 0); exact rfl; exact rfl) | ((with_reducible apply ldAt H 1); exact rfl; exact rfl) | ((with_reducible apply ldAt0 H 1); exact rfl; exact rfl) | ((with_reducible apply stAt H 0); exact rfl; exact rfl; intro h H) | ((with_reducible apply stAt0 H 0); exact rfl; exact rfl; intro h H) | ((with_reducible apply stAt H 1); exact rfl; exact rfl; intro h H) | ((with_reducible apply stAt0 H 1); exact rfl; exact rfl; intro h H) | ((with_reducible apply allocAt H); intro h b H) | ((with_reducible refine ⟨?_, ?_⟩); first | ((with_reducible apply ldAt H 0); exact rfl; exact rfl; exact rfl) | ((with_reducible apply ldAt0 H 0); exact rfl; exact rfl; exact rfl) | ((with_reducible apply ldAt H 1); exact rfl; exact rfl; exact rfl) | ((with_reducible apply ldAt0 H 1); exact rfl; exact rfl; exact rfl)))
    exact hR _ ⟨ty, s1, s2, s3, s4, s6, vl, al, H.tail, V.of List.length_set rfl rfl⟩
  · refine br beq_iff_eq (fun h3 => ⟨rfl, ?_⟩) fun h3 => ⟨rfl, ?_⟩
    · rw [if_pos h3]
    · rw [if_neg h3]
theorem ackT_ok {k : Nat} {R : Int → Heap → Prop} {F : List Res} (H : At hB h (refL d ty s1 s2 w s3 s4 s5 D vl al ++ F)) (hl : D.fl.length ≤ 7000000) (V : VR N D vl al)
    (hR : ∀ h', RefAt hB h' d w (N + 1) { D with fl := D.fl ++ [⟨6, k⟩] } F → R 0 h') : ackT (some ⟨d, 0, none⟩) (k : Int) R h := by
  unfold ackT
  repeat (first | with_reducible refine nn ?_ | with_reducible refine let_ ?_ | with_reducible refine brSome ?_ | with_reducible refine brF ?_ | with_reducible refine brT ?_ | ((with_reducible apply ldAt H 0); exact rfl; exact rfl) | ((with_reducible apply ldAt0 H 0); exact rfl; exact rfl) | ((with_reducible apply stAt H 0); exact rfl; exact rfl; intro h H) | ((with_reducible apply stAt0 H 0); exact rfl; exact rfl; intro h H) | ((with_reducible apply allocAt H); intro h b H) | ((with_reducible refine ⟨?_, ?_⟩); first | ((with_reducible apply ldAt H 0); exact rfl; exact rfl; exact rfl) | ((with_reducible apply ldAt0 H 0); exact rfl; exact rfl; exact rfl)))
  refine app1B TRm H 6 rfl 0 rfl ⟨6, k⟩ rfl (by omega) (by omega) fun s6 h H => ?_
  repeat (first | with_reducible refine nn ?_ | with_reducible refine let_ ?_ | with_reducible refine brSome ?_ | with_reducible refine brF ?_ | with_reducible refine brT ?_ | ((with_reducible apply ldAt H 0); exact rfl; exact rfl) | ((with_reducible apply ldAt0 H 0); exact rfl; exact rfl) | ((with_reducible apply ldAt H 1); exact rfl; exact rfl) | ((with_reducible apply ldAt0 H 1); exact rfl; exact rfl) | ((with_reducible apply stAt H 0); exact rfl; exact rfl; intro h H) | ((with_reducible apply stAt0 H 0); exact rfl; exact rfl; intro h H) | ((with_reducible apply stAt H 1); exact rfl; exact rfl; intro h H) | ((with_reducible apply stAt0 H 1); exact rfl; exact rfl; intro h H) | ((with_reducible apply allocAt H); intro h b H) | ((with_reducible refine ⟨?_, ?_⟩); first | ((with_reducible apply ldAt H 0); exact rfl; exact rfl; exact rfl) | ((with_reducible apply ldAt0 H 0); exact rfl; exact rfl; exact rfl) | ((with_reducible apply ldAt H 1); exact rfl; exact rfl; exact rfl) | ((with_reducible apply ldAt0 H 1); exact rfl; exact rfl; exact rfl)))
  exact hR _ ⟨ty, s1, s2, s3, s4, s6, vl, al, H.tail, V.of rfl rfl rfl⟩
set_option maxHeartbeats 1600000 in
theorem toT_part {m : TMsg} {c : Nat} {tc : TypeId} {R : Int → Heap → Prop} {F : List Res} (H : At hB h (refL d ty s1 s2 w s3 s4 s5 D vl al ++ (.blk c tc [.int .i64 m.kind, .int .i64 (m.who : Int)] :: F))) (W : RdS hB 1 w (eBool.fl ws)) (hw : D.l.map (·.willing) = ws) (hl : D.fl.length ≤ 7000000) (hm : m.who < D.l.length) (hst : 0 ≤ D.l[m.who].state) (V : VR N D vl al) (hp : toPart m)
    (h1 : D.l[m.who].down = true → R 12 h) (h2 : D.l[m.who].down = false → m.kind = 1 → ∀ h', RefAt hB h' d w (N + 1) (askedM D m.who D.l[m.who]) (.blk c tc [.int .i64 m.kind, .int .i64 (m.who : Int)] :: F) → R 0 h')
    (h3 : D.l[m.who].down = false → m.kind ≠ 1 → ∀ h', RefAt hB h' d w (N + 1) (toldM D m.who m.kind D.l[m.who]) (.blk c tc [.int .i64 m.kind, .int .i64 (m.who : Int)] :: F) → R 0 h') : toT (some ⟨d, 0, none⟩) ⟨c, 0, none⟩ R (m.who : Int) h := by
  unfold toT
  have hwn := rdn W
  have hwl : ws.length = D.l.length := by rw [← hw, List.length_map]
  repeat (first | with_reducible refine nn ?_ | with_reducible refine let_ ?_ | with_reducible refine brSome ?_ | with_reducible refine brF ?_ | with_reducible refine brT ?_ | ((with_reducible apply ldAt H 0); exact rfl; exact rfl) | ((with_reducible apply ldAt0 H 0); exact rfl; exact rfl) | ((with_reducible apply stAt H 0); exact rfl; exact rfl; intro h H) | ((with_reducible apply stAt0 H 0); exact rfl; exact rfl; intro h H) | ((with_reducible apply allocAt H); intro h b H) | ((with_reducible refine ⟨?_, ?_⟩); first | ((with_reducible apply ldAt H 0); exact rfl; exact rfl; exact rfl) | ((with_reducible apply ldAt0 H 0); exact rfl; exact rfl; exact rfl)))
  refine ixAt H 2 rfl m.who rfl (by rw [row_len]; omega) fun e he => ?_
  refine ldRow H 2 rfl he D.l[m.who].down (row_at _ _ _ hm) D.l[m.who].down rfl ?_
  refine brB (fun hd => h1 hd) fun hd => ?_
  repeat (first | with_reducible refine nn ?_ | with_reducible refine let_ ?_ | with_reducible refine brSome ?_ | with_reducible refine brF ?_ | with_reducible refine brT ?_ | ((with_reducible apply ldAt H 0); exact rfl; exact rfl) | ((with_reducible apply ldAt0 H 0); exact rfl; exact rfl) | ((with_reducible apply stAt H 0); exact rfl; exact rfl; intro h H) | ((with_reducible apply stAt0 H 0); exact rfl; exact rfl; intro h H) | ((with_reducible apply allocAt H); intro h b H) | ((with_reducible refine ⟨?_, ?_⟩); first | ((with_reducible apply ldAt H 0); exact rfl; exact rfl; exact rfl) | ((with_reducible apply ldAt0 H 0); exact rfl; exact rfl; exact rfl)))
  refine ixAt H 1 rfl m.who rfl (by rw [row_len]; omega) fun e he => ?_
  refine ldRow H 1 rfl he D.l[m.who].state (row_at _ _ _ hm) D.l[m.who].state rfl ?_
  repeat (first | with_reducible refine nn ?_ | with_reducible refine let_ ?_ | with_reducible refine brSome ?_ | with_reducible refine brF ?_ | with_reducible refine brT ?_ | ((with_reducible apply ldAt H 6); exact rfl; exact rfl) | ((with_reducible apply ldAt0 H 6); exact rfl; exact rfl) | ((with_reducible apply stAt H 6); exact rfl; exact rfl; intro h H) | ((with_reducible apply stAt0 H 6); exact rfl; exact rfl; intro h H) | ((with_reducible apply allocAt H); intro h b H) | ((with_reducible refine ⟨?_, ?_⟩); first | ((with_reducible apply ldAt H 6); exact rfl; exact rfl; exact rfl) | ((with_reducible apply ldAt0 H 6); exact rfl; exact rfl; exact rfl)))
  refine br beq_iff_eq (fun hk1 => ?_) fun hk1 => ?_
  · have h2 := h2 hd hk1
    refine br beq_iff_eq (fun hs => ?_) fun hs => ?_
    · repeat (first | with_reducible refine nn ?_ | with_reducible refine let_ ?_ | with_reducible refine brSome ?_ | with_reducible refine brF ?_ | with_reducible refine brT ?_ | ((with_reducible apply ldAt H 0); exact rfl; exact rfl) | ((with_reducible apply ldAt0 H 0); exact rfl; exact rfl) | ((with_reducible apply stAt H 0); exact rfl; exact rfl; intro h H) | ((with_reducible apply stAt0 H 0); exact rfl; exact rfl; intro h H) | ((with_reducible apply allocAt H); intro h b H) | ((with_reducible refine ⟨?_, ?_⟩); first | ((with_reducible apply ldAt H 0); exact rfl; exact rfl; exact rfl) | ((with_reducible apply ldAt0 H 0); exact rfl; exact rfl; exact rfl)))
      have hwi : ws[m.who]? = some D.l[m.who].willing := by rw [← hw, List.getElem?_map, List.getElem?_eq_getElem hm]; rfl
      obtain ⟨hlt, hwe⟩ := List.getElem?_eq_some_iff.1 hwi
      refine ixR (H.arg W) m.who rfl hlt fun e he => ?_
      refine ldR0 (H.arg W) he hlt D.l[m.who].willing (by rw [hwe]; rfl) ?_
      refine join1 (s1 := .one (.int .i64)) (fun (s : Int) h1 => h1 = h ∧ s = askS D.l[m.who]) (fun _ (s : Int) h1 hJ => ?_) ?_
      · obtain ⟨rfl, rfl⟩ := hJ
        exact askT_ok H hl hm V h2
      · refine brB (fun hww => ⟨rfl, ?_⟩) fun hww => brY (beq_iff_eq.2 hs) ⟨rfl, ?_⟩
        · unfold askS; rw [if_pos hs, if_pos hww]
        · unfold askS; rw [if_pos hs, if_neg (by rw [hww]; decide)]
    · refine join1 (s1 := .one (.int .i64)) (fun (s : Int) h1 => h1 = h ∧ s = askS D.l[m.who]) (fun _ (s : Int) h1 hJ => ?_) ?_
      · obtain ⟨rfl, rfl⟩ := hJ
        exact askT_ok H hl hm V h2
      · refine brN (beq_eq_false_iff_ne.2 hs) ⟨rfl, ?_⟩
        unfold askS; rw [if_neg hs]
  · have h3 := h3 hd hk1
    have fin : ∀ {s : Int} {h' : Heap}, tellS m.kind D.l[m.who] = s → At hB h' (refL d ty s1 s2 w s3 s4 s5 { D with l := D.l.set m.who { D.l[m.who] with state := s } } vl al ++ (.blk c tc [.int .i64 m.kind, .int .i64 (m.who : Int)] :: F)) → ackT (some ⟨d, 0, none⟩) (m.who : Int) R h' := fun e H => by
      unfold toldM at h3
      rw [e] at h3
      exact ackT_ok (N := N) H hl ⟨fun i hi => V.v i (by rw [List.length_set] at hi; exact hi), fun i hi => V.a i (by rw [List.length_set] at hi; exact hi), V.vn, V.an⟩ h3
    have same : ∀ {h' : Heap}, tellS m.kind D.l[m.who] = D.l[m.who].state → At hB h' (refL d ty s1 s2 w s3 s4 s5 D vl al ++ (.blk c tc [.int .i64 m.kind, .int .i64 (m.who : Int)] :: F)) → ackT (some ⟨d, 0, none⟩) (m.who : Int) R h' := fun e H => by
      refine fin e ?_
      rw [show D.l.set m.who { D.l[m.who] with state := D.l[m.who].state } = D.l from List.set_getElem_self ..]
      exact H
    repeat (first | with_reducible refine nn ?_ | with_reducible refine let_ ?_ | with_reducible refine brSome ?_ | with_reducible refine brF ?_ | with_reducible refine brT ?_ | ((with_reducible apply ldAt H 6); exact rfl; exact rfl) | ((with_reducible apply ldAt0 H 6); exact rfl; exact rfl) | ((with_reducible apply stAt H 6); exact rfl; exact rfl; intro h H) | ((with_reducible apply stAt0 H 6); exact rfl; exact rfl; intro h H) | ((with_reducible apply allocAt H); intro h b H) | ((with_reducible refine ⟨?_, ?_⟩); first | ((with_reducible apply ldAt H 6); exact rfl; exact rfl; exact rfl) | ((with_reducible apply ldAt0 H 6); exact rfl; exact rfl; exact rfl)))
    refine br beq_iff_eq (fun hk4 => ?_) fun hk4 => ?_
    · refine join0 (fun h' => ackT (some ⟨d, 0, none⟩) (m.who : Int) R h') (fun _ h' hJ => hJ) ?_
      refine br beq_iff_eq (fun hs => ?_) fun hs => ?_
      · repeat (first | with_reducible refine nn ?_ | with_reducible refine let_ ?_ | with_reducible refine brSome ?_ | with_reducible refine brF ?_ | with_reducible refine brT ?_ | ((with_reducible apply ldAt H 0); exact rfl; exact rfl) | ((with_reducible apply ldAt0 H 0); exact rfl; exact rfl) | ((with_reducible apply stAt H 0); exact rfl; exact rfl; intro h H) | ((with_reducible apply stAt0 H 0); exact rfl; exact rfl; intro h H) | ((with_reducible apply allocAt H); intro h b H) | ((with_reducible refine ⟨?_, ?_⟩); first | ((with_reducible apply ldAt H 0); exact rfl; exact rfl; exact rfl) | ((with_reducible apply ldAt0 H 0); exact rfl; exact rfl; exact rfl)))
        refine ixAt H 1 rfl m.who rfl (by rw [row_len]; omega) fun e he => ?_
        refine stEl0 (E := eNum) 2 H 1 rfl he (by rw [row_len]; omega) rfl fun h H => ?_
        refine fin (by unfold tellS; rw [if_pos ⟨hk4, hs⟩]) ?_
        rw [refL_set hm { D.l[m.who] with state := 2 } D.fl, row_same (·.down) D.l D.bd hm rfl]
        exact H
      · exact same (by unfold tellS; rw [if_neg fun x => hs x.2, if_neg (by omega)]) H
    · repeat (first | with_reducible refine nn ?_ | with_reducible refine let_ ?_ | with_reducible refine brSome ?_ | with_reducible refine brF ?_ | with_reducible refine brT ?_ | ((with_reducible apply ldAt H 6); exact rfl; exact rfl) | ((with_reducible apply ldAt0 H 6); exact rfl; exact rfl) | ((with_reducible apply stAt H 6); exact rfl; exact rfl; intro h H) | ((with_reducible apply stAt0 H 6); exact rfl; exact rfl; intro h H) | ((with_reducible apply allocAt H); intro h b H) | ((with_reducible refine ⟨?_, ?_⟩); first | ((with_reducible apply ldAt H 6); exact rfl; exact rfl; exact rfl) | ((with_reducible apply ldAt0 H 6); exact rfl; exact rfl; exact rfl)))
      have hk5 : m.kind = 5 := by rcases hp with x | x | x; exact absurd x hk1; exact absurd x hk4; exact x
      refine brY (beq_iff_eq.2 hk5) ?_
      refine join0 (fun h' => ackT (some ⟨d, 0, none⟩) (m.who : Int) R h') (fun _ h' hJ => hJ) ?_
      refine brD (fun hs => ?_) fun hs => ?_
      · repeat (first | with_reducible refine nn ?_ | with_reducible refine let_ ?_ | with_reducible refine brSome ?_ | with_reducible refine brF ?_ | with_reducible refine brT ?_ | ((with_reducible apply ldAt H 0); exact rfl; exact rfl) | ((with_reducible apply ldAt0 H 0); exact rfl; exact rfl) | ((with_reducible apply stAt H 0); exact rfl; exact rfl; intro h H) | ((with_reducible apply stAt0 H 0); exact rfl; exact rfl; intro h H) | ((with_reducible apply allocAt H); intro h b H) | ((with_reducible refine ⟨?_, ?_⟩); first | ((with_reducible apply ldAt H 0); exact rfl; exact rfl; exact rfl) | ((with_reducible apply ldAt0 H 0); exact rfl; exact rfl; exact rfl)))
        refine ixAt H 1 rfl m.who rfl (by rw [row_len]; omega) fun e he => ?_
        refine stEl0 (E := eNum) 3 H 1 rfl he (by rw [row_len]; omega) rfl fun h H => ?_
        refine fin (by unfold tellS; rw [if_neg (by omega), if_pos ⟨hk5, by omega⟩]) ?_
        rw [refL_set hm { D.l[m.who] with state := 3 } D.fl, row_same (·.down) D.l D.bd hm rfl]
        exact H
      · exact same (by unfold tellS; rw [if_neg (by omega), if_neg (by omega)]) H
set_option maxHeartbeats 1600000 in
theorem toT_boss {m : TMsg} {c : Nat} {tc : TypeId} {R : Int → Heap → Prop} {F : List Res} (H : At hB h (refL d ty s1 s2 w s3 s4 s5 D vl al ++ (.blk c tc [.int .i64 m.kind, .int .i64 (m.who : Int)] :: F))) (W : RdS hB 1 w (eBool.fl ws)) (hw : D.l.map (·.willing) = ws) (ho : TOk N D) (hN : N + 1 ≤ 1000000) (hm : m.who < D.l.length) (V : VR N D vl al) (hp : m.kind = 2 ∨ m.kind = 3 ∨ m.kind = 6)
    (h1 : D.bd = true → R 12 h) (h2 : D.bd = false → ∀ h', RefAt hB h' d w (N + 1) (votedM D m.who m.kind) (.blk c tc [.int .i64 m.kind, .int .i64 (m.who : Int)] :: F) → R 0 h') : toT (some ⟨d, 0, none⟩) ⟨c, 0, none⟩ R (D.l.length : Int) h := by
  unfold toT
  have hwn := rdn W
  have hwl : ws.length = D.l.length := by rw [← hw, List.length_map]
  have hl := ho.fl
  have h7 := ho.n7.2
  have hvn := V.vn
  have han := V.an
  repeat (first | with_reducible refine nn ?_ | with_reducible refine let_ ?_ | with_reducible refine brSome ?_ | with_reducible refine brF ?_ | with_reducible refine brT ?_ | ((with_reducible apply ldAt H 0); exact rfl; exact rfl) | ((with_reducible apply ldAt0 H 0); exact rfl; exact rfl) | ((with_reducible apply stAt H 0); exact rfl; exact rfl; intro h H) | ((with_reducible apply stAt0 H 0); exact rfl; exact rfl; intro h H) | ((with_reducible apply allocAt H); intro h b H) | ((with_reducible refine ⟨?_, ?_⟩); first | ((with_reducible apply ldAt H 0); exact rfl; exact rfl; exact rfl) | ((with_reducible apply ldAt0 H 0); exact rfl; exact rfl; exact rfl)))
  refine ixAt H 2 rfl D.l.length rfl (by rw [row_len]; omega) fun e he => ?_
  refine ldRow H 2 rfl he D.bd (row_last ..) D.bd rfl ?_
  refine brB (fun hd => h1 hd) fun hd => ?_
  have h2 := h2 hd
  unfold votedM at h2
  repeat (first | with_reducible refine nn ?_ | with_reducible refine let_ ?_ | with_reducible refine brSome ?_ | with_reducible refine brF ?_ | with_reducible refine brT ?_ | ((with_reducible apply ldAt H 0); exact rfl; exact rfl) | ((with_reducible apply ldAt0 H 0); exact rfl; exact rfl) | ((with_reducible apply stAt H 0); exact rfl; exact rfl; intro h H) | ((with_reducible apply stAt0 H 0); exact rfl; exact rfl; intro h H) | ((with_reducible apply allocAt H); intro h b H) | ((with_reducible refine ⟨?_, ?_⟩); first | ((with_reducible apply ldAt H 0); exact rfl; exact rfl; exact rfl) | ((with_reducible apply ldAt0 H 0); exact rfl; exact rfl; exact rfl)))
  refine ixAt H 1 rfl D.l.length rfl (by rw [row_len]; omega) fun e he => ?_
  refine ldRow H 1 rfl he D.bs (row_last ..) D.bs rfl ?_
  repeat (first | with_reducible refine nn ?_ | with_reducible refine let_ ?_ | with_reducible refine brSome ?_ | with_reducible refine brF ?_ | with_reducible refine brT ?_ | ((with_reducible apply ldAt H 6); exact rfl; exact rfl) | ((with_reducible apply ldAt0 H 6); exact rfl; exact rfl) | ((with_reducible apply stAt H 6); exact rfl; exact rfl; intro h H) | ((with_reducible apply stAt0 H 6); exact rfl; exact rfl; intro h H) | ((with_reducible apply allocAt H); intro h b H) | ((with_reducible refine ⟨?_, ?_⟩); first | ((with_reducible apply ldAt H 6); exact rfl; exact rfl; exact rfl) | ((with_reducible apply ldAt0 H 6); exact rfl; exact rfl; exact rfl)))
  refine brN (beq_eq_false_iff_ne.2 (by omega)) ?_
  repeat (first | with_reducible refine nn ?_ | with_reducible refine let_ ?_ | with_reducible refine brSome ?_ | with_reducible refine brF ?_ | with_reducible refine brT ?_ | ((with_reducible apply ldAt H 6); exact rfl; exact rfl) | ((with_reducible apply ldAt0 H 6); exact rfl; exact rfl) | ((with_reducible apply stAt H 6); exact rfl; exact rfl; intro h H) | ((with_reducible apply stAt0 H 6); exact rfl; exact rfl; intro h H) | ((with_reducible apply allocAt H); intro h b H) | ((with_reducible refine ⟨?_, ?_⟩); first | ((with_reducible apply ldAt H 6); exact rfl; exact rfl; exact rfl) | ((with_reducible apply ldAt0 H 6); exact rfl; exact rfl; exact rfl)))
  refine brN (beq_eq_false_iff_ne.2 (by omega)) ?_
  repeat (first | with_reducible refine nn ?_ | with_reducible refine let_ ?_ | with_reducible refine brSome ?_ | with_reducible refine brF ?_ | with_reducible refine brT ?_ | ((with_reducible apply ldAt H 6); exact rfl; exact rfl) | ((with_reducible apply ldAt0 H 6); exact rfl; exact rfl) | ((with_reducible apply stAt H 6); exact rfl; exact rfl; intro h H) | ((with_reducible apply stAt0 H 6); exact rfl; exact rfl; intro h H) | ((with_reducible apply allocAt H); intro h b H) | ((with_reducible refine ⟨?_, ?_⟩); first | ((with_reducible apply ldAt H 6); exact rfl; exact rfl; exact rfl) | ((with_reducible apply ldAt0 H 6); exact rfl; exact rfl; exact rfl)))
  refine brN (beq_eq_false_iff_ne.2 (by omega)) ?_
  repeat (first | with_reducible refine nn ?_ | with_reducible refine let_ ?_ | with_reducible refine brSome ?_ | with_reducible refine brF ?_ | with_reducible refine brT ?_ | ((with_reducible apply ldAt H 6); exact rfl; exact rfl) | ((with_reducible apply ldAt0 H 6); exact rfl; exact rfl) | ((with_reducible apply stAt H 6); exact rfl; exact rfl; intro h H) | ((with_reducible apply stAt0 H 6); exact rfl; exact rfl; intro h H) | ((with_reducible apply allocAt H); intro h b H) | ((with_reducible refine ⟨?_, ?_⟩); first | ((with_reducible apply ldAt H 6); exact rfl; exact rfl; exact rfl) | ((with_reducible apply ldAt0 H 6); exact rfl; exact rfl; exact rfl)))
  refine br beq_iff_eq (fun hk6 => ?_) fun hk6 => ?_
  · rw [if_pos hk6] at h2
    repeat (first | with_reducible refine nn ?_ | with_reducible refine let_ ?_ | with_reducible refine brSome ?_ | with_reducible refine brF ?_ | with_reducible refine brT ?_ | ((with_reducible apply ldAt H 0); exact rfl; exact rfl) | ((with_reducible apply ldAt0 H 0); exact rfl; exact rfl) | ((with_reducible apply ldAt H 6); exact rfl; exact rfl) | ((with_reducible apply ldAt0 H 6); exact rfl; exact rfl) | ((with_reducible apply stAt H 0); exact rfl; exact rfl; intro h H) | ((with_reducible apply stAt0 H 0); exact rfl; exact rfl; intro h H) | ((with_reducible apply stAt H 6); exact rfl; exact rfl; intro h H) | ((with_reducible apply stAt0 H 6); exact rfl; exact rfl; intro h H) | ((with_reducible apply allocAt H); intro h b H) | ((with_reducible refine ⟨?_, ?_⟩); first | ((with_reducible apply ldAt H 0); exact rfl; exact rfl; exact rfl) | ((with_reducible apply ldAt0 H 0); exact rfl; exact rfl; exact rfl) | ((with_reducible apply ldAt H 6); exact rfl; exact rfl; exact rfl) | ((with_reducible apply ldAt0 H 6); exact rfl; exact rfl; exact rfl)))
    refine ⟨ldAt H 1 rfl _ rfl rfl, ?_⟩
    refine app1B TNum H 5 rfl 0 rfl (m.who : Int) rfl (by omega) (by omega) fun s6 h H => ?_
    repeat (first | with_reducible refine nn ?_ | with_reducible refine let_ ?_ | with_reducible refine brSome ?_ | with_reducible refine brF ?_ | with_reducible refine brT ?_ | ((with_reducible apply ldAt H 0); exact rfl; exact rfl) | ((with_reducible apply ldAt0 H 0); exact rfl; exact rfl) | ((with_reducible apply ldAt H 1); exact rfl; exact rfl) | ((with_reducible apply ldAt0 H 1); exact rfl; exact rfl) | ((with_reducible apply stAt H 0); exact rfl; exact rfl; intro h H) | ((with_reducible apply stAt0 H 0); exact rfl; exact rfl; intro h H) | ((with_reducible apply stAt H 1); exact rfl; exact rfl; intro h H) | ((with_reducible apply stAt0 H 1); exact rfl; exact rfl; intro h H) | ((with_reducible apply allocAt H); intro h b H) | ((with_reducible refine ⟨?_, ?_⟩); first | ((with_reducible apply ldAt H 0); exact rfl; exact rfl; exact rfl) | ((with_reducible apply ldAt0 H 0); exact rfl; exact rfl; exact rfl) | ((with_reducible apply ldAt H 1); exact rfl; exact rfl; exact rfl) | ((with_reducible apply ldAt0 H 1); exact rfl; exact rfl; exact rfl)))
    refine h2 _ ⟨ty, s1, s2, s3, s6, s5, vl, al ++ [(m.who : Int)], H.tail, V.v, fun i hi => ?_, by omega, by rw [List.length_append, List.length_singleton]; omega⟩
    show (D.acks ||| 2 ^ m.who).testBit i = true ↔ _
    rw [testBit_or, Bool.or_eq_true, decide_eq_true_eq, List.mem_append, List.mem_singleton, V.a i hi]
    constructor
    · rintro (x | x)
      · exact .inl x
      · exact .inr (by omega)
    · rintro (x | x)
      · exact .inl x
      · exact .inr (by omega)
  · rw [if_neg hk6] at h2
    repeat (first | with_reducible refine nn ?_ | with_reducible refine let_ ?_ | with_reducible refine brSome ?_ | with_reducible refine brF ?_ | with_reducible refine brT ?_ | ((with_reducible apply ldAt H 6); exact rfl; exact rfl) | ((with_reducible apply ldAt0 H 6); exact rfl; exact rfl) | ((with_reducible apply stAt H 6); exact rfl; exact rfl; intro h H) | ((with_reducible apply stAt0 H 6); exact rfl; exact rfl; intro h H) | ((with_reducible apply allocAt H); intro h b H) | ((with_reducible refine ⟨?_, ?_⟩); first | ((with_reducible apply ldAt H 6); exact rfl; exact rfl; exact rfl) | ((with_reducible apply ldAt0 H 6); exact rfl; exact rfl; exact rfl)))
    refine br beq_iff_eq (fun hk3 => ?_) fun hk3 => ?_
    · rw [if_pos hk3] at h2
      refine br beq_iff_eq (fun h0 => ?_) fun h0 => ?_
      · rw [if_pos h0] at h2
        exact ref34_note_ok H W hwl h7 (by omega) (.inr rfl) fun h' s5' H => h2 _ ⟨_, _, _, _, _, _, _, _, H, V.of rfl rfl rfl⟩
      · rw [if_neg h0] at h2
        exact h2 _ ⟨_, _, _, _, _, _, _, _, H, V.of rfl rfl rfl⟩
    · rw [if_neg hk3] at h2
      repeat (first | with_reducible refine nn ?_ | with_reducible refine let_ ?_ | with_reducible refine brSome ?_ | with_reducible refine brF ?_ | with_reducible refine brT ?_ | ((with_reducible apply ldAt H 0); exact rfl; exact rfl) | ((with_reducible apply ldAt0 H 0); exact rfl; exact rfl) | ((with_reducible apply ldAt H 6); exact rfl; exact rfl) | ((with_reducible apply ldAt0 H 6); exact rfl; exact rfl) | ((with_reducible apply stAt H 0); exact rfl; exact rfl; intro h H) | ((with_reducible apply stAt0 H 0); exact rfl; exact rfl; intro h H) | ((with_reducible apply stAt H 6); exact rfl; exact rfl; intro h H) | ((with_reducible apply stAt0 H 6); exact rfl; exact rfl; intro h H) | ((with_reducible apply allocAt H); intro h b H) | ((with_reducible refine ⟨?_, ?_⟩); first | ((with_reducible apply ldAt H 0); exact rfl; exact rfl; exact rfl) | ((with_reducible apply ldAt0 H 0); exact rfl; exact rfl; exact rfl) | ((with_reducible apply ldAt H 6); exact rfl; exact rfl; exact rfl) | ((with_reducible apply ldAt0 H 6); exact rfl; exact rfl; exact rfl)))
      refine ⟨ldAt H 1 rfl _ rfl rfl, ?_⟩
      refine app1B TNum H 4 rfl 0 rfl (m.who : Int) rfl (by omega) (by omega) fun s6 h H => ?_
      repeat (first | with_reducible refine nn ?_ | with_reducible refine let_ ?_ | with_reducible refine brSome ?_ | with_reducible refine brF ?_ | with_reducible refine brT ?_ | ((with_reducible apply ldAt H 0); exact rfl; exact rfl) | ((with_reducible apply ldAt0 H 0); exact rfl; exact rfl) | ((with_reducible apply ldAt H 1); exact rfl; exact rfl) | ((with_reducible apply ldAt0 H 1); exact rfl; exact rfl) | ((with_reducible apply stAt H 0); exact rfl; exact rfl; intro h H) | ((with_reducible apply stAt0 H 0); exact rfl; exact rfl; intro h H) | ((with_reducible apply stAt H 1); exact rfl; exact rfl; intro h H) | ((with_reducible apply stAt0 H 1); exact rfl; exact rfl; intro h H) | ((with_reducible apply allocAt H); intro h b H) | ((with_reducible refine ⟨?_, ?_⟩); first | ((with_reducible apply ldAt H 0); exact rfl; exact rfl; exact rfl) | ((with_reducible apply ldAt0 H 0); exact rfl; exact rfl; exact rfl) | ((with_reducible apply ldAt H 1); exact rfl; exact rfl; exact rfl) | ((with_reducible apply ldAt0 H 1); exact rfl; exact rfl; exact rfl)))
      have H : At hB h (refL d ty s1 s2 w s6 s4 s5 { D with votes := D.votes ||| 2 ^ m.who } (vl ++ [(m.who : Int)]) al ++ (.blk c tc [.int .i64 m.kind, .int .i64 (m.who : Int)] :: F)) := H.tail
      have hbv : ∀ i : Nat, i < D.l.length → ((D.votes ||| 2 ^ m.who).testBit i = true ↔ (i : Int) ∈ vl ++ [(m.who : Int)]) := fun i hi => by
        rw [testBit_or, Bool.or_eq_true, decide_eq_true_eq, List.mem_append, List.mem_singleton, V.v i hi]
        constructor
        · rintro (x | x)
          · exact .inl x
          · exact .inr (by omega)
        · rintro (x | x)
          · exact .inl x
          · exact .inr (by omega)
      have hvl : (vl ++ [(m.who : Int)]).length = vl.length + 1 := by simp
      generalize vl ++ [(m.who : Int)] = vl' at *
      have V' : VR (N + 1) { D with votes := D.votes ||| 2 ^ m.who } vl' al := ⟨hbv, V.a, by omega, by omega⟩
      refine loop2 (s1 := .one .bool) (s2 := .one (.int .i64)) (fun (a : Bool) (x : Int) h1 => ∃ (j : Nat), x = j ∧ j ≤ D.l.length ∧ a = fullB j (D.votes ||| 2 ^ m.who) ∧ h1 = h) (fun _ (x : Int) _ => (D.l.length - x).toNat)
        ⟨0, rfl, Nat.zero_le _, rfl, rfl⟩ fun _ (a : Bool) (x : Int) h1 hI => ?_
      obtain ⟨j, rfl, hj, rfl, rfl⟩ := hI
      refine brD (fun hc => ?_) fun hc => ?_
      · have hj2 : j < D.l.length := by omega
        have hs : fullB (j + 1) (D.votes ||| 2 ^ m.who) = (fullB j (D.votes ||| 2 ^ m.who) && (D.votes ||| 2 ^ m.who).testBit j) := by
          unfold fullB
          rw [List.range_succ, List.all_append]; simp
        rw [w64 (by omega) (by omega)]
        refine brB (fun ha => ?_) fun ha => ?_
        · repeat (first | with_reducible refine nn ?_ | with_reducible refine let_ ?_ | with_reducible refine brSome ?_ | with_reducible refine brF ?_ | with_reducible refine brT ?_ | ((with_reducible apply ldAt H 0); exact rfl; exact rfl) | ((with_reducible apply ldAt0 H 0); exact rfl; exact rfl) | ((with_reducible apply stAt H 0); exact rfl; exact rfl; intro h H) | ((with_reducible apply stAt0 H 0); exact rfl; exact rfl; intro h H) | ((with_reducible apply allocAt H); intro h b H) | ((with_reducible refine ⟨?_, ?_⟩); first | ((with_reducible apply ldAt H 0); exact rfl; exact rfl; exact rfl) | ((with_reducible apply ldAt0 H 0); exact rfl; exact rfl; exact rfl)))
          refine ref34_in_ok (H.rdo 3 rfl) (by omega) ?_
          refine ⟨⟨j + 1, by omega, by omega, ?_, rfl⟩, by omega⟩
          rw [hs, ha, Bool.true_and]
          have := hbv j hj2
          cases hb : (D.votes ||| 2 ^ m.who).testBit j with
          | true => exact decide_eq_true (this.1 hb)
          | false => exact decide_eq_false fun x => by rw [this.2 x] at hb; cases hb
        · exact ⟨⟨j + 1, by omega, by omega, by rw [hs, ha, Bool.false_and], rfl⟩, by omega⟩
      · have hjl : j = D.l.length := by omega
        subst hjl
        refine br beq_iff_eq (fun h0 => ?_) fun h0 => ?_
        · refine brB (fun ha => ?_) fun ha => ?_
          · rw [if_pos ⟨h0, ha⟩] at h2
            exact ref34_note_ok (D := { D with votes := D.votes ||| 2 ^ m.who }) H W hwl h7 (by show D.fl.length ≤ _; omega) (.inl rfl) fun h' s5' H => h2 _ ⟨_, _, _, _, _, _, _, _, H, V'.v, V'.a, V'.vn, V'.an⟩
          · rw [if_neg fun x => by rw [ha] at x; exact absurd x.2 (by decide)] at h2
            exact h2 _ ⟨_, _, _, _, _, _, _, _, H, V'⟩
        · rw [if_neg fun x => h0 x.1] at h2
          exact h2 _ ⟨_, _, _, _, _, _, _, _, H, V'⟩
set_option maxHeartbeats 1600000 in
theorem ref34_Deliver_ok {i : Int} {R : Int → Heap → Prop} (H : At hB h (refL d ty s1 s2 w s3 s4 s5 D vl al ++ F)) (W : RdS hB 1 w (eBool.fl ws)) (hw : D.l.map (·.willing) = ws) (hst : ∀ k, (hk : k < D.l.length) → 0 ≤ D.l[k].state) (ho : TOk N D) (hN : N + 1 ≤ 1000000) (V : VR N D vl al) (hb : (i < 0 ∨ (D.fl.length : Int) ≤ i) → R 6 h)
    (hg : ∀ k : Nat, i = k → (hk : k < D.fl.length) → ∀ h', RefAt hB h' d w (N + 1) (tDeliverM D k D.fl[k]).1 F → R (tDeliverM D k D.fl[k]).2 h') : C_ref34_Deal_Deliver (some ⟨d, 0, none⟩) i h R := by
  refine A_ref34_Deal_Deliver ?_
  unfold S_ref34_Deal_Deliver
  have hn := H.n 5 rfl
  have hwn := rdn W
  have hwl : ws.length = D.l.length := by rw [← hw, List.length_map]
  have hl := ho.fl
  refine brD (fun hc => hb (.inl hc)) fun hc => ?_
  repeat (first | with_reducible refine nn ?_ | with_reducible refine let_ ?_ | with_reducible refine brSome ?_ | with_reducible refine brF ?_ | with_reducible refine brT ?_ | ((with_reducible apply ldAt H 0); exact rfl; exact rfl) | ((with_reducible apply ldAt0 H 0); exact rfl; exact rfl) | ((with_reducible apply stAt H 0); exact rfl; exact rfl; intro h H) | ((with_reducible apply stAt0 H 0); exact rfl; exact rfl; intro h H) | ((with_reducible apply allocAt H); intro h b H) | ((with_reducible refine ⟨?_, ?_⟩); first | ((with_reducible apply ldAt H 0); exact rfl; exact rfl; exact rfl) | ((with_reducible apply ldAt0 H 0); exact rfl; exact rfl; exact rfl)))
  refine brD (fun hc2 => hb (.inr (by omega))) fun hc2 => ?_
  obtain ⟨k, rfl⟩ : ∃ k : Nat, i = k := ⟨i.toNat, by omega⟩
  have hk : k < D.fl.length := by omega
  have hm := ho.fk _ (List.getElem_mem hk)
  have od := ho.drop k
  have hdl := od.fl
  have hg := hg k rfl hk
  unfold tDeliverM at hg
  rw [pt_get hm.2.2] at hg
  repeat (first | with_reducible refine nn ?_ | with_reducible refine let_ ?_ | with_reducible refine brSome ?_ | with_reducible refine brF ?_ | with_reducible refine brT ?_ | ((with_reducible apply ldAt H 0); exact rfl; exact rfl) | ((with_reducible apply ldAt0 H 0); exact rfl; exact rfl) | ((with_reducible apply stAt H 0); exact rfl; exact rfl; intro h H) | ((with_reducible apply stAt0 H 0); exact rfl; exact rfl; intro h H) | ((with_reducible apply allocAt H); intro h b H) | ((with_reducible refine ⟨?_, ?_⟩); first | ((with_reducible apply ldAt H 0); exact rfl; exact rfl; exact rfl) | ((with_reducible apply ldAt0 H 0); exact rfl; exact rfl; exact rfl)))
  refine ixAt H 5 rfl k rfl hk fun e he => ?_
  repeat (first | with_reducible refine nn ?_ | with_reducible refine let_ ?_ | with_reducible refine brSome ?_ | with_reducible refine brF ?_ | with_reducible refine brT ?_ | ((with_reducible apply ldAt H 0); exact rfl; exact rfl) | ((with_reducible apply ldAt0 H 0); exact rfl; exact rfl) | ((with_reducible apply ldAt H 1); exact rfl; exact rfl) | ((with_reducible apply ldAt0 H 1); exact rfl; exact rfl) | ((with_reducible apply ldAt H 2); exact rfl; exact rfl) | ((with_reducible apply ldAt0 H 2); exact rfl; exact rfl) | ((with_reducible apply ldAt H 3); exact rfl; exact rfl) | ((with_reducible apply ldAt0 H 3); exact rfl; exact rfl) | ((with_reducible apply ldAt H 4); exact rfl; exact rfl) | ((with_reducible apply ldAt0 H 4); exact rfl; exact rfl) | ((with_reducible apply ldAt H 5); exact rfl; exact rfl) | ((with_reducible apply ldAt0 H 5); exact rfl; exact rfl) | ((with_reducible apply ldAt H 6); exact rfl; exact rfl) | ((with_reducible apply ldAt0 H 6); exact rfl; exact rfl) | ((with_reducible apply ldEl H 0); exact rfl; assumption; (case hk => assumption); exact rfl) | ((with_reducible apply ldEl0 H 0); exact rfl; assumption; (case hk => assumption); exact rfl) | ((with_reducible apply ldElS H 0); exact rfl; assumption; (case hk => assumption); exact rfl) | ((with_reducible apply ldElS0 H 0); exact rfl; assumption; (case hk => assumption); exact rfl) | ((with_reducible apply ldEl H 1); exact rfl; assumption; (case hk => assumption); exact rfl) | ((with_reducible apply ldEl0 H 1); exact rfl; assumption; (case hk => assumption); exact rfl) | ((with_reducible apply ldElS H 1); exact rfl; assumption; (case hk => assumption); exact rfl) | ((with_reducible apply ldElS0 H 1); exact rfl; assumption; (case hk => assumption); exact rfl) | ((with_reducible apply ldEl H 2); exact rfl; assumption; (case hk => assumption); exact rfl) | ((with_reducible apply ldEl0 H 2); exact rfl; assumption; (case hk => assumption); exact rfl) | ((with_reducible apply ldElS H 2); exact rfl; assumption; (case hk => assumption); exact rfl) | ((with_reducible apply ldElS0 H 2); exact rfl; assumption; (case hk => assumption); exact rfl) | ((with_reducible apply ldEl H 3); exact rfl; assumption; (case hk => assumption); exact rfl) | ((with_reducible apply ldEl0 H 3); exact rfl; assumption; (case hk => assumption); exact rfl) | ((with_reducible apply ldElS H 3); exact rfl; assumption; (case hk => assumption); exact rfl) | ((with_reducible apply ldElS0 H 3); exact rfl; assumption; (case hk => assumption); exact rfl) | ((with_reducible apply ldEl H 4); exact rfl; assumption; (case hk => assumption); exact rfl) | ((with_reducible apply ldEl0 H 4); exact rfl; assumption; (case hk => assumption); exact rfl) | ((with_reducible apply ldElS H 4); exact rfl; assumption; (case hk => assumption); exact rfl) | ((with_reducible apply ldElS0 H 4); exact rfl; assumption; (case hk => assumption); exact rfl) | ((with_reducible apply ldEl H 5); exact rfl; assumption; (case hk => assumption); exact rfl) | ((with_reducible apply ldEl0 H 5); exact rfl; assumption; (case hk => assumption); exact rfl) | ((with_reducible apply ldElS H 5); exact rfl; assumption; (case hk => assumption); exact rfl) | ((with_reducible apply ldElS0 H 5); exact rfl; assumption; (case hk => assumption); exact rfl) | ((with_reducible apply ldEl H 6); exact rfl; assumption; (case hk => assumption); exact rfl) | ((with_reducible apply ldEl0 H 6); exact rfl; assumption; (case hk => assumption); exact rfl) | ((with_reducible apply ldElS H 6); exact rfl; assumption; (case hk => assumption); exact rfl) | ((with_reducible apply ldElS0 H 6); exact rfl; assumption; (case hk => assumption); exact rfl) | ((with_reducible apply stAt H 0); exact rfl; exact rfl; intro h H) | ((with_reducible apply stAt0 H 0); exact rfl; exact rfl; intro h H) | ((with_reducible apply stAt H 1); exact rfl; exact rfl; intro h H) | ((with_reducible apply stAt0 H 1); exact rfl; exact rfl; intro h H) | ((with_reducible apply stAt H 2); exact rfl; exact rfl; intro h H) | ((with_reducible apply stAt0 H 2); exact rfl; exact rfl; intro h H) | ((with_reducible apply stAt H 3); exact rfl; exact rfl; intro h H) | ((with_reducible apply stAt0 H 3); exact rfl; exact rfl; intro h H) | ((with_reducible apply stAt H 4); exact rfl; exact rfl; intro h H) | ((with_reducible apply stAt0 H 4); exact rfl; exact rfl; intro h H) | ((with_reducible apply stAt H 5); exact rfl; exact rfl; intro h H) | ((with_reducible apply stAt0 H 5); exact rfl; exact rfl; intro h H) | ((with_reducible apply stAt H 6); exact rfl; exact rfl; intro h H) | ((with_reducible apply stAt0 H 6); exact rfl; exact rfl; intro h H) | ((with_reducible apply stElS (E := eMsg) ⟨_, _⟩ H 0); exact rfl; assumption; (case hk => assumption); exact rfl; (first | exact rfl | (dsimp only [eMsg, List.set_cons_succ, List.set_cons_zero] <;> exact rfl)); intro h H) | ((with_reducible apply stElS0 (E := eMsg) ⟨_, _⟩ H 0); exact rfl; assumption; (case hk => assumption); (first | exact rfl | (dsimp only [eMsg, List.set_cons_succ, List.set_cons_zero] <;> exact rfl)); intro h H) | ((with_reducible apply stEl (E := eMsg) ⟨_, _⟩ H 0); exact rfl; assumption; (case hk => assumption); exact rfl; (first | exact rfl | (dsimp only [eMsg, List.set_cons_succ, List.set_cons_zero] <;> exact rfl)); intro h H) | ((with_reducible apply stEl0 (E := eMsg) ⟨_, _⟩ H 0); exact rfl; assumption; (case hk => assumption); (first | exact rfl | (dsimp only [eMsg, List.set_cons_succ, List.set_cons_zero] <;> exact rfl)); intro h H) | ((with_reducible apply stElS (E := eMsg) ⟨_, _⟩ H 1); exact rfl; assumption; (case hk => assumption); exact rfl; (first | exact rfl | (dsimp only [eMsg, List.set_cons_succ, List.set_cons_zero] <;> exact rfl)); intro h H) | ((with_reducible apply stElS0 (E := eMsg) ⟨_, _⟩ H 1); exact rfl; assumption; (case hk => assumption); (first | exact rfl | (dsimp only [eMsg, List.set_cons_succ, List.set_cons_zero] <;> exact rfl)); intro h H) | ((with_reducible apply stEl (E := eMsg) ⟨_, _⟩ H 1); exact rfl; assumption; (case hk => assumption); exact rfl; (first | exact rfl | (dsimp only [eMsg, List.set_cons_succ, List.set_cons_zero] <;> exact rfl)); intro h H) | ((with_reducible apply stEl0 (E := eMsg) ⟨_, _⟩ H 1); exact rfl; assumption; (case hk => assumption); (first | exact rfl | (dsimp only [eMsg, List.set_cons_succ, List.set_cons_zero] <;> exact rfl)); intro h H) | ((with_reducible apply stElS (E := eMsg) ⟨_, _⟩ H 2); exact rfl; assumption; (case hk => assumption); exact rfl; (first | exact rfl | (dsimp only [eMsg, List.set_cons_succ, List.set_cons_zero] <;> exact rfl)); intro h H) | ((with_reducible apply stElS0 (E := eMsg) ⟨_, _⟩ H 2); exact rfl; assumption; (case hk => assumption); (first | exact rfl | (dsimp only [eMsg, List.set_cons_succ, List.set_cons_zero] <;> exact rfl)); intro h H) | ((with_reducible apply stEl (E := eMsg) ⟨_, _⟩ H 2); exact rfl; assumption; (case hk => assumption); exact rfl; (first | exact rfl | (dsimp only [eMsg, List.set_cons_succ, List.set_cons_zero] <;> exact rfl)); intro h H) | ((with_reducible apply stEl0 (E := eMsg) ⟨_, _⟩ H 2); exact rfl; assumption; (case hk => assumption); (first | exact rfl | (dsimp only [eMsg, List.set_cons_succ, List.set_cons_zero] <;> exact rfl)); intro h H) | ((with_reducible apply stElS (E := eMsg) ⟨_, _⟩ H 3); exact rfl; assumption; (case hk => assumption); exact rfl; (first | exact rfl | (dsimp only [eMsg, List.set_cons_succ, List.set_cons_zero] <;> exact rfl)); intro h H) | ((with_reducible apply stElS0 (E := eMsg) ⟨_, _⟩ H 3); exact rfl; assumption; (case hk => assumption); (first | exact rfl | (dsimp only [eMsg, List.set_cons_succ, List.set_cons_zero] <;> exact rfl)); intro h H) | ((with_reducible apply stEl (E := eMsg) ⟨_, _⟩ H 3); exact rfl; assumption; (case hk => assumption); exact rfl; (first | exact rfl | (dsimp only [eMsg, List.set_cons_succ, List.set_cons_zero] <;> exact rfl)); intro h H) | ((with_reducible apply stEl0 (E := eMsg) ⟨_, _⟩ H 3); exact rfl; assumption; (case hk => assumption); (first | exact rfl | (dsimp only [eMsg, List.set_cons_succ, List.set_cons_zero] <;> exact rfl)); intro h H) | ((with_reducible apply stElS (E := eMsg) ⟨_, _⟩ H 4); exact rfl; assumption; (case hk => assumption); exact rfl; (first | exact rfl | (dsimp only [eMsg, List.set_cons_succ, List.set_cons_zero] <;> exact rfl)); intro h H) | ((with_reducible apply stElS0 (E := eMsg) ⟨_, _⟩ H 4); exact rfl; assumption; (case hk => assumption); (first | exact rfl | (dsimp only [eMsg, List.set_cons_succ, List.set_cons_zero] <;> exact rfl)); intro h H) | ((with_reducible apply stEl (E := eMsg) ⟨_, _⟩ H 4); exact rfl; assumption; (case hk => assumption); exact rfl; (first | exact rfl | (dsimp only [eMsg, List.set_cons_succ, List.set_cons_zero] <;> exact rfl)); intro h H) | ((with_reducible apply stEl0 (E := eMsg) ⟨_, _⟩ H 4); exact rfl; assumption; (case hk => assumption); (first | exact rfl | (dsimp only [eMsg, List.set_cons_succ, List.set_cons_zero] <;> exact rfl)); intro h H) | ((with_reducible apply stElS (E := eMsg) ⟨_, _⟩ H 5); exact rfl; assumption; (case hk => assumption); exact rfl; (first | exact rfl | (dsimp only [eMsg, List.set_cons_succ, List.set_cons_zero] <;> exact rfl)); intro h H) | ((with_reducible apply stElS0 (E := eMsg) ⟨_, _⟩ H 5); exact rfl; assumption; (case hk => assumption); (first | exact rfl | (dsimp only [eMsg, List.set_cons_succ, List.set_cons_zero] <;> exact rfl)); intro h H) | ((with_reducible apply stEl (E := eMsg) ⟨_, _⟩ H 5); exact rfl; assumption; (case hk => assumption); exact rfl; (first | exact rfl | (dsimp only [eMsg, List.set_cons_succ, List.set_cons_zero] <;> exact rfl)); intro h H) | ((with_reducible apply stEl0 (E := eMsg) ⟨_, _⟩ H 5); exact rfl; assumption; (case hk => assumption); (first | exact rfl | (dsimp only [eMsg, List.set_cons_succ, List.set_cons_zero] <;> exact rfl)); intro h H) | ((with_reducible apply stElS (E := eMsg) ⟨_, _⟩ H 6); exact rfl; assumption; (case hk => assumption); exact rfl; (first | exact rfl | (dsimp only [eMsg, List.set_cons_succ, List.set_cons_zero] <;> exact rfl)); intro h H) | ((with_reducible apply stElS0 (E := eMsg) ⟨_, _⟩ H 6); exact rfl; assumption; (case hk => assumption); (first | exact rfl | (dsimp only [eMsg, List.set_cons_succ, List.set_cons_zero] <;> exact rfl)); intro h H) | ((with_reducible apply stEl (E := eMsg) ⟨_, _⟩ H 6); exact rfl; assumption; (case hk => assumption); exact rfl; (first | exact rfl | (dsimp only [eMsg, List.set_cons_succ, List.set_cons_zero] <;> exact rfl)); intro h H) | ((with_reducible apply stEl0 (E := eMsg) ⟨_, _⟩ H 6); exact rfl; assumption; (case hk => assumption); (first | exact rfl | (dsimp only [eMsg, List.set_cons_succ, List.set_cons_zero] <;> exact rfl)); intro h H) | ((with_reducible apply allocAt H); intro h b H) | ((with_reducible refine ⟨?_, ?_⟩); first | ((with_reducible apply ldAt H 0); exact rfl; exact rfl; exact rfl) | ((with_reducible apply ldAt0 H 0); exact rfl; exact rfl; exact rfl) | ((with_reducible apply ldAt H 1); exact rfl; exact rfl; exact rfl) | ((with_reducible apply ldAt0 H 1); exact rfl; exact rfl; exact rfl) | ((with_reducible apply ldAt H 2); exact rfl; exact rfl; exact rfl) | ((with_reducible apply ldAt0 H 2); exact rfl; exact rfl; exact rfl) | ((with_reducible apply ldAt H 3); exact rfl; exact rfl; exact rfl) | ((with_reducible apply ldAt0 H 3); exact rfl; exact rfl; exact rfl) | ((with_reducible apply ldAt H 4); exact rfl; exact rfl; exact rfl) | ((with_reducible apply ldAt0 H 4); exact rfl; exact rfl; exact rfl) | ((with_reducible apply ldAt H 5); exact rfl; exact rfl; exact rfl) | ((with_reducible apply ldAt0 H 5); exact rfl; exact rfl; exact rfl) | ((with_reducible apply ldAt H 6); exact rfl; exact rfl; exact rfl) | ((with_reducible apply ldAt0 H 6); exact rfl; exact rfl; exact rfl) | ((with_reducible apply ldEl H 0); exact rfl; assumption; (case hk => assumption); exact rfl; exact rfl) | ((with_reducible apply ldEl0 H 0); exact rfl; assumption; (case hk => assumption); exact rfl; exact rfl) | ((with_reducible apply ldElS H 0); exact rfl; assumption; (case hk => assumption); exact rfl; exact rfl) | ((with_reducible apply ldElS0 H 0); exact rfl; assumption; (case hk => assumption); exact rfl; exact rfl) | ((with_reducible apply ldEl H 1); exact rfl; assumption; (case hk => assumption); exact rfl; exact rfl) | ((with_reducible apply ldEl0 H 1); exact rfl; assumption; (case hk => assumption); exact rfl; exact rfl) | ((with_reducible apply ldElS H 1); exact rfl; assumption; (case hk => assumption); exact rfl; exact rfl) | ((with_reducible apply ldElS0 H 1); exact rfl; assumption; (case hk => assumption); exact rfl; exact rfl) | ((with_reducible apply ldEl H 2); exact rfl; assumption; (case hk => assumption); exact rfl; exact rfl) | ((with_reducible apply ldEl0 H 2); exact rfl; assumption; (case hk => assumption); exact rfl; exact rfl) | ((with_reducible apply ldElS H 2); exact rfl; assumption; (case hk => assumption); exact rfl; exact rfl) | ((with_reducible apply ldElS0 H 2); exact rfl; assumption; (case hk => assumption); exact rfl; exact rfl) | ((with_reducible apply ldEl H 3); exact rfl; assumption; (case hk => assumption); exact rfl; exact rfl) | ((with_reducible apply ldEl0 H 3); exact rfl; assumption; (case hk => assumption); exact rfl; exact rfl) | ((with_reducible apply ldElS H 3); exact rfl; assumption; (case hk => assumption); exact rfl; exact rfl) | ((with_reducible apply ldElS0 H 3); exact rfl; assumption; (case hk => assumption); exact rfl; exact rfl) | ((with_reducible apply ldEl H 4); exact rfl; assumption; (case hk => assumption); exact rfl; exact rfl) | ((with_reducible apply ldEl0 H 4); exact rfl; assumption; (case hk => assumption); exact rfl; exact rfl) | ((with_reducible apply ldElS H 4); exact rfl; assumption; (case hk => assumption); exact rfl; exact rfl) | ((with_reducible apply ldElS0 H 4); exact rfl; assumption; (case hk => assumption); exact rfl; exact rfl) | ((with_reducible apply ldEl H 5); exact rfl; assumption; (case hk => assumption); exact rfl; exact rfl) | ((with_reducible apply ldEl0 H 5); exact rfl; assumption; (case hk => assumption); exact rfl; exact rfl) | ((with_reducible apply ldElS H 5); exact rfl; assumption; (case hk => assumption); exact rfl; exact rfl) | ((with_reducible apply ldElS0 H 5); exact rfl; assumption; (case hk => assumption); exact rfl; exact rfl) | ((with_reducible apply ldEl H 6); exact rfl; assumption; (case hk => assumption); exact rfl; exact rfl) | ((with_reducible apply ldEl0 H 6); exact rfl; assumption; (case hk => assumption); exact rfl; exact rfl) | ((with_reducible apply ldElS H 6); exact rfl; assumption; (case hk => assumption); exact rfl; exact rfl) | ((with_reducible apply ldElS0 H 6); exact rfl; assumption; (case hk => assumption); exact rfl; exact rfl)))
  have H2 := H.mv 1 6
  refine ref34_Drop_ok (F := _ :: F) H2 (by omega) (fun hc => by omega) fun k' hk' _ h1 s6 H3 => ?_
  obtain rfl : k' = k := by omega
  have H := H3
  have Vd : VR N (tDropM D k') vl al := ⟨V.v, V.a, V.vn, V.an⟩
  have tmp : ∀ {h' : Heap} {D' : TD} {r : Res}, RefAt hB h' d w (N + 1) D' (r :: F) → RefAt hB h' d w (N + 1) D' F := fun ⟨ty, s1, s2, s3, s4, s5, vl, al, H, V⟩ => ⟨ty, s1, s2, s3, s4, s5, vl, al, (H.mv 6 1).tail, V⟩
  have Vup : ∀ {h : Heap} {r : Res}, At hB h (refL d ty s1 s2 w s3 s4 s6 (tDropM D k') vl al ++ (r :: F)) → RefAt hB h d w (N + 1) (tDropM D k') F := fun H => ⟨_, _, _, _, _, _, _, _, (H.mv 6 1).tail, Vd.of rfl rfl rfl⟩
  have part : toPart D.fl[k'] → toT (some ⟨d, 0, none⟩) ⟨b, 0, none⟩ R (D.fl[k'].who : Int) h1 := fun hp => by
    rw [if_pos hp] at hg
    refine toT_part (D := tDropM D k') H W hw (by omega) hm.2.2 (hst _ hm.2.2) Vd hp (fun hd => ?_) (fun hd h1 h' hr => ?_) fun hd h1 h' hr => ?_
    · have hd : D.l[D.fl[k'].who].down = true := hd
      rw [if_pos hd] at hg
      exact hg _ (Vup H)
    · have hd : D.l[D.fl[k'].who].down = false := hd
      rw [if_neg (by rw [hd]; decide), if_pos h1] at hg
      exact hg _ (tmp hr)
    · have hd : D.l[D.fl[k'].who].down = false := hd
      rw [if_neg (by rw [hd]; decide), if_neg h1] at hg
      exact hg _ (tmp hr)
  have boss : ¬ toPart D.fl[k'] → toT (some ⟨d, 0, none⟩) ⟨b, 0, none⟩ R (D.l.length : Int) h1 := fun hp => by
    rw [if_neg hp] at hg
    refine toT_boss (D := tDropM D k') H W hw od hN hm.2.2 Vd (by unfold toPart at hp; omega) (fun hd => ?_) fun hd h' hr => ?_
    · have hd : D.bd = true := hd
      rw [if_pos hd] at hg
      exact hg _ (Vup H)
    · have hd : D.bd = false := hd
      rw [if_neg (by rw [hd]; decide)] at hg
      exact hg _ (tmp hr)
  repeat (first | with_reducible refine nn ?_ | with_reducible refine let_ ?_ | with_reducible refine brSome ?_ | with_reducible refine brF ?_ | with_reducible refine brT ?_ | ((with_reducible apply ldAt H 0); exact rfl; exact rfl) | ((with_reducible apply ldAt0 H 0); exact rfl; exact rfl) | ((with_reducible apply ldAt H 6); exact rfl; exact rfl) | ((with_reducible apply ldAt0 H 6); exact rfl; exact rfl) | ((with_reducible apply stAt H 0); exact rfl; exact rfl; intro h H) | ((with_reducible apply stAt0 H 0); exact rfl; exact rfl; intro h H) | ((with_reducible apply stAt H 6); exact rfl; exact rfl; intro h H) | ((with_reducible apply stAt0 H 6); exact rfl; exact rfl; intro h H) | ((with_reducible apply allocAt H); intro h b H) | ((with_reducible refine ⟨?_, ?_⟩); first | ((with_reducible apply ldAt H 0); exact rfl; exact rfl; exact rfl) | ((with_reducible apply ldAt0 H 0); exact rfl; exact rfl; exact rfl) | ((with_reducible apply ldAt H 6); exact rfl; exact rfl; exact rfl) | ((with_reducible apply ldAt0 H 6); exact rfl; exact rfl; exact rfl)))
  refine br beq_iff_eq (fun hk1 => ?_) fun hk1 => ?_
  · refine join1 (s1 := .one (.int .i64)) (fun (t : Int) h2 => toT (some ⟨d, 0, none⟩) ⟨b, 0, none⟩ R t h2) (fun _ t h2 hJ => hJ) ?_
    repeat (first | with_reducible refine nn ?_ | with_reducible refine let_ ?_ | with_reducible refine brSome ?_ | with_reducible refine brF ?_ | with_reducible refine brT ?_ | ((with_reducible apply ldAt H 6); exact rfl; exact rfl) | ((with_reducible apply ldAt0 H 6); exact rfl; exact rfl) | ((with_reducible apply stAt H 6); exact rfl; exact rfl; intro h H) | ((with_reducible apply stAt0 H 6); exact rfl; exact rfl; intro h H) | ((with_reducible apply allocAt H); intro h b H) | ((with_reducible refine ⟨?_, ?_⟩); first | ((with_reducible apply ldAt H 6); exact rfl; exact rfl; exact rfl) | ((with_reducible apply ldAt0 H 6); exact rfl; exact rfl; exact rfl)))
    exact part (.inl hk1)
  · repeat (first | with_reducible refine nn ?_ | with_reducible refine let_ ?_ | with_reducible refine brSome ?_ | with_reducible refine brF ?_ | with_reducible refine brT ?_ | ((with_reducible apply ldAt H 6); exact rfl; exact rfl) | ((with_reducible apply ldAt0 H 6); exact rfl; exact rfl) | ((with_reducible apply stAt H 6); exact rfl; exact rfl; intro h H) | ((with_reducible apply stAt0 H 6); exact rfl; exact rfl; intro h H) | ((with_reducible apply allocAt H); intro h b H) | ((with_reducible refine ⟨?_, ?_⟩); first | ((with_reducible apply ldAt H 6); exact rfl; exact rfl; exact rfl) | ((with_reducible apply ldAt0 H 6); exact rfl; exact rfl; exact rfl)))
    refine br beq_iff_eq (fun hk4 => ?_) fun hk4 => ?_
    · refine join1 (s1 := .one (.int .i64)) (fun (t : Int) h2 => toT (some ⟨d, 0, none⟩) ⟨b, 0, none⟩ R t h2) (fun _ t h2 hJ => hJ) ?_
      repeat (first | with_reducible refine nn ?_ | with_reducible refine let_ ?_ | with_reducible refine brSome ?_ | with_reducible refine brF ?_ | with_reducible refine brT ?_ | ((with_reducible apply ldAt H 6); exact rfl; exact rfl) | ((with_reducible apply ldAt0 H 6); exact rfl; exact rfl) | ((with_reducible apply stAt H 6); exact rfl; exact rfl; intro h H) | ((with_reducible apply stAt0 H 6); exact rfl; exact rfl; intro h H) | ((with_reducible apply allocAt H); intro h b H) | ((with_reducible refine ⟨?_, ?_⟩); first | ((with_reducible apply ldAt H 6); exact rfl; exact rfl; exact rfl) | ((with_reducible apply ldAt0 H 6); exact rfl; exact rfl; exact rfl)))
      exact part (.inr (.inl hk4))
    · repeat (first | with_reducible refine nn ?_ | with_reducible refine let_ ?_ | with_reducible refine brSome ?_ | with_reducible refine brF ?_ | with_reducible refine brT ?_ | ((with_reducible apply ldAt H 6); exact rfl; exact rfl) | ((with_reducible apply ldAt0 H 6); exact rfl; exact rfl) | ((with_reducible apply stAt H 6); exact rfl; exact rfl; intro h H) | ((with_reducible apply stAt0 H 6); exact rfl; exact rfl; intro h H) | ((with_reducible apply allocAt H); intro h b H) | ((with_reducible refine ⟨?_, ?_⟩); first | ((with_reducible apply ldAt H 6); exact rfl; exact rfl; exact rfl) | ((with_reducible apply ldAt0 H 6); exact rfl; exact rfl; exact rfl)))
      refine join1 (s1 := .one (.int .i64)) (fun (t : Int) h2 => toT (some ⟨d, 0, none⟩) ⟨b, 0, none⟩ R t h2) (fun _ t h2 hJ => hJ) ?_
      refine br beq_iff_eq (fun hk5 => ?_) fun hk5 => ?_
      · repeat (first | with_reducible refine nn ?_ | with_reducible refine let_ ?_ | with_reducible refine brSome ?_ | with_reducible refine brF ?_ | with_reducible refine brT ?_ | ((with_reducible apply ldAt H 6); exact rfl; exact rfl) | ((with_reducible apply ldAt0 H 6); exact rfl; exact rfl) | ((with_reducible apply stAt H 6); exact rfl; exact rfl; intro h H) | ((with_reducible apply stAt0 H 6); exact rfl; exact rfl; intro h H) | ((with_reducible apply allocAt H); intro h b H) | ((with_reducible refine ⟨?_, ?_⟩); first | ((with_reducible apply ldAt H 6); exact rfl; exact rfl; exact rfl) | ((with_reducible apply ldAt0 H 6); exact rfl; exact rfl; exact rfl)))
        exact part (.inr (.inr hk5))
      · rw [hwn, hwl]
        exact boss fun x => by rcases x with x | x | x; exact hk1 x; exact hk4 x; exact hk5 x
theorem ref34_New_ok {R : Option Addr → Heap → Prop} (W : RdS h 1 w (eBool.fl ws)) (h7 : ws.length ≤ 7)
    (hg : ∀ h' d ty s1 s2, At h h' (refL d ty s1 s2 w ⟨none, 0, 0⟩ ⟨none, 0, 0⟩ ⟨none, 0, 0⟩ (tNewM ws) [] [] ++ []) → R (some ⟨d, 0, none⟩) h') : C_ref34_New w h R := by
  refine A_ref34_New ?_
  unfold S_ref34_New
  have hwn := rdn W
  have H0 := (((At.start h).nil 2).nil 1).nil 1
  have es : (tNewM ws).l.map (·.state) ++ [(tNewM ws).bs] = List.replicate (ws.length + 1) 0 := by
    show (ws.map fun w => (⟨0, false, w⟩ : TPart)).map (·.state) ++ [0] = _
    rw [List.map_map, List.replicate_succ']
    congr 1
    exact List.map_const' ..
  have ed : (tNewM ws).l.map (·.down) ++ [(tNewM ws).bd] = List.replicate (ws.length + 1) false := by
    show (ws.map fun w => (⟨0, false, w⟩ : TPart)).map (·.down) ++ [false] = _
    rw [List.map_map, List.replicate_succ']
    congr 1
    exact List.map_const' ..
  rw [w64 (by omega) (by omega)]
  refine ⟨?_, ?_⟩
  · refine mkAt (E := eNum) 0 TNum ZNum rfl H0 (ws.length + 1) (by omega) (by omega) (by omega) fun sA h1 H => ?_
    refine mkAt (E := eBool) false TBo ZBo rfl H (ws.length + 1) (by omega) (by omega) (by omega) fun sB h2 H => ?_
    refine allocAt (H.mv 1 1) fun h3 d H => ?_
    rw [← es, ← ed] at H
    exact hg _ d _ sA sB H
  · refine mkAt (E := eBool) false TBo ZBo rfl H0 (ws.length + 1) (by omega) (by omega) (by omega) fun sB h1 H => ?_
    refine mkAt (E := eNum) 0 TNum ZNum rfl H (ws.length + 1) (by omega) (by omega) (by omega) fun sA h2 H => ?_
    refine allocAt H fun h3 d H => ?_
    rw [← es, ← ed] at H
    exact hg _ d _ sA sB H
end
end Go.Proofs.Ytmpekddpehhdnaa
