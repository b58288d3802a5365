/- Printed by a program: what each function asks of the heap, that this is the reading of its code, and what follows for a call. -/
import Derived.Test.YtniojdaddolnfaaSC
import Derived.Test.YtniojdaddolnfaaProg
set_option maxRecDepth 1000000
namespace Go.Proofs.Ytniojdaddolnfaa
open Go

/-- kissinggatelaw08.RaftAlone -/
def S_law08_RaftAlone (elect : Int) (draw : Int) (l : Sl) (h : Heap) (R : Bool → Heap → Prop) : Prop :=
  C_law08_fixed  h fun (r : Bool) h_ =>
  (bif !r then
    R false h_
  else
    (bif decide ((l.n : Int) > 60) then
      R true h_
    else
      Nz 1000 (
      Let (IntKind.i64.wrap (1 + (IntKind.i64.wrap (divV .rem .u16 elect 1000))) : Int) fun e =>
      C_raft_New 0 1 e 1 (0, -1, ⟨none, 0, 0⟩, ()) h_ fun (r1 : Option Addr) (r2 : Int) h_1 =>
      (bif r2 != 0 then
        R false h_1
      else
        Nz e (
        Let (IntKind.i64.wrap (e + (divV .rem .i64 (IntKind.i64.wrap draw) e)) : Int) fun wait =>
        Loop [.one (.int .i64)] (fun _ (x41 : Int) h_2 go =>
          (bif decide (x41 < wait) then
            Join [.one .bool] (fun _ (x51 : Bool) h_3 =>
              (bif x51 then
                R false h_3
              else
                C_raft_Node_Tick r1 (IntKind.i64.wrap draw) h_3 fun h_4 =>
                C_raft_Node_Role r1 h_4 fun (r3 : Int) h_5 =>
                (bif !((r3 == 3) == (x41 == (IntKind.i64.wrap (wait - 1)))) then
                  R false h_5
                else
                  go (IntKind.i64.wrap (x41 + 1)) h_5
                )
              )
              ) fun J =>
            C_raft_Node_Role r1 h_2 fun (r4 : Int) h_6 =>
            (bif r4 != 0 then
              J true h_6
            else
              C_raft_Node_Term r1 h_6 fun (r5 : Int) h_7 =>
              J (r5 != 0) h_7
            )
          else
            Loop [.one (.int .i64)] (fun _ (x67 : Int) h_8 go1 =>
              (bif decide (x67 < (l.n : Int)) then
                Ix l x67 1 fun e1 =>
                Ld .str h_8 e1 fun (x : ByteArray) =>
                (bif decide ((x.size : Int) > 512) then
                  R true h_8
                else
                  C_raft_Node_Propose r1 x h_8 fun (r6 : Int) (r7 : Int) h_9 =>
                  C_raft_Node_Committed r1 (IntKind.i64.wrap (x67 + 2)) h_9 fun (r8 : Sl) h_10 =>
                  (bif r7 != 0 then
                    R false h_10
                  else
                    (bif r6 != (IntKind.i64.wrap (x67 + 2)) then
                      R false h_10
                    else
                      C_raft_Node_Commit r1 h_10 fun (r9 : Int) h_11 =>
                      (bif r9 != r6 then
                        R false h_11
                      else
                        (bif (r8.n : Int) != 1 then
                          R false h_11
                        else
                          Ix r8 0 2 fun e2 =>
                          Ld .str h_11 (e2.add 1) fun (Data : ByteArray) =>
                          (bif !(Data.toList == x.toList) then
                            R false h_11
                          else
                            Ix r8 0 2 fun e3 =>
                            Ld (.int .i64) h_11 e3 fun (Term : Int) =>
                            (bif Term != 1 then
                              R false h_11
                            else
                              go1 (IntKind.i64.wrap (x67 + 1)) h_11
                            )
                          )
                        )
                      )
                    )
                  )
                )
              else
                C_raft_Node_Out r1 h_8 fun (r10 : Sl) h_12 =>
                (bif (r10.n : Int) == 0 then
                  C_raft_Node_Leader r1 h_12 fun (r11 : Int) h_13 =>
                  R (r11 == 0) h_13
                else
                  R false h_12
                )
              )
              ) (0, ()) h_2
          )
          ) (0, ()) h_1
        )
      )
      )
    )
  )
theorem E_law08_RaftAlone (elect : Int) (draw : Int) (l : Sl) (h : Heap) (R : Bool → Heap → Prop) :
    VF Try.prog [(2042, [(41, .one (.int .i64))]), (522852, [(51, .one .bool)]), (4090, [(67, .one (.int .i64))])] Try.f3 [.int .u16 elect, .int .u32 draw, .slice l.a l.n l.c] h [.one .bool] R = S_law08_RaftAlone elect draw l h R := by kernel_rfl
theorem A_law08_RaftAlone {elect : Int} {draw : Int} {l : Sl} {h : Heap} {R : Bool → Heap → Prop} (hs : S_law08_RaftAlone elect draw l h R) : C_law08_RaftAlone elect draw l h R :=
  use_ Try.func3 (by kernel_rfl) (E_law08_RaftAlone elect draw l h R) hs

/-- kissinggatelaw08.RaftLeads -/
def S_law08_RaftLeads (n : Int) (l : Sl) (told : Sl) (h : Heap) (R : Bool → Heap → Prop) : Prop :=
  C_law08_fixed  h fun (r : Bool) h_ =>
  (bif !r then
    R false h_
  else
    Nz 6 (
    Let (IntKind.i64.wrap (2 + (IntKind.i64.wrap (divV .rem .u8 n 6))) : Int) fun k =>
    Alloc h_ (.cells #[.int .i64 0, .int .i64 0, .slice none 0 0] 32) fun s h_1 =>
    St h_1 s (.int .i64 0) fun h_2 =>
    St h_2 (s.add 1) (.int .i64 (-1)) fun h_3 =>
    St h_3 (s.add 2) (.slice l.a l.n l.c) fun h_4 =>
    Loop [.one (.int .i64)] (fun _ (x35 : Int) h_5 go =>
      (bif decide (x35 < (l.n : Int)) then
        Ix l x35 2 fun e =>
        Ld (.int .i64) h_5 e fun (x_Term : Int) =>
        Ld .str h_5 (e.add 1) fun (x_Data : ByteArray) =>
        Alloc h_5 (.cells #[.int .i64 0, .string (⟨#[]⟩ : ByteArray)] 39) fun e1 h_6 =>
        St h_6 e1 (.int .i64 x_Term) fun h_7 =>
        St h_7 (e1.add 1) (.string x_Data) fun h_8 =>
        Ld (.int .i64) h_8 s fun (Term : Int) =>
        Ld (.int .i64) h_8 e1 fun (Term1 : Int) =>
        St h_8 s (.int .i64 (if Term1 > Term then Term1 else Term)) fun h_9 =>
        go (IntKind.i64.wrap (x35 + 1)) h_9
      else
        Join [.one .bool] (fun _ (x63 : Bool) h_10 =>
          (bif x63 then
            R true h_10
          else
            Ld (.int .i64) h_10 s fun (x_Term1 : Int) =>
            Ld (.int .i64) h_10 (s.add 1) fun (x_Vote : Int) =>
            Ld .sl h_10 (s.add 2) fun (x_Entries : Sl) =>
            C_raft_New 0 k 1 1 (x_Term1, x_Vote, x_Entries, ()) h_10 fun (r1 : Option Addr) (r2 : Int) h_11 =>
            (bif r2 != 0 then
              R false h_11
            else
              C_raft_Node_Tick r1 0 h_11 fun h_12 =>
              Loop [.one (.int .i64)] (fun _ (from_ : Int) h_13 go1 =>
                (bif decide (from_ < k) then
                  Ld (.int .i64) h_13 s fun (Term2 : Int) =>
                  C_raft_Node_Step r1 (2, from_, 0, IntKind.i64.wrap (Term2 + 1), 0, 0, 0, true, ⟨none, 0, 0⟩, ()) h_13 fun h_14 =>
                  Let (IntKind.i64.wrap (from_ + 1) : Int) fun from_1 =>
                  go1 from_1 h_14
                else
                  Loop [.one (.int .i64)] (fun _ (from_2 : Int) h_15 go2 =>
                    (bif decide (from_2 < k) then
                      Ld (.int .i64) h_15 s fun (Term3 : Int) =>
                      C_raft_Node_Step r1 (4, from_2, 0, IntKind.i64.wrap (Term3 + 1), 0, 0, 0, true, ⟨none, 0, 0⟩, ()) h_15 fun h_16 =>
                      Let (IntKind.i64.wrap (from_2 + 1) : Int) fun from_3 =>
                      go2 from_3 h_16
                    else
                      Join [.one .bool] (fun _ (x121 : Bool) h_17 =>
                        (bif x121 then
                          R false h_17
                        else
                          Mk Try.prog 48 k k h_17 fun s1 h_18 =>
                          Loop [.one (.int .i64)] (fun _ (x126 : Int) h_19 go3 =>
                            (bif decide (x126 < (told.n : Int)) then
                              Ix told x126 4 fun e2 =>
                              Ld (.int .i64) h_19 e2 fun (x_From : Int) =>
                              Ld (.int .i64) h_19 (e2.add 1) fun (x_Index : Int) =>
                              Ld .bool h_19 (e2.add 2) fun (x_Yes : Bool) =>
                              Ld .bool h_19 (e2.add 3) fun (x_Propose : Bool) =>
                              Alloc h_19 (.cells #[.int .i64 0, .int .i64 0, .bool false, .bool false] 50) fun t h_20 =>
                              St h_20 t (.int .i64 x_From) fun h_21 =>
                              St h_21 (t.add 1) (.int .i64 x_Index) fun h_22 =>
                              St h_22 (t.add 2) (.bool x_Yes) fun h_23 =>
                              St h_23 (t.add 3) (.bool x_Propose) fun h_24 =>
                              Ld .bool h_24 (t.add 3) fun (Propose : Bool) =>
                              Join [] (fun _ h_25 =>
                                Ld (.int .i64) h_25 t fun (From : Int) =>
                                Ld (.int .i64) h_25 s fun (Term4 : Int) =>
                                Ld (.int .i64) h_25 (t.add 1) fun (Index : Int) =>
                                Ld .bool h_25 (t.add 2) fun (Yes : Bool) =>
                                C_raft_Node_Step r1 (6, From, 0, IntKind.i64.wrap (Term4 + 1), Index, 0, 0, Yes, ⟨none, 0, 0⟩, ()) h_25 fun h_26 =>
                                Join [.one .bool] (fun _ (x181 : Bool) h_27 =>
                                  Join [] (fun _ h_28 =>
                                    C_raft_Node_Last r1 h_28 fun (r3 : Int) h_29 =>
                                    Ix s1 0 1 fun e3 =>
                                    St h_29 e3 (.int .i64 r3) fun h_30 =>
                                    Let (IntKind.i64.wrap ((l.n : Int) + 1) : Int) fun i =>
                                    Loop [.one (.int .i64), .one (.int .i64)] (fun _ (want : Int) (i1 : Int) h_31 go4 =>
                                      C_raft_Node_Last r1 h_31 fun (r4 : Int) h_32 =>
                                      (bif decide (i1 ≤ r4) then
                                        Loop [.one (.int .i64), .one (.int .i64)] (fun _ (many : Int) (x209 : Int) h_33 go5 =>
                                          (bif decide (x209 < (s1.n : Int)) then
                                            Ix s1 x209 1 fun e4 =>
                                            Ld (.int .i64) h_33 e4 fun (x : Int) =>
                                            (bif decide (x ≥ i1) then
                                              Let (IntKind.i64.wrap (many + 1) : Int) fun many1 =>
                                              go5 many1 (IntKind.i64.wrap (x209 + 1)) h_33
                                            else
                                              go5 many (IntKind.i64.wrap (x209 + 1)) h_33
                                            )
                                          else
                                            (bif decide ((IntKind.i64.wrap (2 * many)) > k) then
                                              Let (IntKind.i64.wrap (i1 + 1) : Int) fun i2 =>
                                              go4 i1 i2 h_33
                                            else
                                              Let (IntKind.i64.wrap (i1 + 1) : Int) fun i3 =>
                                              go4 want i3 h_33
                                            )
                                          )
                                          ) (0, 0, ()) h_32
                                      else
                                        C_raft_Node_Commit r1 h_32 fun (r5 : Int) h_34 =>
                                        (bif r5 != want then
                                          R false h_34
                                        else
                                          C_raft_Node_Role r1 h_34 fun (r6 : Int) h_35 =>
                                          (bif r6 != 3 then
                                            R false h_35
                                          else
                                            C_raft_Node_Committed r1 1 h_35 fun (r7 : Sl) h_36 =>
                                            (bif (r7.n : Int) != want then
                                              R false h_36
                                            else
                                              go3 (IntKind.i64.wrap (x126 + 1)) h_36
                                            )
                                          )
                                        )
                                      )
                                      ) (0, i, ()) h_30
                                    ) fun J4 =>
                                  (bif x181 then
                                    Ld (.int .i64) h_27 t fun (From1 : Int) =>
                                    Ld (.int .i64) h_27 t fun (From2 : Int) =>
                                    Ix s1 From2 1 fun e5 =>
                                    Ld (.int .i64) h_27 e5 fun (x1 : Int) =>
                                    Ld (.int .i64) h_27 (t.add 1) fun (Index1 : Int) =>
                                    Ix s1 From1 1 fun e6 =>
                                    St h_27 e6 (.int .i64 (if Index1 > x1 then Index1 else x1)) fun h_37 =>
                                    J4  h_37
                                  else
                                    J4  h_27
                                  )
                                  ) fun J3 =>
                                Ld (.int .i64) h_26 t fun (From3 : Int) =>
                                (bif decide (From3 > 0) then
                                  Ld (.int .i64) h_26 t fun (From4 : Int) =>
                                  (bif decide (From4 < k) then
                                    Ld .bool h_26 (t.add 2) fun (Yes1 : Bool) =>
                                    (bif Yes1 then
                                      Ld (.int .i64) h_26 (t.add 1) fun (Index2 : Int) =>
                                      (bif decide (Index2 ≥ 0) then
                                        Ld (.int .i64) h_26 (t.add 1) fun (Index3 : Int) =>
                                        C_raft_Node_Last r1 h_26 fun (r8 : Int) h_38 =>
                                        (Ld (.int .i64) h_38 (t.add 1) fun (Index4 : Int) => (.int .i64 Index4 : Value) = .int .i64 Index3) ∧
                                        J3 (decide (Index3 ≤ r8)) h_38
                                      else
                                        J3 false h_26
                                      )
                                    else
                                      J3 false h_26
                                    )
                                  else
                                    J3 false h_26
                                  )
                                else
                                  J3 false h_26
                                )
                                ) fun J2 =>
                              (bif Propose then
                                C_raft_Node_Propose r1 (⟨#[112]⟩ : ByteArray) h_24 fun (r9 : Int) (r10 : Int) h_39 =>
                                (bif r10 != 0 then
                                  R false h_39
                                else
                                  C_raft_Node_Last r1 h_39 fun (r11 : Int) h_40 =>
                                  (bif r9 != r11 then
                                    R false h_40
                                  else
                                    J2  h_40
                                  )
                                )
                              else
                                J2  h_24
                              )
                            else
                              R true h_19
                            )
                            ) (0, ()) h_18
                        )
                        ) fun J1 =>
                      C_raft_Node_Role r1 h_15 fun (r12 : Int) h_41 =>
                      (bif r12 != 3 then
                        J1 true h_41
                      else
                        Ld (.int .i64) h_41 s fun (Term5 : Int) =>
                        C_raft_Node_Term r1 h_41 fun (r13 : Int) h_42 =>
                        (Ld (.int .i64) h_42 s fun (Term6 : Int) => (.int .i64 Term6 : Value) = .int .i64 Term5) ∧
                        (bif r13 != (IntKind.i64.wrap (Term5 + 1)) then
                          J1 true h_42
                        else
                          C_raft_Node_Last r1 h_42 fun (r14 : Int) h_43 =>
                          (bif r14 != (IntKind.i64.wrap ((l.n : Int) + 1)) then
                            J1 true h_43
                          else
                            C_raft_Node_Commit r1 h_43 fun (r15 : Int) h_44 =>
                            J1 (r15 != 0) h_44
                          )
                        )
                      )
                    )
                    ) (1, ()) h_13
                )
                ) (1, ()) h_12
            )
          )
          ) fun J =>
        (bif decide ((l.n : Int) > 40) then
          J true h_5
        else
          (bif decide ((told.n : Int) > 60) then
            J true h_5
          else
            Ld (.int .i64) h_5 s fun (x_Term2 : Int) =>
            Ld (.int .i64) h_5 (s.add 1) fun (x_Vote1 : Int) =>
            Ld .sl h_5 (s.add 2) fun (x_Entries1 : Sl) =>
            C_ref06_Right (x_Term2, x_Vote1, x_Entries1, ()) h_5 fun (r16 : Bool) h_45 =>
            (bif !r16 then
              J true h_45
            else
              Ld (.int .i64) h_45 s fun (Term7 : Int) =>
              J (decide (Term7 ≥ 1099511627776)) h_45
            )
          )
        )
      )
      ) (0, ()) h_4
    )
  )
theorem E_law08_RaftLeads (n : Int) (l : Sl) (told : Sl) (h : Heap) (R : Bool → Heap → Prop) :
    VF Try.prog [(250, [(35, .one (.int .i64))]), (252, [(63, .one .bool)]), (8186, [(13, .one (.int .i64))]), (16378, [(14, .one (.int .i64))]), (16380, [(121, .one .bool)]), (131066, [(126, .one (.int .i64))]), (33552997, []), (134211996, [(181, .one .bool)]), (134211997, []), (2147391994, [(20, .one (.int .i64)), (21, .one (.int .i64))]), (549732350538, [(22, .one (.int .i64)), (209, .one (.int .i64))])] Try.f4 [.int .u8 n, .slice l.a l.n l.c, .slice told.a told.n told.c] h [.one .bool] R = S_law08_RaftLeads n l told h R := by kernel_rfl
theorem A_law08_RaftLeads {n : Int} {l : Sl} {told : Sl} {h : Heap} {R : Bool → Heap → Prop} (hs : S_law08_RaftLeads n l told h R) : C_law08_RaftLeads n l told h R :=
  use_ Try.func4 (by kernel_rfl) (E_law08_RaftLeads n l told h R) hs

/-- kissinggatelaw08.RaftVotes -/
def S_law08_RaftVotes (l : Sl) (asks : Sl) (h : Heap) (R : Bool → Heap → Prop) : Prop :=
  C_law08_fixed  h fun (r : Bool) h_ =>
  (bif !r then
    R false h_
  else
    Alloc h_ (.cells #[.int .i64 0, .int .i64 0, .slice none 0 0] 32) fun s h_1 =>
    St h_1 s (.int .i64 0) fun h_2 =>
    St h_2 (s.add 1) (.int .i64 (-1)) fun h_3 =>
    St h_3 (s.add 2) (.slice l.a l.n l.c) fun h_4 =>
    Loop [.one (.int .i64)] (fun _ (x23 : Int) h_5 go =>
      (bif decide (x23 < (l.n : Int)) then
        Ix l x23 2 fun e =>
        Ld (.int .i64) h_5 e fun (x_Term : Int) =>
        Ld .str h_5 (e.add 1) fun (x_Data : ByteArray) =>
        Alloc h_5 (.cells #[.int .i64 0, .string (⟨#[]⟩ : ByteArray)] 39) fun e1 h_6 =>
        St h_6 e1 (.int .i64 x_Term) fun h_7 =>
        St h_7 (e1.add 1) (.string x_Data) fun h_8 =>
        Ld (.int .i64) h_8 s fun (Term : Int) =>
        Ld (.int .i64) h_8 e1 fun (Term1 : Int) =>
        St h_8 s (.int .i64 (if Term1 > Term then Term1 else Term)) fun h_9 =>
        go (IntKind.i64.wrap (x23 + 1)) h_9
      else
        Join [.one .bool] (fun _ (x46 : Bool) h_10 =>
          (bif x46 then
            R true h_10
          else
            Ld (.int .i64) h_10 s fun (x_Term1 : Int) =>
            Ld (.int .i64) h_10 (s.add 1) fun (x_Vote : Int) =>
            Ld .sl h_10 (s.add 2) fun (x_Entries : Sl) =>
            C_raft_New 0 5 9 1 (x_Term1, x_Vote, x_Entries, ()) h_10 fun (r1 : Option Addr) (r2 : Int) h_11 =>
            (bif r2 != 0 then
              R false h_11
            else
              Join [.one (.int .i64)] (fun _ (last : Int) h_12 =>
                Ld (.int .i64) h_12 s fun (Term2 : Int) =>
                Let (-1 : Int) fun vote =>
                Loop [.one (.int .i64), .one (.int .i64), .one (.int .i64)] (fun _ (term : Int) (vote1 : Int) (x68 : Int) h_13 go1 =>
                  (bif decide (x68 < (asks.n : Int)) then
                    Ix asks x68 9 fun e2 =>
                    Ld (.int .i64) h_13 e2 fun (x_Kind : Int) =>
                    Ld (.int .i64) h_13 (e2.add 1) fun (x_From : Int) =>
                    Ld (.int .i64) h_13 (e2.add 2) fun (x_To : Int) =>
                    Ld (.int .i64) h_13 (e2.add 3) fun (x_Term2 : Int) =>
                    Ld (.int .i64) h_13 (e2.add 4) fun (x_Index : Int) =>
                    Ld (.int .i64) h_13 (e2.add 5) fun (x_LogTerm : Int) =>
                    Ld (.int .i64) h_13 (e2.add 6) fun (x_Commit : Int) =>
                    Ld .bool h_13 (e2.add 7) fun (x_Yes : Bool) =>
                    Ld .sl h_13 (e2.add 8) fun (x_Entries1 : Sl) =>
                    Alloc h_13 (.cells #[.int .i64 0, .int .i64 0, .int .i64 0, .int .i64 0, .int .i64 0, .int .i64 0, .int .i64 0, .bool false, .slice none 0 0] 47) fun m h_14 =>
                    St h_14 m (.int .i64 x_Kind) fun h_15 =>
                    St h_15 (m.add 1) (.int .i64 x_From) fun h_16 =>
                    St h_16 (m.add 2) (.int .i64 x_To) fun h_17 =>
                    St h_17 (m.add 3) (.int .i64 x_Term2) fun h_18 =>
                    St h_18 (m.add 4) (.int .i64 x_Index) fun h_19 =>
                    St h_19 (m.add 5) (.int .i64 x_LogTerm) fun h_20 =>
                    St h_20 (m.add 6) (.int .i64 x_Commit) fun h_21 =>
                    St h_21 (m.add 7) (.bool x_Yes) fun h_22 =>
                    St h_22 (m.add 8) (.slice x_Entries1.a x_Entries1.n x_Entries1.c) fun h_23 =>
                    St h_23 m (.int .i64 3) fun h_24 =>
                    St h_24 (m.add 2) (.int .i64 0) fun h_25 =>
                    St h_25 (m.add 8) (.slice none 0 0) fun h_26 =>
                    Ld (.int .i64) h_26 m fun (x_Kind1 : Int) =>
                    Ld (.int .i64) h_26 (m.add 1) fun (x_From1 : Int) =>
                    Ld (.int .i64) h_26 (m.add 2) fun (x_To1 : Int) =>
                    Ld (.int .i64) h_26 (m.add 3) fun (x_Term3 : Int) =>
                    Ld (.int .i64) h_26 (m.add 4) fun (x_Index1 : Int) =>
                    Ld (.int .i64) h_26 (m.add 5) fun (x_LogTerm1 : Int) =>
                    Ld (.int .i64) h_26 (m.add 6) fun (x_Commit1 : Int) =>
                    Ld .bool h_26 (m.add 7) fun (x_Yes1 : Bool) =>
                    Ld .sl h_26 (m.add 8) fun (x_Entries2 : Sl) =>
                    C_raft_Node_Step r1 (x_Kind1, x_From1, x_To1, x_Term3, x_Index1, x_LogTerm1, x_Commit1, x_Yes1, x_Entries2, ()) h_26 fun h_27 =>
                    C_raft_Node_Out r1 h_27 fun (r3 : Sl) h_28 =>
                    Join [.one .bool] (fun _ (x98 : Bool) h_29 =>
                      (bif x98 then
                        (bif (r3.n : Int) != 0 then
                          R false h_29
                        else
                          go1 term vote1 (IntKind.i64.wrap (x68 + 1)) h_29
                        )
                      else
                        Ld (.int .i64) h_29 (m.add 3) fun (Term3 : Int) =>
                        Join [.one (.int .i64), .one (.int .i64)] (fun _ (term1 : Int) (vote2 : Int) h_30 =>
                          Join [.one .bool] (fun _ (yes : Bool) h_31 =>
                            Join [.one (.int .i64)] (fun _ (vote3 : Int) h_32 =>
                              (bif (r3.n : Int) != 1 then
                                R false h_32
                              else
                                Ix r3 0 9 fun e3 =>
                                Ld (.int .i64) h_32 e3 fun (Kind : Int) =>
                                (bif Kind != 4 then
                                  R false h_32
                                else
                                  Ix r3 0 9 fun e4 =>
                                  Ld (.int .i64) h_32 (e4.add 2) fun (To : Int) =>
                                  Ld (.int .i64) h_32 (m.add 1) fun (From : Int) =>
                                  (bif To != From then
                                    R false h_32
                                  else
                                    Ix r3 0 9 fun e5 =>
                                    Ld (.int .i64) h_32 (e5.add 3) fun (Term4 : Int) =>
                                    (bif Term4 != term1 then
                                      R false h_32
                                    else
                                      Ix r3 0 9 fun e6 =>
                                      Ld .bool h_32 (e6.add 7) fun (Yes : Bool) =>
                                      (bif !(Yes == yes) then
                                        R false h_32
                                      else
                                        C_raft_Node_State r1 h_32 fun (r4 : KL [.int .i64, .int .i64, .sl]) h_33 =>
                                        (bif r4.2.1 != vote3 then
                                          R false h_33
                                        else
                                          C_raft_Node_Term r1 h_33 fun (r5 : Int) h_34 =>
                                          (bif r5 != term1 then
                                            R false h_34
                                          else
                                            go1 term1 vote3 (IntKind.i64.wrap (x68 + 1)) h_34
                                          )
                                        )
                                      )
                                    )
                                  )
                                )
                              )
                              ) fun J5 =>
                            (bif yes then
                              Ld (.int .i64) h_31 (m.add 1) fun (From1 : Int) =>
                              J5 From1 h_31
                            else
                              J5 vote2 h_31
                            )
                            ) fun J4 =>
                          (bif decide (vote2 < 0) then
                            Ld (.int .i64) h_30 (m.add 5) fun (LogTerm : Int) =>
                            (bif decide (LogTerm > last) then
                              J4 true h_30
                            else
                              Ld (.int .i64) h_30 (m.add 5) fun (LogTerm1 : Int) =>
                              (bif LogTerm1 == last then
                                Ld (.int .i64) h_30 (m.add 4) fun (Index : Int) =>
                                Let (decide (Index ≥ (l.n : Int)) : Bool) fun yes1 =>
                                J4 yes1 h_30
                              else
                                J4 false h_30
                              )
                            )
                          else
                            Ld (.int .i64) h_30 (m.add 1) fun (From2 : Int) =>
                            (bif vote2 == From2 then
                              Ld (.int .i64) h_30 (m.add 5) fun (LogTerm2 : Int) =>
                              (bif decide (LogTerm2 > last) then
                                J4 true h_30
                              else
                                Ld (.int .i64) h_30 (m.add 5) fun (LogTerm3 : Int) =>
                                (bif LogTerm3 == last then
                                  Ld (.int .i64) h_30 (m.add 4) fun (Index1 : Int) =>
                                  Let (decide (Index1 ≥ (l.n : Int)) : Bool) fun yes2 =>
                                  J4 yes2 h_30
                                else
                                  J4 false h_30
                                )
                              )
                            else
                              J4 false h_30
                            )
                          )
                          ) fun J3 =>
                        (bif decide (Term3 > term) then
                          Ld (.int .i64) h_29 (m.add 3) fun (Term5 : Int) =>
                          Let (-1 : Int) fun vote4 =>
                          J3 Term5 vote4 h_29
                        else
                          J3 term vote1 h_29
                        )
                      )
                      ) fun J2 =>
                    Ld (.int .i64) h_28 (m.add 1) fun (From3 : Int) =>
                    (bif decide (From3 < 1) then
                      J2 true h_28
                    else
                      Ld (.int .i64) h_28 (m.add 1) fun (From4 : Int) =>
                      (bif decide (From4 > 4) then
                        J2 true h_28
                      else
                        Ld (.int .i64) h_28 (m.add 3) fun (Term6 : Int) =>
                        (bif decide (Term6 < term) then
                          J2 true h_28
                        else
                          Ld (.int .i64) h_28 (m.add 3) fun (Term7 : Int) =>
                          J2 (decide (Term7 > 1099511627776)) h_28
                        )
                      )
                    )
                  else
                    R true h_13
                  )
                  ) (Term2, vote, 0, ()) h_12
                ) fun J1 =>
              (bif decide ((l.n : Int) > 0) then
                Ix l (IntKind.i64.wrap ((l.n : Int) - 1)) 2 fun e7 =>
                Ld (.int .i64) h_11 e7 fun (Term8 : Int) =>
                J1 Term8 h_11
              else
                J1 0 h_11
              )
            )
          )
          ) fun J =>
        (bif decide ((l.n : Int) > 40) then
          J true h_5
        else
          (bif decide ((asks.n : Int) > 40) then
            J true h_5
          else
            Ld (.int .i64) h_5 s fun (x_Term4 : Int) =>
            Ld (.int .i64) h_5 (s.add 1) fun (x_Vote1 : Int) =>
            Ld .sl h_5 (s.add 2) fun (x_Entries3 : Sl) =>
            C_ref06_Right (x_Term4, x_Vote1, x_Entries3, ()) h_5 fun (r6 : Bool) h_35 =>
            J (!r6) h_35
          )
        )
      )
      ) (0, ()) h_4
  )
theorem E_law08_RaftVotes (l : Sl) (asks : Sl) (h : Heap) (R : Bool → Heap → Prop) :
    VF Try.prog [(122, [(23, .one (.int .i64))]), (124, [(46, .one .bool)]), (2045, [(10, .one (.int .i64))]), (16378, [(11, .one (.int .i64)), (12, .one (.int .i64)), (68, .one (.int .i64))]), (33542972, [(98, .one .bool)]), (67085949, [(11, .one (.int .i64)), (12, .one (.int .i64))]), (67085950, [(16, .one .bool)]), (268343805, [(12, .one (.int .i64))])] Try.f5 [.slice l.a l.n l.c, .slice asks.a asks.n asks.c] h [.one .bool] R = S_law08_RaftVotes l asks h R := by kernel_rfl
theorem A_law08_RaftVotes {l : Sl} {asks : Sl} {h : Heap} {R : Bool → Heap → Prop} (hs : S_law08_RaftVotes l asks h R) : C_law08_RaftVotes l asks h R :=
  use_ Try.func5 (by kernel_rfl) (E_law08_RaftVotes l asks h R) hs

/-- kissinggatelaw08.fixed -/
def S_law08_fixed  (h : Heap) (R : Bool → Heap → Prop) : Prop :=
  C_raft_New 0 1 2 1 (0, -1, ⟨none, 0, 0⟩, ()) h fun (r : Option Addr) (r1 : Int) h_ =>
  C_raft_Node_Tick r 0 h_ fun h_1 =>
  C_raft_Node_Role r h_1 fun (r2 : Int) h_2 =>
  C_raft_Node_Tick r 0 h_2 fun h_3 =>
  C_raft_Node_Propose r (⟨#[104, 105]⟩ : ByteArray) h_3 fun (r3 : Int) (r4 : Int) h_4 =>
  C_raft_Node_Save r h_4 fun (r5 : KL [.bool, .int .i64, .int .i64, .int .i64, .sl]) (r6 : Bool) h_5 =>
  Alloc h_5 (.cells #[.bool false, .int .i64 0, .int .i64 0, .int .i64 0, .slice none 0 0] 55) fun s h_6 =>
  St h_6 s (.bool r5.1) fun h_7 =>
  St h_7 (s.add 1) (.int .i64 r5.2.1) fun h_8 =>
  St h_8 (s.add 2) (.int .i64 r5.2.2.1) fun h_9 =>
  St h_9 (s.add 3) (.int .i64 r5.2.2.2.1) fun h_10 =>
  St h_10 (s.add 4) (.slice r5.2.2.2.2.1.a r5.2.2.2.2.1.n r5.2.2.2.2.1.c) fun h_11 =>
  C_raft_Node_Save r h_11 fun (r7 : KL [.bool, .int .i64, .int .i64, .int .i64, .sl]) (r8 : Bool) h_12 =>
  Alloc h_12 (.cells #[.bool false, .int .i64 0, .int .i64 0, .int .i64 0, .slice none 0 0] 55) fun p h_13 =>
  St h_13 p (.bool r7.1) fun h_14 =>
  St h_14 (p.add 1) (.int .i64 r7.2.1) fun h_15 =>
  St h_15 (p.add 2) (.int .i64 r7.2.2.1) fun h_16 =>
  St h_16 (p.add 3) (.int .i64 r7.2.2.2.1) fun h_17 =>
  St h_17 (p.add 4) (.slice r7.2.2.2.2.1.a r7.2.2.2.2.1.n r7.2.2.2.2.1.c) fun h_18 =>
  C_raft_Node_Committed r 2 h_18 fun (r9 : Sl) h_19 =>
  C_raft_New 1 3 5 1 (0, -1, ⟨none, 0, 0⟩, ()) h_19 fun (r10 : Option Addr) (r11 : Int) h_20 =>
  C_raft_Node_Step r10 (3, 0, 1, 4, 0, 0, 0, false, ⟨none, 0, 0⟩, ()) h_20 fun h_21 =>
  C_raft_Node_Out r10 h_21 fun (r12 : Sl) h_22 =>
  C_raft_Node_Propose r10 (⟨#[120]⟩ : ByteArray) h_22 fun (r13 : Int) (r14 : Int) h_23 =>
  C_raft_New 3 3 5 1 (0, -1, ⟨none, 0, 0⟩, ()) h_23 fun (r15 : Option Addr) (r16 : Int) h_24 =>
  C_raft_Node_Propose none (⟨#[]⟩ : ByteArray) h_24 fun (r17 : Int) (r18 : Int) h_25 =>
  (bif r1 == 0 then
    (bif r2 == 0 then
      C_raft_Node_Role r h_25 fun (r19 : Int) h_26 =>
      (bif r19 == 3 then
        (bif r3 == 2 then
          (bif r4 == 0 then
            C_raft_Node_Commit r h_26 fun (r20 : Int) h_27 =>
            (bif r20 == 2 then
              (bif r6 then
                Ld .bool h_27 s fun (Hard : Bool) =>
                (bif Hard then
                  Ld (.int .i64) h_27 (s.add 1) fun (Term : Int) =>
                  (bif Term == 1 then
                    Ld (.int .i64) h_27 (s.add 2) fun (Vote : Int) =>
                    (bif Vote == 0 then
                      Ld (.int .i64) h_27 (s.add 3) fun (From : Int) =>
                      (bif From == 1 then
                        Ld .sl h_27 (s.add 4) fun (Entries : Sl) =>
                        (bif (Entries.n : Int) == 2 then
                          (bif !r8 then
                            (bif (r9.n : Int) == 1 then
                              Ix r9 0 2 fun e =>
                              Ld .str h_27 (e.add 1) fun (Data : ByteArray) =>
                              (bif Data.toList == (⟨#[104, 105]⟩ : ByteArray).toList then
                                (bif (r12.n : Int) == 1 then
                                  Ix r12 0 9 fun e1 =>
                                  Ld .bool h_27 (e1.add 7) fun (Yes : Bool) =>
                                  (bif Yes then
                                    C_raft_Node_Term r10 h_27 fun (r21 : Int) h_28 =>
                                    (bif r21 == 4 then
                                      (bif r14 == 13 then
                                        (bif r16 == 1 then
                                          (bif r18 == 1 then
                                            C_raft_Node_Leader none h_28 fun (r22 : Int) h_29 =>
                                            R (r22 == (-1)) h_29
                                          else
                                            R false h_28
                                          )
                                        else
                                          R false h_28
                                        )
                                      else
                                        R false h_28
                                      )
                                    else
                                      R false h_28
                                    )
                                  else
                                    R false h_27
                                  )
                                else
                                  R false h_27
                                )
                              else
                                R false h_27
                              )
                            else
                              R false h_27
                            )
                          else
                            R false h_27
                          )
                        else
                          R false h_27
                        )
                      else
                        R false h_27
                      )
                    else
                      R false h_27
                    )
                  else
                    R false h_27
                  )
                else
                  R false h_27
                )
              else
                R false h_27
              )
            else
              R false h_27
            )
          else
            R false h_26
          )
        else
          R false h_26
        )
      else
        R false h_26
      )
    else
      R false h_25
    )
  else
    R false h_25
  )
theorem E_law08_fixed  (h : Heap) (R : Bool → Heap → Prop) :
    VF Try.prog [] Try.f6 [] h [.one .bool] R = S_law08_fixed  h R := by kernel_rfl
theorem A_law08_fixed  {h : Heap} {R : Bool → Heap → Prop} (hs : S_law08_fixed  h R) : C_law08_fixed  h R :=
  use_ Try.func6 (by kernel_rfl) (E_law08_fixed  h R) hs

/-- kissinggateref06.Right -/
def S_ref06_Right (s : KL [.int .i64, .int .i64, .sl]) (h : Heap) (R : Bool → Heap → Prop) : Prop :=
  Alloc h (.cells #[.int .i64 s.1, .int .i64 s.2.1, .slice s.2.2.1.a s.2.2.1.n s.2.2.1.c] 32) fun s1 h_ =>
  Join [.one .bool] (fun _ (x29 : Bool) h_1 =>
    (bif x29 then
      R false h_1
    else
      Ld .sl h_1 (s1.add 2) fun (Entries : Sl) =>
      Loop [.one (.int .i64), .one (.int .i64)] (fun _ (last : Int) (x33 : Int) h_2 go =>
        (bif decide (x33 < (Entries.n : Int)) then
          Ix Entries x33 2 fun e =>
          Ld (.int .i64) h_2 e fun (x_Term : Int) =>
          Ld .str h_2 (e.add 1) fun (x_Data : ByteArray) =>
          Alloc h_2 (.cells #[.int .i64 0, .string (⟨#[]⟩ : ByteArray)] 39) fun e1 h_3 =>
          St h_3 e1 (.int .i64 x_Term) fun h_4 =>
          St h_4 (e1.add 1) (.string x_Data) fun h_5 =>
          Ld (.int .i64) h_5 e1 fun (Term : Int) =>
          (bif decide (Term < last) then
            R false h_5
          else
            Ld (.int .i64) h_5 e1 fun (Term1 : Int) =>
            Ld (.int .i64) h_5 s1 fun (Term2 : Int) =>
            (bif decide (Term1 > Term2) then
              R false h_5
            else
              Ld .str h_5 (e1.add 1) fun (Data : ByteArray) =>
              (bif decide ((Data.size : Int) > 512) then
                R false h_5
              else
                Ld (.int .i64) h_5 e1 fun (Term3 : Int) =>
                go Term3 (IntKind.i64.wrap (x33 + 1)) h_5
              )
            )
          )
        else
          R true h_2
        )
        ) (1, 0, ()) h_1
    )
    ) fun J =>
  Ld (.int .i64) h_ s1 fun (Term4 : Int) =>
  (bif decide (Term4 < 0) then
    J true h_
  else
    Ld (.int .i64) h_ s1 fun (Term5 : Int) =>
    (bif decide (Term5 > 1099511627776) then
      J true h_
    else
      Ld (.int .i64) h_ (s1.add 1) fun (Vote : Int) =>
      (bif decide (Vote < (-1)) then
        J true h_
      else
        Ld (.int .i64) h_ (s1.add 1) fun (Vote1 : Int) =>
        (bif decide (Vote1 > 6) then
          J true h_
        else
          Ld .sl h_ (s1.add 2) fun (Entries1 : Sl) =>
          J (decide ((Entries1.n : Int) > 1024)) h_
        )
      )
    )
  )
theorem E_ref06_Right (s : KL [.int .i64, .int .i64, .sl]) (h : Heap) (R : Bool → Heap → Prop) :
    VF Try.prog [(12, [(29, .one .bool)]), (122, [(3, .one (.int .i64)), (33, .one (.int .i64))])] Try.f16 [.agg ⟨KL.vals [.int .i64, .int .i64, .sl] s⟩] h [.one .bool] R = S_ref06_Right s h R := by kernel_rfl
theorem A_ref06_Right {s : KL [.int .i64, .int .i64, .sl]} {h : Heap} {R : Bool → Heap → Prop} (hs : S_ref06_Right s h R) : C_ref06_Right s h R :=
  use_ Try.func16 (by kernel_rfl) (E_ref06_Right s h R) hs

end Go.Proofs.Ytniojdaddolnfaa
