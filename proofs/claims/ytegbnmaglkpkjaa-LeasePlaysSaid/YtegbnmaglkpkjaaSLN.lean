/- Printed by a program: what each function asks of the heap, that this is the reading of its code, and what follows for a call. -/
import Derived.Test.YtegbnmaglkpkjaaSC
import Derived.Test.YtegbnmaglkpkjaaProg
set_option maxRecDepth 1000000
namespace Go.Proofs.Ytegbnmaglkpkjaa
open Go

/-- kissinggateref30.New -/
def S_ref30_New (n : Int) (length : Int) (skew : Int) (h : Heap) (R : Option Addr → Heap → Prop) : Prop :=
  Alloc h (.cells #[.int .i64 length, .int .i64 skew, .slice none 0 0, .slice none 0 0, .slice none 0 0, .slice none 0 0, .slice none 0 0, .slice none 0 0, .slice none 0 0, .slice none 0 0] 55) fun p h_ =>
  Loop [.one (.int .i64)] (fun _ (i : Int) h_1 go =>
    (bif decide (i < n) then
      Join [] (fun _ h_2 =>
        Nn (some p) fun p1 =>
        Ld .sl h_2 (p1.add 6) fun (Whom : Sl) =>
        Nn (some p) fun p2 =>
        Ld .sl h_2 (p2.add 7) fun (Promise : Sl) =>
        (
          Alloc h_2 (.cells #[.int .i64 (-1)] 3) fun b h_3 =>
          (Ld .sl h_3 (p1.add 6) fun (Whom1 : Sl) => (.slice Whom1.a Whom1.n Whom1.c : Value) = .slice Whom.a Whom.n Whom.c) ∧
          (Ld .sl h_3 (p2.add 7) fun (Promise1 : Sl) => (.slice Promise1.a Promise1.n Promise1.c : Value) = .slice Promise.a Promise.n Promise.c) ∧
          (
            App Try.prog 51 51 Whom ⟨some b, 1, 1⟩ h_3 fun s h_4 =>
            (Ld .sl h_4 (p2.add 7) fun (Promise2 : Sl) => (.slice Promise2.a Promise2.n Promise2.c : Value) = .slice Promise.a Promise.n Promise.c) ∧
            Alloc h_4 (.cells #[.int .i64 0] 3) fun b1 h_5 =>
            (Ld .sl h_5 (p1.add 6) fun (Whom2 : Sl) => (.slice Whom2.a Whom2.n Whom2.c : Value) = .slice Whom.a Whom.n Whom.c) ∧
            (Ld .sl h_5 (p2.add 7) fun (Promise3 : Sl) => (.slice Promise3.a Promise3.n Promise3.c : Value) = .slice Promise.a Promise.n Promise.c) ∧
            App Try.prog 51 51 Promise ⟨some b1, 1, 1⟩ h_5 fun s1 h_6 =>
            Nn (some p) fun p3 =>
            St h_6 (p3.add 6) (.slice s.a s.n s.c) fun h_7 =>
            Nn (some p) fun p4 =>
            St h_7 (p4.add 7) (.slice s1.a s1.n s1.c) fun h_8 =>
            Let (IntKind.i64.wrap (i + 1) : Int) fun i1 =>
            go i1 h_8
          ) ∧
          (
            Alloc h_3 (.cells #[.int .i64 0] 3) fun b2 h_9 =>
            (Ld .sl h_9 (p1.add 6) fun (Whom3 : Sl) => (.slice Whom3.a Whom3.n Whom3.c : Value) = .slice Whom.a Whom.n Whom.c) ∧
            (Ld .sl h_9 (p2.add 7) fun (Promise4 : Sl) => (.slice Promise4.a Promise4.n Promise4.c : Value) = .slice Promise.a Promise.n Promise.c) ∧
            App Try.prog 51 51 Whom ⟨some b, 1, 1⟩ h_9 fun s2 h_10 =>
            (Ld .sl h_10 (p2.add 7) fun (Promise5 : Sl) => (.slice Promise5.a Promise5.n Promise5.c : Value) = .slice Promise.a Promise.n Promise.c) ∧
            App Try.prog 51 51 Promise ⟨some b2, 1, 1⟩ h_10 fun s3 h_11 =>
            Nn (some p) fun p5 =>
            St h_11 (p5.add 6) (.slice s2.a s2.n s2.c) fun h_12 =>
            Nn (some p) fun p6 =>
            St h_12 (p6.add 7) (.slice s3.a s3.n s3.c) fun h_13 =>
            Let (IntKind.i64.wrap (i + 1) : Int) fun i2 =>
            go i2 h_13
          )
        ) ∧
        (
          Alloc h_2 (.cells #[.int .i64 0] 3) fun b3 h_14 =>
          (Ld .sl h_14 (p1.add 6) fun (Whom4 : Sl) => (.slice Whom4.a Whom4.n Whom4.c : Value) = .slice Whom.a Whom.n Whom.c) ∧
          (Ld .sl h_14 (p2.add 7) fun (Promise6 : Sl) => (.slice Promise6.a Promise6.n Promise6.c : Value) = .slice Promise.a Promise.n Promise.c) ∧
          Alloc h_14 (.cells #[.int .i64 (-1)] 3) fun b4 h_15 =>
          (Ld .sl h_15 (p1.add 6) fun (Whom5 : Sl) => (.slice Whom5.a Whom5.n Whom5.c : Value) = .slice Whom.a Whom.n Whom.c) ∧
          (Ld .sl h_15 (p2.add 7) fun (Promise7 : Sl) => (.slice Promise7.a Promise7.n Promise7.c : Value) = .slice Promise.a Promise.n Promise.c) ∧
          App Try.prog 51 51 Whom ⟨some b4, 1, 1⟩ h_15 fun s4 h_16 =>
          (Ld .sl h_16 (p2.add 7) fun (Promise8 : Sl) => (.slice Promise8.a Promise8.n Promise8.c : Value) = .slice Promise.a Promise.n Promise.c) ∧
          App Try.prog 51 51 Promise ⟨some b3, 1, 1⟩ h_16 fun s5 h_17 =>
          Nn (some p) fun p7 =>
          St h_17 (p7.add 6) (.slice s4.a s4.n s4.c) fun h_18 =>
          Nn (some p) fun p8 =>
          St h_18 (p8.add 7) (.slice s5.a s5.n s5.c) fun h_19 =>
          Let (IntKind.i64.wrap (i + 1) : Int) fun i3 =>
          go i3 h_19
        )
        ) fun J =>
      Nn (some p) fun p9 =>
      Ld .sl h_1 (p9.add 2) fun (Clock : Sl) =>
      Nn (some p) fun p10 =>
      Ld .sl h_1 (p10.add 3) fun (Round : Sl) =>
      Nn (some p) fun p11 =>
      Ld .sl h_1 (p11.add 4) fun (Began : Sl) =>
      Nn (some p) fun p12 =>
      Ld .sl h_1 (p12.add 5) fun (Till : Sl) =>
      (
        Alloc h_1 (.cells #[.int .i64 0] 3) fun b5 h_20 =>
        (Ld .sl h_20 (p9.add 2) fun (Clock1 : Sl) => (.slice Clock1.a Clock1.n Clock1.c : Value) = .slice Clock.a Clock.n Clock.c) ∧
        (Ld .sl h_20 (p10.add 3) fun (Round1 : Sl) => (.slice Round1.a Round1.n Round1.c : Value) = .slice Round.a Round.n Round.c) ∧
        (Ld .sl h_20 (p11.add 4) fun (Began1 : Sl) => (.slice Began1.a Began1.n Began1.c : Value) = .slice Began.a Began.n Began.c) ∧
        (Ld .sl h_20 (p12.add 5) fun (Till1 : Sl) => (.slice Till1.a Till1.n Till1.c : Value) = .slice Till.a Till.n Till.c) ∧
        (
          App Try.prog 51 51 Clock ⟨some b5, 1, 1⟩ h_20 fun s6 h_21 =>
          (Ld .sl h_21 (p10.add 3) fun (Round2 : Sl) => (.slice Round2.a Round2.n Round2.c : Value) = .slice Round.a Round.n Round.c) ∧
          (Ld .sl h_21 (p11.add 4) fun (Began2 : Sl) => (.slice Began2.a Began2.n Began2.c : Value) = .slice Began.a Began.n Began.c) ∧
          (Ld .sl h_21 (p12.add 5) fun (Till2 : Sl) => (.slice Till2.a Till2.n Till2.c : Value) = .slice Till.a Till.n Till.c) ∧
          (
            Alloc h_21 (.cells #[.int .i64 0] 3) fun b6 h_22 =>
            (Ld .sl h_22 (p9.add 2) fun (Clock2 : Sl) => (.slice Clock2.a Clock2.n Clock2.c : Value) = .slice Clock.a Clock.n Clock.c) ∧
            (Ld .sl h_22 (p10.add 3) fun (Round3 : Sl) => (.slice Round3.a Round3.n Round3.c : Value) = .slice Round.a Round.n Round.c) ∧
            (Ld .sl h_22 (p11.add 4) fun (Began3 : Sl) => (.slice Began3.a Began3.n Began3.c : Value) = .slice Began.a Began.n Began.c) ∧
            (Ld .sl h_22 (p12.add 5) fun (Till3 : Sl) => (.slice Till3.a Till3.n Till3.c : Value) = .slice Till.a Till.n Till.c) ∧
            (
              App Try.prog 51 51 Round ⟨some b6, 1, 1⟩ h_22 fun s7 h_23 =>
              (Ld .sl h_23 (p11.add 4) fun (Began4 : Sl) => (.slice Began4.a Began4.n Began4.c : Value) = .slice Began.a Began.n Began.c) ∧
              (Ld .sl h_23 (p12.add 5) fun (Till4 : Sl) => (.slice Till4.a Till4.n Till4.c : Value) = .slice Till.a Till.n Till.c) ∧
              (
                Alloc h_23 (.cells #[.int .i64 0] 3) fun b7 h_24 =>
                (Ld .sl h_24 (p9.add 2) fun (Clock3 : Sl) => (.slice Clock3.a Clock3.n Clock3.c : Value) = .slice Clock.a Clock.n Clock.c) ∧
                (Ld .sl h_24 (p10.add 3) fun (Round4 : Sl) => (.slice Round4.a Round4.n Round4.c : Value) = .slice Round.a Round.n Round.c) ∧
                (Ld .sl h_24 (p11.add 4) fun (Began5 : Sl) => (.slice Began5.a Began5.n Began5.c : Value) = .slice Began.a Began.n Began.c) ∧
                (Ld .sl h_24 (p12.add 5) fun (Till5 : Sl) => (.slice Till5.a Till5.n Till5.c : Value) = .slice Till.a Till.n Till.c) ∧
                (
                  App Try.prog 51 51 Began ⟨some b7, 1, 1⟩ h_24 fun s8 h_25 =>
                  (Ld .sl h_25 (p12.add 5) fun (Till6 : Sl) => (.slice Till6.a Till6.n Till6.c : Value) = .slice Till.a Till.n Till.c) ∧
                  Alloc h_25 (.cells #[.int .i64 0] 3) fun b8 h_26 =>
                  (Ld .sl h_26 (p9.add 2) fun (Clock4 : Sl) => (.slice Clock4.a Clock4.n Clock4.c : Value) = .slice Clock.a Clock.n Clock.c) ∧
                  (Ld .sl h_26 (p10.add 3) fun (Round5 : Sl) => (.slice Round5.a Round5.n Round5.c : Value) = .slice Round.a Round.n Round.c) ∧
                  (Ld .sl h_26 (p11.add 4) fun (Began6 : Sl) => (.slice Began6.a Began6.n Began6.c : Value) = .slice Began.a Began.n Began.c) ∧
                  (Ld .sl h_26 (p12.add 5) fun (Till7 : Sl) => (.slice Till7.a Till7.n Till7.c : Value) = .slice Till.a Till.n Till.c) ∧
                  App Try.prog 51 51 Till ⟨some b8, 1, 1⟩ h_26 fun s9 h_27 =>
                  Nn (some p) fun p13 =>
                  St h_27 (p13.add 2) (.slice s6.a s6.n s6.c) fun h_28 =>
                  Nn (some p) fun p14 =>
                  St h_28 (p14.add 3) (.slice s7.a s7.n s7.c) fun h_29 =>
                  Nn (some p) fun p15 =>
                  St h_29 (p15.add 4) (.slice s8.a s8.n s8.c) fun h_30 =>
                  Nn (some p) fun p16 =>
                  St h_30 (p16.add 5) (.slice s9.a s9.n s9.c) fun h_31 =>
                  J  h_31
                ) ∧
                (
                  Alloc h_24 (.cells #[.int .i64 0] 3) fun b9 h_32 =>
                  (Ld .sl h_32 (p9.add 2) fun (Clock5 : Sl) => (.slice Clock5.a Clock5.n Clock5.c : Value) = .slice Clock.a Clock.n Clock.c) ∧
                  (Ld .sl h_32 (p10.add 3) fun (Round6 : Sl) => (.slice Round6.a Round6.n Round6.c : Value) = .slice Round.a Round.n Round.c) ∧
                  (Ld .sl h_32 (p11.add 4) fun (Began7 : Sl) => (.slice Began7.a Began7.n Began7.c : Value) = .slice Began.a Began.n Began.c) ∧
                  (Ld .sl h_32 (p12.add 5) fun (Till8 : Sl) => (.slice Till8.a Till8.n Till8.c : Value) = .slice Till.a Till.n Till.c) ∧
                  App Try.prog 51 51 Began ⟨some b7, 1, 1⟩ h_32 fun s10 h_33 =>
                  (Ld .sl h_33 (p12.add 5) fun (Till9 : Sl) => (.slice Till9.a Till9.n Till9.c : Value) = .slice Till.a Till.n Till.c) ∧
                  App Try.prog 51 51 Till ⟨some b9, 1, 1⟩ h_33 fun s11 h_34 =>
                  Nn (some p) fun p17 =>
                  St h_34 (p17.add 2) (.slice s6.a s6.n s6.c) fun h_35 =>
                  Nn (some p) fun p18 =>
                  St h_35 (p18.add 3) (.slice s7.a s7.n s7.c) fun h_36 =>
                  Nn (some p) fun p19 =>
                  St h_36 (p19.add 4) (.slice s10.a s10.n s10.c) fun h_37 =>
                  Nn (some p) fun p20 =>
                  St h_37 (p20.add 5) (.slice s11.a s11.n s11.c) fun h_38 =>
                  J  h_38
                )
              ) ∧
              (
                Alloc h_23 (.cells #[.int .i64 0] 3) fun b10 h_39 =>
                (Ld .sl h_39 (p9.add 2) fun (Clock6 : Sl) => (.slice Clock6.a Clock6.n Clock6.c : Value) = .slice Clock.a Clock.n Clock.c) ∧
                (Ld .sl h_39 (p10.add 3) fun (Round7 : Sl) => (.slice Round7.a Round7.n Round7.c : Value) = .slice Round.a Round.n Round.c) ∧
                (Ld .sl h_39 (p11.add 4) fun (Began8 : Sl) => (.slice Began8.a Began8.n Began8.c : Value) = .slice Began.a Began.n Began.c) ∧
                (Ld .sl h_39 (p12.add 5) fun (Till10 : Sl) => (.slice Till10.a Till10.n Till10.c : Value) = .slice Till.a Till.n Till.c) ∧
                Alloc h_39 (.cells #[.int .i64 0] 3) fun b11 h_40 =>
                (Ld .sl h_40 (p9.add 2) fun (Clock7 : Sl) => (.slice Clock7.a Clock7.n Clock7.c : Value) = .slice Clock.a Clock.n Clock.c) ∧
                (Ld .sl h_40 (p10.add 3) fun (Round8 : Sl) => (.slice Round8.a Round8.n Round8.c : Value) = .slice Round.a Round.n Round.c) ∧
                (Ld .sl h_40 (p11.add 4) fun (Began9 : Sl) => (.slice Began9.a Began9.n Began9.c : Value) = .slice Began.a Began.n Began.c) ∧
                (Ld .sl h_40 (p12.add 5) fun (Till11 : Sl) => (.slice Till11.a Till11.n Till11.c : Value) = .slice Till.a Till.n Till.c) ∧
                App Try.prog 51 51 Began ⟨some b11, 1, 1⟩ h_40 fun s12 h_41 =>
                (Ld .sl h_41 (p12.add 5) fun (Till12 : Sl) => (.slice Till12.a Till12.n Till12.c : Value) = .slice Till.a Till.n Till.c) ∧
                App Try.prog 51 51 Till ⟨some b10, 1, 1⟩ h_41 fun s13 h_42 =>
                Nn (some p) fun p21 =>
                St h_42 (p21.add 2) (.slice s6.a s6.n s6.c) fun h_43 =>
                Nn (some p) fun p22 =>
                St h_43 (p22.add 3) (.slice s7.a s7.n s7.c) fun h_44 =>
                Nn (some p) fun p23 =>
                St h_44 (p23.add 4) (.slice s12.a s12.n s12.c) fun h_45 =>
                Nn (some p) fun p24 =>
                St h_45 (p24.add 5) (.slice s13.a s13.n s13.c) fun h_46 =>
                J  h_46
              )
            ) ∧
            (
              (
                Alloc h_22 (.cells #[.int .i64 0] 3) fun b12 h_47 =>
                (Ld .sl h_47 (p9.add 2) fun (Clock8 : Sl) => (.slice Clock8.a Clock8.n Clock8.c : Value) = .slice Clock.a Clock.n Clock.c) ∧
                (Ld .sl h_47 (p10.add 3) fun (Round9 : Sl) => (.slice Round9.a Round9.n Round9.c : Value) = .slice Round.a Round.n Round.c) ∧
                (Ld .sl h_47 (p11.add 4) fun (Began10 : Sl) => (.slice Began10.a Began10.n Began10.c : Value) = .slice Began.a Began.n Began.c) ∧
                (Ld .sl h_47 (p12.add 5) fun (Till13 : Sl) => (.slice Till13.a Till13.n Till13.c : Value) = .slice Till.a Till.n Till.c) ∧
                (
                  App Try.prog 51 51 Round ⟨some b6, 1, 1⟩ h_47 fun s14 h_48 =>
                  (Ld .sl h_48 (p11.add 4) fun (Began11 : Sl) => (.slice Began11.a Began11.n Began11.c : Value) = .slice Began.a Began.n Began.c) ∧
                  (Ld .sl h_48 (p12.add 5) fun (Till14 : Sl) => (.slice Till14.a Till14.n Till14.c : Value) = .slice Till.a Till.n Till.c) ∧
                  (
                    App Try.prog 51 51 Began ⟨some b12, 1, 1⟩ h_48 fun s15 h_49 =>
                    (Ld .sl h_49 (p12.add 5) fun (Till15 : Sl) => (.slice Till15.a Till15.n Till15.c : Value) = .slice Till.a Till.n Till.c) ∧
                    Alloc h_49 (.cells #[.int .i64 0] 3) fun b13 h_50 =>
                    (Ld .sl h_50 (p9.add 2) fun (Clock9 : Sl) => (.slice Clock9.a Clock9.n Clock9.c : Value) = .slice Clock.a Clock.n Clock.c) ∧
                    (Ld .sl h_50 (p10.add 3) fun (Round10 : Sl) => (.slice Round10.a Round10.n Round10.c : Value) = .slice Round.a Round.n Round.c) ∧
                    (Ld .sl h_50 (p11.add 4) fun (Began12 : Sl) => (.slice Began12.a Began12.n Began12.c : Value) = .slice Began.a Began.n Began.c) ∧
                    (Ld .sl h_50 (p12.add 5) fun (Till16 : Sl) => (.slice Till16.a Till16.n Till16.c : Value) = .slice Till.a Till.n Till.c) ∧
                    App Try.prog 51 51 Till ⟨some b13, 1, 1⟩ h_50 fun s16 h_51 =>
                    Nn (some p) fun p25 =>
                    St h_51 (p25.add 2) (.slice s6.a s6.n s6.c) fun h_52 =>
                    Nn (some p) fun p26 =>
                    St h_52 (p26.add 3) (.slice s14.a s14.n s14.c) fun h_53 =>
                    Nn (some p) fun p27 =>
                    St h_53 (p27.add 4) (.slice s15.a s15.n s15.c) fun h_54 =>
                    Nn (some p) fun p28 =>
                    St h_54 (p28.add 5) (.slice s16.a s16.n s16.c) fun h_55 =>
                    J  h_55
                  ) ∧
                  (
                    Alloc h_48 (.cells #[.int .i64 0] 3) fun b14 h_56 =>
                    (Ld .sl h_56 (p9.add 2) fun (Clock10 : Sl) => (.slice Clock10.a Clock10.n Clock10.c : Value) = .slice Clock.a Clock.n Clock.c) ∧
                    (Ld .sl h_56 (p10.add 3) fun (Round11 : Sl) => (.slice Round11.a Round11.n Round11.c : Value) = .slice Round.a Round.n Round.c) ∧
                    (Ld .sl h_56 (p11.add 4) fun (Began13 : Sl) => (.slice Began13.a Began13.n Began13.c : Value) = .slice Began.a Began.n Began.c) ∧
                    (Ld .sl h_56 (p12.add 5) fun (Till17 : Sl) => (.slice Till17.a Till17.n Till17.c : Value) = .slice Till.a Till.n Till.c) ∧
                    App Try.prog 51 51 Began ⟨some b12, 1, 1⟩ h_56 fun s17 h_57 =>
                    (Ld .sl h_57 (p12.add 5) fun (Till18 : Sl) => (.slice Till18.a Till18.n Till18.c : Value) = .slice Till.a Till.n Till.c) ∧
                    App Try.prog 51 51 Till ⟨some b14, 1, 1⟩ h_57 fun s18 h_58 =>
                    Nn (some p) fun p29 =>
                    St h_58 (p29.add 2) (.slice s6.a s6.n s6.c) fun h_59 =>
                    Nn (some p) fun p30 =>
                    St h_59 (p30.add 3) (.slice s14.a s14.n s14.c) fun h_60 =>
                    Nn (some p) fun p31 =>
                    St h_60 (p31.add 4) (.slice s17.a s17.n s17.c) fun h_61 =>
                    Nn (some p) fun p32 =>
                    St h_61 (p32.add 5) (.slice s18.a s18.n s18.c) fun h_62 =>
                    J  h_62
                  )
                ) ∧
                (
                  Alloc h_47 (.cells #[.int .i64 0] 3) fun b15 h_63 =>
                  (Ld .sl h_63 (p9.add 2) fun (Clock11 : Sl) => (.slice Clock11.a Clock11.n Clock11.c : Value) = .slice Clock.a Clock.n Clock.c) ∧
                  (Ld .sl h_63 (p10.add 3) fun (Round12 : Sl) => (.slice Round12.a Round12.n Round12.c : Value) = .slice Round.a Round.n Round.c) ∧
                  (Ld .sl h_63 (p11.add 4) fun (Began14 : Sl) => (.slice Began14.a Began14.n Began14.c : Value) = .slice Began.a Began.n Began.c) ∧
                  (Ld .sl h_63 (p12.add 5) fun (Till19 : Sl) => (.slice Till19.a Till19.n Till19.c : Value) = .slice Till.a Till.n Till.c) ∧
                  App Try.prog 51 51 Round ⟨some b6, 1, 1⟩ h_63 fun s19 h_64 =>
                  (Ld .sl h_64 (p11.add 4) fun (Began15 : Sl) => (.slice Began15.a Began15.n Began15.c : Value) = .slice Began.a Began.n Began.c) ∧
                  (Ld .sl h_64 (p12.add 5) fun (Till20 : Sl) => (.slice Till20.a Till20.n Till20.c : Value) = .slice Till.a Till.n Till.c) ∧
                  App Try.prog 51 51 Began ⟨some b12, 1, 1⟩ h_64 fun s20 h_65 =>
                  (Ld .sl h_65 (p12.add 5) fun (Till21 : Sl) => (.slice Till21.a Till21.n Till21.c : Value) = .slice Till.a Till.n Till.c) ∧
                  App Try.prog 51 51 Till ⟨some b15, 1, 1⟩ h_65 fun s21 h_66 =>
                  Nn (some p) fun p33 =>
                  St h_66 (p33.add 2) (.slice s6.a s6.n s6.c) fun h_67 =>
                  Nn (some p) fun p34 =>
                  St h_67 (p34.add 3) (.slice s19.a s19.n s19.c) fun h_68 =>
                  Nn (some p) fun p35 =>
                  St h_68 (p35.add 4) (.slice s20.a s20.n s20.c) fun h_69 =>
                  Nn (some p) fun p36 =>
                  St h_69 (p36.add 5) (.slice s21.a s21.n s21.c) fun h_70 =>
                  J  h_70
                )
              ) ∧
              (
                Alloc h_22 (.cells #[.int .i64 0] 3) fun b16 h_71 =>
                (Ld .sl h_71 (p9.add 2) fun (Clock12 : Sl) => (.slice Clock12.a Clock12.n Clock12.c : Value) = .slice Clock.a Clock.n Clock.c) ∧
                (Ld .sl h_71 (p10.add 3) fun (Round13 : Sl) => (.slice Round13.a Round13.n Round13.c : Value) = .slice Round.a Round.n Round.c) ∧
                (Ld .sl h_71 (p11.add 4) fun (Began16 : Sl) => (.slice Began16.a Began16.n Began16.c : Value) = .slice Began.a Began.n Began.c) ∧
                (Ld .sl h_71 (p12.add 5) fun (Till22 : Sl) => (.slice Till22.a Till22.n Till22.c : Value) = .slice Till.a Till.n Till.c) ∧
                (
                  App Try.prog 51 51 Round ⟨some b6, 1, 1⟩ h_71 fun s22 h_72 =>
                  (Ld .sl h_72 (p11.add 4) fun (Began17 : Sl) => (.slice Began17.a Began17.n Began17.c : Value) = .slice Began.a Began.n Began.c) ∧
                  (Ld .sl h_72 (p12.add 5) fun (Till23 : Sl) => (.slice Till23.a Till23.n Till23.c : Value) = .slice Till.a Till.n Till.c) ∧
                  Alloc h_72 (.cells #[.int .i64 0] 3) fun b17 h_73 =>
                  (Ld .sl h_73 (p9.add 2) fun (Clock13 : Sl) => (.slice Clock13.a Clock13.n Clock13.c : Value) = .slice Clock.a Clock.n Clock.c) ∧
                  (Ld .sl h_73 (p10.add 3) fun (Round14 : Sl) => (.slice Round14.a Round14.n Round14.c : Value) = .slice Round.a Round.n Round.c) ∧
                  (Ld .sl h_73 (p11.add 4) fun (Began18 : Sl) => (.slice Began18.a Began18.n Began18.c : Value) = .slice Began.a Began.n Began.c) ∧
                  (Ld .sl h_73 (p12.add 5) fun (Till24 : Sl) => (.slice Till24.a Till24.n Till24.c : Value) = .slice Till.a Till.n Till.c) ∧
                  App Try.prog 51 51 Began ⟨some b17, 1, 1⟩ h_73 fun s23 h_74 =>
                  (Ld .sl h_74 (p12.add 5) fun (Till25 : Sl) => (.slice Till25.a Till25.n Till25.c : Value) = .slice Till.a Till.n Till.c) ∧
                  App Try.prog 51 51 Till ⟨some b16, 1, 1⟩ h_74 fun s24 h_75 =>
                  Nn (some p) fun p37 =>
                  St h_75 (p37.add 2) (.slice s6.a s6.n s6.c) fun h_76 =>
                  Nn (some p) fun p38 =>
                  St h_76 (p38.add 3) (.slice s22.a s22.n s22.c) fun h_77 =>
                  Nn (some p) fun p39 =>
                  St h_77 (p39.add 4) (.slice s23.a s23.n s23.c) fun h_78 =>
                  Nn (some p) fun p40 =>
                  St h_78 (p40.add 5) (.slice s24.a s24.n s24.c) fun h_79 =>
                  J  h_79
                ) ∧
                (
                  Alloc h_71 (.cells #[.int .i64 0] 3) fun b18 h_80 =>
                  (Ld .sl h_80 (p9.add 2) fun (Clock14 : Sl) => (.slice Clock14.a Clock14.n Clock14.c : Value) = .slice Clock.a Clock.n Clock.c) ∧
                  (Ld .sl h_80 (p10.add 3) fun (Round15 : Sl) => (.slice Round15.a Round15.n Round15.c : Value) = .slice Round.a Round.n Round.c) ∧
                  (Ld .sl h_80 (p11.add 4) fun (Began19 : Sl) => (.slice Began19.a Began19.n Began19.c : Value) = .slice Began.a Began.n Began.c) ∧
                  (Ld .sl h_80 (p12.add 5) fun (Till26 : Sl) => (.slice Till26.a Till26.n Till26.c : Value) = .slice Till.a Till.n Till.c) ∧
                  App Try.prog 51 51 Round ⟨some b6, 1, 1⟩ h_80 fun s25 h_81 =>
                  (Ld .sl h_81 (p11.add 4) fun (Began20 : Sl) => (.slice Began20.a Began20.n Began20.c : Value) = .slice Began.a Began.n Began.c) ∧
                  (Ld .sl h_81 (p12.add 5) fun (Till27 : Sl) => (.slice Till27.a Till27.n Till27.c : Value) = .slice Till.a Till.n Till.c) ∧
                  App Try.prog 51 51 Began ⟨some b18, 1, 1⟩ h_81 fun s26 h_82 =>
                  (Ld .sl h_82 (p12.add 5) fun (Till28 : Sl) => (.slice Till28.a Till28.n Till28.c : Value) = .slice Till.a Till.n Till.c) ∧
                  App Try.prog 51 51 Till ⟨some b16, 1, 1⟩ h_82 fun s27 h_83 =>
                  Nn (some p) fun p41 =>
                  St h_83 (p41.add 2) (.slice s6.a s6.n s6.c) fun h_84 =>
                  Nn (some p) fun p42 =>
                  St h_84 (p42.add 3) (.slice s25.a s25.n s25.c) fun h_85 =>
                  Nn (some p) fun p43 =>
                  St h_85 (p43.add 4) (.slice s26.a s26.n s26.c) fun h_86 =>
                  Nn (some p) fun p44 =>
                  St h_86 (p44.add 5) (.slice s27.a s27.n s27.c) fun h_87 =>
                  J  h_87
                )
              )
            )
          ) ∧
          (
            (
              Alloc h_21 (.cells #[.int .i64 0] 3) fun b19 h_88 =>
              (Ld .sl h_88 (p9.add 2) fun (Clock15 : Sl) => (.slice Clock15.a Clock15.n Clock15.c : Value) = .slice Clock.a Clock.n Clock.c) ∧
              (Ld .sl h_88 (p10.add 3) fun (Round16 : Sl) => (.slice Round16.a Round16.n Round16.c : Value) = .slice Round.a Round.n Round.c) ∧
              (Ld .sl h_88 (p11.add 4) fun (Began21 : Sl) => (.slice Began21.a Began21.n Began21.c : Value) = .slice Began.a Began.n Began.c) ∧
              (Ld .sl h_88 (p12.add 5) fun (Till29 : Sl) => (.slice Till29.a Till29.n Till29.c : Value) = .slice Till.a Till.n Till.c) ∧
              (
                Alloc h_88 (.cells #[.int .i64 0] 3) fun b20 h_89 =>
                (Ld .sl h_89 (p9.add 2) fun (Clock16 : Sl) => (.slice Clock16.a Clock16.n Clock16.c : Value) = .slice Clock.a Clock.n Clock.c) ∧
                (Ld .sl h_89 (p10.add 3) fun (Round17 : Sl) => (.slice Round17.a Round17.n Round17.c : Value) = .slice Round.a Round.n Round.c) ∧
                (Ld .sl h_89 (p11.add 4) fun (Began22 : Sl) => (.slice Began22.a Began22.n Began22.c : Value) = .slice Began.a Began.n Began.c) ∧
                (Ld .sl h_89 (p12.add 5) fun (Till30 : Sl) => (.slice Till30.a Till30.n Till30.c : Value) = .slice Till.a Till.n Till.c) ∧
                (
                  App Try.prog 51 51 Round ⟨some b20, 1, 1⟩ h_89 fun s28 h_90 =>
                  (Ld .sl h_90 (p11.add 4) fun (Began23 : Sl) => (.slice Began23.a Began23.n Began23.c : Value) = .slice Began.a Began.n Began.c) ∧
                  (Ld .sl h_90 (p12.add 5) fun (Till31 : Sl) => (.slice Till31.a Till31.n Till31.c : Value) = .slice Till.a Till.n Till.c) ∧
                  (
                    App Try.prog 51 51 Began ⟨some b19, 1, 1⟩ h_90 fun s29 h_91 =>
                    (Ld .sl h_91 (p12.add 5) fun (Till32 : Sl) => (.slice Till32.a Till32.n Till32.c : Value) = .slice Till.a Till.n Till.c) ∧
                    Alloc h_91 (.cells #[.int .i64 0] 3) fun b21 h_92 =>
                    (Ld .sl h_92 (p9.add 2) fun (Clock17 : Sl) => (.slice Clock17.a Clock17.n Clock17.c : Value) = .slice Clock.a Clock.n Clock.c) ∧
                    (Ld .sl h_92 (p10.add 3) fun (Round18 : Sl) => (.slice Round18.a Round18.n Round18.c : Value) = .slice Round.a Round.n Round.c) ∧
                    (Ld .sl h_92 (p11.add 4) fun (Began24 : Sl) => (.slice Began24.a Began24.n Began24.c : Value) = .slice Began.a Began.n Began.c) ∧
                    (Ld .sl h_92 (p12.add 5) fun (Till33 : Sl) => (.slice Till33.a Till33.n Till33.c : Value) = .slice Till.a Till.n Till.c) ∧
                    App Try.prog 51 51 Till ⟨some b21, 1, 1⟩ h_92 fun s30 h_93 =>
                    Nn (some p) fun p45 =>
                    St h_93 (p45.add 2) (.slice s6.a s6.n s6.c) fun h_94 =>
                    Nn (some p) fun p46 =>
                    St h_94 (p46.add 3) (.slice s28.a s28.n s28.c) fun h_95 =>
                    Nn (some p) fun p47 =>
                    St h_95 (p47.add 4) (.slice s29.a s29.n s29.c) fun h_96 =>
                    Nn (some p) fun p48 =>
                    St h_96 (p48.add 5) (.slice s30.a s30.n s30.c) fun h_97 =>
                    J  h_97
                  ) ∧
                  (
                    Alloc h_90 (.cells #[.int .i64 0] 3) fun b22 h_98 =>
                    (Ld .sl h_98 (p9.add 2) fun (Clock18 : Sl) => (.slice Clock18.a Clock18.n Clock18.c : Value) = .slice Clock.a Clock.n Clock.c) ∧
                    (Ld .sl h_98 (p10.add 3) fun (Round19 : Sl) => (.slice Round19.a Round19.n Round19.c : Value) = .slice Round.a Round.n Round.c) ∧
                    (Ld .sl h_98 (p11.add 4) fun (Began25 : Sl) => (.slice Began25.a Began25.n Began25.c : Value) = .slice Began.a Began.n Began.c) ∧
                    (Ld .sl h_98 (p12.add 5) fun (Till34 : Sl) => (.slice Till34.a Till34.n Till34.c : Value) = .slice Till.a Till.n Till.c) ∧
                    App Try.prog 51 51 Began ⟨some b19, 1, 1⟩ h_98 fun s31 h_99 =>
                    (Ld .sl h_99 (p12.add 5) fun (Till35 : Sl) => (.slice Till35.a Till35.n Till35.c : Value) = .slice Till.a Till.n Till.c) ∧
                    App Try.prog 51 51 Till ⟨some b22, 1, 1⟩ h_99 fun s32 h_100 =>
                    Nn (some p) fun p49 =>
                    St h_100 (p49.add 2) (.slice s6.a s6.n s6.c) fun h_101 =>
                    Nn (some p) fun p50 =>
                    St h_101 (p50.add 3) (.slice s28.a s28.n s28.c) fun h_102 =>
                    Nn (some p) fun p51 =>
                    St h_102 (p51.add 4) (.slice s31.a s31.n s31.c) fun h_103 =>
                    Nn (some p) fun p52 =>
                    St h_103 (p52.add 5) (.slice s32.a s32.n s32.c) fun h_104 =>
                    J  h_104
                  )
                ) ∧
                (
                  Alloc h_89 (.cells #[.int .i64 0] 3) fun b23 h_105 =>
                  (Ld .sl h_105 (p9.add 2) fun (Clock19 : Sl) => (.slice Clock19.a Clock19.n Clock19.c : Value) = .slice Clock.a Clock.n Clock.c) ∧
                  (Ld .sl h_105 (p10.add 3) fun (Round20 : Sl) => (.slice Round20.a Round20.n Round20.c : Value) = .slice Round.a Round.n Round.c) ∧
                  (Ld .sl h_105 (p11.add 4) fun (Began26 : Sl) => (.slice Began26.a Began26.n Began26.c : Value) = .slice Began.a Began.n Began.c) ∧
                  (Ld .sl h_105 (p12.add 5) fun (Till36 : Sl) => (.slice Till36.a Till36.n Till36.c : Value) = .slice Till.a Till.n Till.c) ∧
                  App Try.prog 51 51 Round ⟨some b20, 1, 1⟩ h_105 fun s33 h_106 =>
                  (Ld .sl h_106 (p11.add 4) fun (Began27 : Sl) => (.slice Began27.a Began27.n Began27.c : Value) = .slice Began.a Began.n Began.c) ∧
                  (Ld .sl h_106 (p12.add 5) fun (Till37 : Sl) => (.slice Till37.a Till37.n Till37.c : Value) = .slice Till.a Till.n Till.c) ∧
                  App Try.prog 51 51 Began ⟨some b19, 1, 1⟩ h_106 fun s34 h_107 =>
                  (Ld .sl h_107 (p12.add 5) fun (Till38 : Sl) => (.slice Till38.a Till38.n Till38.c : Value) = .slice Till.a Till.n Till.c) ∧
                  App Try.prog 51 51 Till ⟨some b23, 1, 1⟩ h_107 fun s35 h_108 =>
                  Nn (some p) fun p53 =>
                  St h_108 (p53.add 2) (.slice s6.a s6.n s6.c) fun h_109 =>
                  Nn (some p) fun p54 =>
                  St h_109 (p54.add 3) (.slice s33.a s33.n s33.c) fun h_110 =>
                  Nn (some p) fun p55 =>
                  St h_110 (p55.add 4) (.slice s34.a s34.n s34.c) fun h_111 =>
                  Nn (some p) fun p56 =>
                  St h_111 (p56.add 5) (.slice s35.a s35.n s35.c) fun h_112 =>
                  J  h_112
                )
              ) ∧
              (
                Alloc h_88 (.cells #[.int .i64 0] 3) fun b24 h_113 =>
                (Ld .sl h_113 (p9.add 2) fun (Clock20 : Sl) => (.slice Clock20.a Clock20.n Clock20.c : Value) = .slice Clock.a Clock.n Clock.c) ∧
                (Ld .sl h_113 (p10.add 3) fun (Round21 : Sl) => (.slice Round21.a Round21.n Round21.c : Value) = .slice Round.a Round.n Round.c) ∧
                (Ld .sl h_113 (p11.add 4) fun (Began28 : Sl) => (.slice Began28.a Began28.n Began28.c : Value) = .slice Began.a Began.n Began.c) ∧
                (Ld .sl h_113 (p12.add 5) fun (Till39 : Sl) => (.slice Till39.a Till39.n Till39.c : Value) = .slice Till.a Till.n Till.c) ∧
                Alloc h_113 (.cells #[.int .i64 0] 3) fun b25 h_114 =>
                (Ld .sl h_114 (p9.add 2) fun (Clock21 : Sl) => (.slice Clock21.a Clock21.n Clock21.c : Value) = .slice Clock.a Clock.n Clock.c) ∧
                (Ld .sl h_114 (p10.add 3) fun (Round22 : Sl) => (.slice Round22.a Round22.n Round22.c : Value) = .slice Round.a Round.n Round.c) ∧
                (Ld .sl h_114 (p11.add 4) fun (Began29 : Sl) => (.slice Began29.a Began29.n Began29.c : Value) = .slice Began.a Began.n Began.c) ∧
                (Ld .sl h_114 (p12.add 5) fun (Till40 : Sl) => (.slice Till40.a Till40.n Till40.c : Value) = .slice Till.a Till.n Till.c) ∧
                App Try.prog 51 51 Round ⟨some b25, 1, 1⟩ h_114 fun s36 h_115 =>
                (Ld .sl h_115 (p11.add 4) fun (Began30 : Sl) => (.slice Began30.a Began30.n Began30.c : Value) = .slice Began.a Began.n Began.c) ∧
                (Ld .sl h_115 (p12.add 5) fun (Till41 : Sl) => (.slice Till41.a Till41.n Till41.c : Value) = .slice Till.a Till.n Till.c) ∧
                App Try.prog 51 51 Began ⟨some b19, 1, 1⟩ h_115 fun s37 h_116 =>
                (Ld .sl h_116 (p12.add 5) fun (Till42 : Sl) => (.slice Till42.a Till42.n Till42.c : Value) = .slice Till.a Till.n Till.c) ∧
                App Try.prog 51 51 Till ⟨some b24, 1, 1⟩ h_116 fun s38 h_117 =>
                Nn (some p) fun p57 =>
                St h_117 (p57.add 2) (.slice s6.a s6.n s6.c) fun h_118 =>
                Nn (some p) fun p58 =>
                St h_118 (p58.add 3) (.slice s36.a s36.n s36.c) fun h_119 =>
                Nn (some p) fun p59 =>
                St h_119 (p59.add 4) (.slice s37.a s37.n s37.c) fun h_120 =>
                Nn (some p) fun p60 =>
                St h_120 (p60.add 5) (.slice s38.a s38.n s38.c) fun h_121 =>
                J  h_121
              )
            ) ∧
            (
              Alloc h_21 (.cells #[.int .i64 0] 3) fun b26 h_122 =>
              (Ld .sl h_122 (p9.add 2) fun (Clock22 : Sl) => (.slice Clock22.a Clock22.n Clock22.c : Value) = .slice Clock.a Clock.n Clock.c) ∧
              (Ld .sl h_122 (p10.add 3) fun (Round23 : Sl) => (.slice Round23.a Round23.n Round23.c : Value) = .slice Round.a Round.n Round.c) ∧
              (Ld .sl h_122 (p11.add 4) fun (Began31 : Sl) => (.slice Began31.a Began31.n Began31.c : Value) = .slice Began.a Began.n Began.c) ∧
              (Ld .sl h_122 (p12.add 5) fun (Till43 : Sl) => (.slice Till43.a Till43.n Till43.c : Value) = .slice Till.a Till.n Till.c) ∧
              (
                Alloc h_122 (.cells #[.int .i64 0] 3) fun b27 h_123 =>
                (Ld .sl h_123 (p9.add 2) fun (Clock23 : Sl) => (.slice Clock23.a Clock23.n Clock23.c : Value) = .slice Clock.a Clock.n Clock.c) ∧
                (Ld .sl h_123 (p10.add 3) fun (Round24 : Sl) => (.slice Round24.a Round24.n Round24.c : Value) = .slice Round.a Round.n Round.c) ∧
                (Ld .sl h_123 (p11.add 4) fun (Began32 : Sl) => (.slice Began32.a Began32.n Began32.c : Value) = .slice Began.a Began.n Began.c) ∧
                (Ld .sl h_123 (p12.add 5) fun (Till44 : Sl) => (.slice Till44.a Till44.n Till44.c : Value) = .slice Till.a Till.n Till.c) ∧
                (
                  App Try.prog 51 51 Round ⟨some b27, 1, 1⟩ h_123 fun s39 h_124 =>
                  (Ld .sl h_124 (p11.add 4) fun (Began33 : Sl) => (.slice Began33.a Began33.n Began33.c : Value) = .slice Began.a Began.n Began.c) ∧
                  (Ld .sl h_124 (p12.add 5) fun (Till45 : Sl) => (.slice Till45.a Till45.n Till45.c : Value) = .slice Till.a Till.n Till.c) ∧
                  Alloc h_124 (.cells #[.int .i64 0] 3) fun b28 h_125 =>
                  (Ld .sl h_125 (p9.add 2) fun (Clock24 : Sl) => (.slice Clock24.a Clock24.n Clock24.c : Value) = .slice Clock.a Clock.n Clock.c) ∧
                  (Ld .sl h_125 (p10.add 3) fun (Round25 : Sl) => (.slice Round25.a Round25.n Round25.c : Value) = .slice Round.a Round.n Round.c) ∧
                  (Ld .sl h_125 (p11.add 4) fun (Began34 : Sl) => (.slice Began34.a Began34.n Began34.c : Value) = .slice Began.a Began.n Began.c) ∧
                  (Ld .sl h_125 (p12.add 5) fun (Till46 : Sl) => (.slice Till46.a Till46.n Till46.c : Value) = .slice Till.a Till.n Till.c) ∧
                  App Try.prog 51 51 Began ⟨some b28, 1, 1⟩ h_125 fun s40 h_126 =>
                  (Ld .sl h_126 (p12.add 5) fun (Till47 : Sl) => (.slice Till47.a Till47.n Till47.c : Value) = .slice Till.a Till.n Till.c) ∧
                  App Try.prog 51 51 Till ⟨some b26, 1, 1⟩ h_126 fun s41 h_127 =>
                  Nn (some p) fun p61 =>
                  St h_127 (p61.add 2) (.slice s6.a s6.n s6.c) fun h_128 =>
                  Nn (some p) fun p62 =>
                  St h_128 (p62.add 3) (.slice s39.a s39.n s39.c) fun h_129 =>
                  Nn (some p) fun p63 =>
                  St h_129 (p63.add 4) (.slice s40.a s40.n s40.c) fun h_130 =>
                  Nn (some p) fun p64 =>
                  St h_130 (p64.add 5) (.slice s41.a s41.n s41.c) fun h_131 =>
                  J  h_131
                ) ∧
                (
                  Alloc h_123 (.cells #[.int .i64 0] 3) fun b29 h_132 =>
                  (Ld .sl h_132 (p9.add 2) fun (Clock25 : Sl) => (.slice Clock25.a Clock25.n Clock25.c : Value) = .slice Clock.a Clock.n Clock.c) ∧
                  (Ld .sl h_132 (p10.add 3) fun (Round26 : Sl) => (.slice Round26.a Round26.n Round26.c : Value) = .slice Round.a Round.n Round.c) ∧
                  (Ld .sl h_132 (p11.add 4) fun (Began35 : Sl) => (.slice Began35.a Began35.n Began35.c : Value) = .slice Began.a Began.n Began.c) ∧
                  (Ld .sl h_132 (p12.add 5) fun (Till48 : Sl) => (.slice Till48.a Till48.n Till48.c : Value) = .slice Till.a Till.n Till.c) ∧
                  App Try.prog 51 51 Round ⟨some b27, 1, 1⟩ h_132 fun s42 h_133 =>
                  (Ld .sl h_133 (p11.add 4) fun (Began36 : Sl) => (.slice Began36.a Began36.n Began36.c : Value) = .slice Began.a Began.n Began.c) ∧
                  (Ld .sl h_133 (p12.add 5) fun (Till49 : Sl) => (.slice Till49.a Till49.n Till49.c : Value) = .slice Till.a Till.n Till.c) ∧
                  App Try.prog 51 51 Began ⟨some b29, 1, 1⟩ h_133 fun s43 h_134 =>
                  (Ld .sl h_134 (p12.add 5) fun (Till50 : Sl) => (.slice Till50.a Till50.n Till50.c : Value) = .slice Till.a Till.n Till.c) ∧
                  App Try.prog 51 51 Till ⟨some b26, 1, 1⟩ h_134 fun s44 h_135 =>
                  Nn (some p) fun p65 =>
                  St h_135 (p65.add 2) (.slice s6.a s6.n s6.c) fun h_136 =>
                  Nn (some p) fun p66 =>
                  St h_136 (p66.add 3) (.slice s42.a s42.n s42.c) fun h_137 =>
                  Nn (some p) fun p67 =>
                  St h_137 (p67.add 4) (.slice s43.a s43.n s43.c) fun h_138 =>
                  Nn (some p) fun p68 =>
                  St h_138 (p68.add 5) (.slice s44.a s44.n s44.c) fun h_139 =>
                  J  h_139
                )
              ) ∧
              (
                Alloc h_122 (.cells #[.int .i64 0] 3) fun b30 h_140 =>
                (Ld .sl h_140 (p9.add 2) fun (Clock26 : Sl) => (.slice Clock26.a Clock26.n Clock26.c : Value) = .slice Clock.a Clock.n Clock.c) ∧
                (Ld .sl h_140 (p10.add 3) fun (Round27 : Sl) => (.slice Round27.a Round27.n Round27.c : Value) = .slice Round.a Round.n Round.c) ∧
                (Ld .sl h_140 (p11.add 4) fun (Began37 : Sl) => (.slice Began37.a Began37.n Began37.c : Value) = .slice Began.a Began.n Began.c) ∧
                (Ld .sl h_140 (p12.add 5) fun (Till51 : Sl) => (.slice Till51.a Till51.n Till51.c : Value) = .slice Till.a Till.n Till.c) ∧
                Alloc h_140 (.cells #[.int .i64 0] 3) fun b31 h_141 =>
                (Ld .sl h_141 (p9.add 2) fun (Clock27 : Sl) => (.slice Clock27.a Clock27.n Clock27.c : Value) = .slice Clock.a Clock.n Clock.c) ∧
                (Ld .sl h_141 (p10.add 3) fun (Round28 : Sl) => (.slice Round28.a Round28.n Round28.c : Value) = .slice Round.a Round.n Round.c) ∧
                (Ld .sl h_141 (p11.add 4) fun (Began38 : Sl) => (.slice Began38.a Began38.n Began38.c : Value) = .slice Began.a Began.n Began.c) ∧
                (Ld .sl h_141 (p12.add 5) fun (Till52 : Sl) => (.slice Till52.a Till52.n Till52.c : Value) = .slice Till.a Till.n Till.c) ∧
                App Try.prog 51 51 Round ⟨some b31, 1, 1⟩ h_141 fun s45 h_142 =>
                (Ld .sl h_142 (p11.add 4) fun (Began39 : Sl) => (.slice Began39.a Began39.n Began39.c : Value) = .slice Began.a Began.n Began.c) ∧
                (Ld .sl h_142 (p12.add 5) fun (Till53 : Sl) => (.slice Till53.a Till53.n Till53.c : Value) = .slice Till.a Till.n Till.c) ∧
                App Try.prog 51 51 Began ⟨some b30, 1, 1⟩ h_142 fun s46 h_143 =>
                (Ld .sl h_143 (p12.add 5) fun (Till54 : Sl) => (.slice Till54.a Till54.n Till54.c : Value) = .slice Till.a Till.n Till.c) ∧
                App Try.prog 51 51 Till ⟨some b26, 1, 1⟩ h_143 fun s47 h_144 =>
                Nn (some p) fun p69 =>
                St h_144 (p69.add 2) (.slice s6.a s6.n s6.c) fun h_145 =>
                Nn (some p) fun p70 =>
                St h_145 (p70.add 3) (.slice s45.a s45.n s45.c) fun h_146 =>
                Nn (some p) fun p71 =>
                St h_146 (p71.add 4) (.slice s46.a s46.n s46.c) fun h_147 =>
                Nn (some p) fun p72 =>
                St h_147 (p72.add 5) (.slice s47.a s47.n s47.c) fun h_148 =>
                J  h_148
              )
            )
          )
        ) ∧
        (
          (
            Alloc h_20 (.cells #[.int .i64 0] 3) fun b32 h_149 =>
            (Ld .sl h_149 (p9.add 2) fun (Clock28 : Sl) => (.slice Clock28.a Clock28.n Clock28.c : Value) = .slice Clock.a Clock.n Clock.c) ∧
            (Ld .sl h_149 (p10.add 3) fun (Round29 : Sl) => (.slice Round29.a Round29.n Round29.c : Value) = .slice Round.a Round.n Round.c) ∧
            (Ld .sl h_149 (p11.add 4) fun (Began40 : Sl) => (.slice Began40.a Began40.n Began40.c : Value) = .slice Began.a Began.n Began.c) ∧
            (Ld .sl h_149 (p12.add 5) fun (Till55 : Sl) => (.slice Till55.a Till55.n Till55.c : Value) = .slice Till.a Till.n Till.c) ∧
            (
              App Try.prog 51 51 Clock ⟨some b5, 1, 1⟩ h_149 fun s48 h_150 =>
              (Ld .sl h_150 (p10.add 3) fun (Round30 : Sl) => (.slice Round30.a Round30.n Round30.c : Value) = .slice Round.a Round.n Round.c) ∧
              (Ld .sl h_150 (p11.add 4) fun (Began41 : Sl) => (.slice Began41.a Began41.n Began41.c : Value) = .slice Began.a Began.n Began.c) ∧
              (Ld .sl h_150 (p12.add 5) fun (Till56 : Sl) => (.slice Till56.a Till56.n Till56.c : Value) = .slice Till.a Till.n Till.c) ∧
              (
                App Try.prog 51 51 Round ⟨some b32, 1, 1⟩ h_150 fun s49 h_151 =>
                (Ld .sl h_151 (p11.add 4) fun (Began42 : Sl) => (.slice Began42.a Began42.n Began42.c : Value) = .slice Began.a Began.n Began.c) ∧
                (Ld .sl h_151 (p12.add 5) fun (Till57 : Sl) => (.slice Till57.a Till57.n Till57.c : Value) = .slice Till.a Till.n Till.c) ∧
                (
                  Alloc h_151 (.cells #[.int .i64 0] 3) fun b33 h_152 =>
                  (Ld .sl h_152 (p9.add 2) fun (Clock29 : Sl) => (.slice Clock29.a Clock29.n Clock29.c : Value) = .slice Clock.a Clock.n Clock.c) ∧
                  (Ld .sl h_152 (p10.add 3) fun (Round31 : Sl) => (.slice Round31.a Round31.n Round31.c : Value) = .slice Round.a Round.n Round.c) ∧
                  (Ld .sl h_152 (p11.add 4) fun (Began43 : Sl) => (.slice Began43.a Began43.n Began43.c : Value) = .slice Began.a Began.n Began.c) ∧
                  (Ld .sl h_152 (p12.add 5) fun (Till58 : Sl) => (.slice Till58.a Till58.n Till58.c : Value) = .slice Till.a Till.n Till.c) ∧
                  (
                    App Try.prog 51 51 Began ⟨some b33, 1, 1⟩ h_152 fun s50 h_153 =>
                    (Ld .sl h_153 (p12.add 5) fun (Till59 : Sl) => (.slice Till59.a Till59.n Till59.c : Value) = .slice Till.a Till.n Till.c) ∧
                    Alloc h_153 (.cells #[.int .i64 0] 3) fun b34 h_154 =>
                    (Ld .sl h_154 (p9.add 2) fun (Clock30 : Sl) => (.slice Clock30.a Clock30.n Clock30.c : Value) = .slice Clock.a Clock.n Clock.c) ∧
                    (Ld .sl h_154 (p10.add 3) fun (Round32 : Sl) => (.slice Round32.a Round32.n Round32.c : Value) = .slice Round.a Round.n Round.c) ∧
                    (Ld .sl h_154 (p11.add 4) fun (Began44 : Sl) => (.slice Began44.a Began44.n Began44.c : Value) = .slice Began.a Began.n Began.c) ∧
                    (Ld .sl h_154 (p12.add 5) fun (Till60 : Sl) => (.slice Till60.a Till60.n Till60.c : Value) = .slice Till.a Till.n Till.c) ∧
                    App Try.prog 51 51 Till ⟨some b34, 1, 1⟩ h_154 fun s51 h_155 =>
                    Nn (some p) fun p73 =>
                    St h_155 (p73.add 2) (.slice s48.a s48.n s48.c) fun h_156 =>
                    Nn (some p) fun p74 =>
                    St h_156 (p74.add 3) (.slice s49.a s49.n s49.c) fun h_157 =>
                    Nn (some p) fun p75 =>
                    St h_157 (p75.add 4) (.slice s50.a s50.n s50.c) fun h_158 =>
                    Nn (some p) fun p76 =>
                    St h_158 (p76.add 5) (.slice s51.a s51.n s51.c) fun h_159 =>
                    J  h_159
                  ) ∧
                  (
                    Alloc h_152 (.cells #[.int .i64 0] 3) fun b35 h_160 =>
                    (Ld .sl h_160 (p9.add 2) fun (Clock31 : Sl) => (.slice Clock31.a Clock31.n Clock31.c : Value) = .slice Clock.a Clock.n Clock.c) ∧
                    (Ld .sl h_160 (p10.add 3) fun (Round33 : Sl) => (.slice Round33.a Round33.n Round33.c : Value) = .slice Round.a Round.n Round.c) ∧
                    (Ld .sl h_160 (p11.add 4) fun (Began45 : Sl) => (.slice Began45.a Began45.n Began45.c : Value) = .slice Began.a Began.n Began.c) ∧
                    (Ld .sl h_160 (p12.add 5) fun (Till61 : Sl) => (.slice Till61.a Till61.n Till61.c : Value) = .slice Till.a Till.n Till.c) ∧
                    App Try.prog 51 51 Began ⟨some b33, 1, 1⟩ h_160 fun s52 h_161 =>
                    (Ld .sl h_161 (p12.add 5) fun (Till62 : Sl) => (.slice Till62.a Till62.n Till62.c : Value) = .slice Till.a Till.n Till.c) ∧
                    App Try.prog 51 51 Till ⟨some b35, 1, 1⟩ h_161 fun s53 h_162 =>
                    Nn (some p) fun p77 =>
                    St h_162 (p77.add 2) (.slice s48.a s48.n s48.c) fun h_163 =>
                    Nn (some p) fun p78 =>
                    St h_163 (p78.add 3) (.slice s49.a s49.n s49.c) fun h_164 =>
                    Nn (some p) fun p79 =>
                    St h_164 (p79.add 4) (.slice s52.a s52.n s52.c) fun h_165 =>
                    Nn (some p) fun p80 =>
                    St h_165 (p80.add 5) (.slice s53.a s53.n s53.c) fun h_166 =>
                    J  h_166
                  )
                ) ∧
                (
                  Alloc h_151 (.cells #[.int .i64 0] 3) fun b36 h_167 =>
                  (Ld .sl h_167 (p9.add 2) fun (Clock32 : Sl) => (.slice Clock32.a Clock32.n Clock32.c : Value) = .slice Clock.a Clock.n Clock.c) ∧
                  (Ld .sl h_167 (p10.add 3) fun (Round34 : Sl) => (.slice Round34.a Round34.n Round34.c : Value) = .slice Round.a Round.n Round.c) ∧
                  (Ld .sl h_167 (p11.add 4) fun (Began46 : Sl) => (.slice Began46.a Began46.n Began46.c : Value) = .slice Began.a Began.n Began.c) ∧
                  (Ld .sl h_167 (p12.add 5) fun (Till63 : Sl) => (.slice Till63.a Till63.n Till63.c : Value) = .slice Till.a Till.n Till.c) ∧
                  Alloc h_167 (.cells #[.int .i64 0] 3) fun b37 h_168 =>
                  (Ld .sl h_168 (p9.add 2) fun (Clock33 : Sl) => (.slice Clock33.a Clock33.n Clock33.c : Value) = .slice Clock.a Clock.n Clock.c) ∧
                  (Ld .sl h_168 (p10.add 3) fun (Round35 : Sl) => (.slice Round35.a Round35.n Round35.c : Value) = .slice Round.a Round.n Round.c) ∧
                  (Ld .sl h_168 (p11.add 4) fun (Began47 : Sl) => (.slice Began47.a Began47.n Began47.c : Value) = .slice Began.a Began.n Began.c) ∧
                  (Ld .sl h_168 (p12.add 5) fun (Till64 : Sl) => (.slice Till64.a Till64.n Till64.c : Value) = .slice Till.a Till.n Till.c) ∧
                  App Try.prog 51 51 Began ⟨some b37, 1, 1⟩ h_168 fun s54 h_169 =>
                  (Ld .sl h_169 (p12.add 5) fun (Till65 : Sl) => (.slice Till65.a Till65.n Till65.c : Value) = .slice Till.a Till.n Till.c) ∧
                  App Try.prog 51 51 Till ⟨some b36, 1, 1⟩ h_169 fun s55 h_170 =>
                  Nn (some p) fun p81 =>
                  St h_170 (p81.add 2) (.slice s48.a s48.n s48.c) fun h_171 =>
                  Nn (some p) fun p82 =>
                  St h_171 (p82.add 3) (.slice s49.a s49.n s49.c) fun h_172 =>
                  Nn (some p) fun p83 =>
                  St h_172 (p83.add 4) (.slice s54.a s54.n s54.c) fun h_173 =>
                  Nn (some p) fun p84 =>
                  St h_173 (p84.add 5) (.slice s55.a s55.n s55.c) fun h_174 =>
                  J  h_174
                )
              ) ∧
              (
                (
                  Alloc h_150 (.cells #[.int .i64 0] 3) fun b38 h_175 =>
                  (Ld .sl h_175 (p9.add 2) fun (Clock34 : Sl) => (.slice Clock34.a Clock34.n Clock34.c : Value) = .slice Clock.a Clock.n Clock.c) ∧
                  (Ld .sl h_175 (p10.add 3) fun (Round36 : Sl) => (.slice Round36.a Round36.n Round36.c : Value) = .slice Round.a Round.n Round.c) ∧
                  (Ld .sl h_175 (p11.add 4) fun (Began48 : Sl) => (.slice Began48.a Began48.n Began48.c : Value) = .slice Began.a Began.n Began.c) ∧
                  (Ld .sl h_175 (p12.add 5) fun (Till66 : Sl) => (.slice Till66.a Till66.n Till66.c : Value) = .slice Till.a Till.n Till.c) ∧
                  (
                    App Try.prog 51 51 Round ⟨some b32, 1, 1⟩ h_175 fun s56 h_176 =>
                    (Ld .sl h_176 (p11.add 4) fun (Began49 : Sl) => (.slice Began49.a Began49.n Began49.c : Value) = .slice Began.a Began.n Began.c) ∧
                    (Ld .sl h_176 (p12.add 5) fun (Till67 : Sl) => (.slice Till67.a Till67.n Till67.c : Value) = .slice Till.a Till.n Till.c) ∧
                    (
                      App Try.prog 51 51 Began ⟨some b38, 1, 1⟩ h_176 fun s57 h_177 =>
                      (Ld .sl h_177 (p12.add 5) fun (Till68 : Sl) => (.slice Till68.a Till68.n Till68.c : Value) = .slice Till.a Till.n Till.c) ∧
                      Alloc h_177 (.cells #[.int .i64 0] 3) fun b39 h_178 =>
                      (Ld .sl h_178 (p9.add 2) fun (Clock35 : Sl) => (.slice Clock35.a Clock35.n Clock35.c : Value) = .slice Clock.a Clock.n Clock.c) ∧
                      (Ld .sl h_178 (p10.add 3) fun (Round37 : Sl) => (.slice Round37.a Round37.n Round37.c : Value) = .slice Round.a Round.n Round.c) ∧
                      (Ld .sl h_178 (p11.add 4) fun (Began50 : Sl) => (.slice Began50.a Began50.n Began50.c : Value) = .slice Began.a Began.n Began.c) ∧
                      (Ld .sl h_178 (p12.add 5) fun (Till69 : Sl) => (.slice Till69.a Till69.n Till69.c : Value) = .slice Till.a Till.n Till.c) ∧
                      App Try.prog 51 51 Till ⟨some b39, 1, 1⟩ h_178 fun s58 h_179 =>
                      Nn (some p) fun p85 =>
                      St h_179 (p85.add 2) (.slice s48.a s48.n s48.c) fun h_180 =>
                      Nn (some p) fun p86 =>
                      St h_180 (p86.add 3) (.slice s56.a s56.n s56.c) fun h_181 =>
                      Nn (some p) fun p87 =>
                      St h_181 (p87.add 4) (.slice s57.a s57.n s57.c) fun h_182 =>
                      Nn (some p) fun p88 =>
                      St h_182 (p88.add 5) (.slice s58.a s58.n s58.c) fun h_183 =>
                      J  h_183
                    ) ∧
                    (
                      Alloc h_176 (.cells #[.int .i64 0] 3) fun b40 h_184 =>
                      (Ld .sl h_184 (p9.add 2) fun (Clock36 : Sl) => (.slice Clock36.a Clock36.n Clock36.c : Value) = .slice Clock.a Clock.n Clock.c) ∧
                      (Ld .sl h_184 (p10.add 3) fun (Round38 : Sl) => (.slice Round38.a Round38.n Round38.c : Value) = .slice Round.a Round.n Round.c) ∧
                      (Ld .sl h_184 (p11.add 4) fun (Began51 : Sl) => (.slice Began51.a Began51.n Began51.c : Value) = .slice Began.a Began.n Began.c) ∧
                      (Ld .sl h_184 (p12.add 5) fun (Till70 : Sl) => (.slice Till70.a Till70.n Till70.c : Value) = .slice Till.a Till.n Till.c) ∧
                      App Try.prog 51 51 Began ⟨some b38, 1, 1⟩ h_184 fun s59 h_185 =>
                      (Ld .sl h_185 (p12.add 5) fun (Till71 : Sl) => (.slice Till71.a Till71.n Till71.c : Value) = .slice Till.a Till.n Till.c) ∧
                      App Try.prog 51 51 Till ⟨some b40, 1, 1⟩ h_185 fun s60 h_186 =>
                      Nn (some p) fun p89 =>
                      St h_186 (p89.add 2) (.slice s48.a s48.n s48.c) fun h_187 =>
                      Nn (some p) fun p90 =>
                      St h_187 (p90.add 3) (.slice s56.a s56.n s56.c) fun h_188 =>
                      Nn (some p) fun p91 =>
                      St h_188 (p91.add 4) (.slice s59.a s59.n s59.c) fun h_189 =>
                      Nn (some p) fun p92 =>
                      St h_189 (p92.add 5) (.slice s60.a s60.n s60.c) fun h_190 =>
                      J  h_190
                    )
                  ) ∧
                  (
                    Alloc h_175 (.cells #[.int .i64 0] 3) fun b41 h_191 =>
                    (Ld .sl h_191 (p9.add 2) fun (Clock37 : Sl) => (.slice Clock37.a Clock37.n Clock37.c : Value) = .slice Clock.a Clock.n Clock.c) ∧
                    (Ld .sl h_191 (p10.add 3) fun (Round39 : Sl) => (.slice Round39.a Round39.n Round39.c : Value) = .slice Round.a Round.n Round.c) ∧
                    (Ld .sl h_191 (p11.add 4) fun (Began52 : Sl) => (.slice Began52.a Began52.n Began52.c : Value) = .slice Began.a Began.n Began.c) ∧
                    (Ld .sl h_191 (p12.add 5) fun (Till72 : Sl) => (.slice Till72.a Till72.n Till72.c : Value) = .slice Till.a Till.n Till.c) ∧
                    App Try.prog 51 51 Round ⟨some b32, 1, 1⟩ h_191 fun s61 h_192 =>
                    (Ld .sl h_192 (p11.add 4) fun (Began53 : Sl) => (.slice Began53.a Began53.n Began53.c : Value) = .slice Began.a Began.n Began.c) ∧
                    (Ld .sl h_192 (p12.add 5) fun (Till73 : Sl) => (.slice Till73.a Till73.n Till73.c : Value) = .slice Till.a Till.n Till.c) ∧
                    App Try.prog 51 51 Began ⟨some b38, 1, 1⟩ h_192 fun s62 h_193 =>
                    (Ld .sl h_193 (p12.add 5) fun (Till74 : Sl) => (.slice Till74.a Till74.n Till74.c : Value) = .slice Till.a Till.n Till.c) ∧
                    App Try.prog 51 51 Till ⟨some b41, 1, 1⟩ h_193 fun s63 h_194 =>
                    Nn (some p) fun p93 =>
                    St h_194 (p93.add 2) (.slice s48.a s48.n s48.c) fun h_195 =>
                    Nn (some p) fun p94 =>
                    St h_195 (p94.add 3) (.slice s61.a s61.n s61.c) fun h_196 =>
                    Nn (some p) fun p95 =>
                    St h_196 (p95.add 4) (.slice s62.a s62.n s62.c) fun h_197 =>
                    Nn (some p) fun p96 =>
                    St h_197 (p96.add 5) (.slice s63.a s63.n s63.c) fun h_198 =>
                    J  h_198
                  )
                ) ∧
                (
                  Alloc h_150 (.cells #[.int .i64 0] 3) fun b42 h_199 =>
                  (Ld .sl h_199 (p9.add 2) fun (Clock38 : Sl) => (.slice Clock38.a Clock38.n Clock38.c : Value) = .slice Clock.a Clock.n Clock.c) ∧
                  (Ld .sl h_199 (p10.add 3) fun (Round40 : Sl) => (.slice Round40.a Round40.n Round40.c : Value) = .slice Round.a Round.n Round.c) ∧
                  (Ld .sl h_199 (p11.add 4) fun (Began54 : Sl) => (.slice Began54.a Began54.n Began54.c : Value) = .slice Began.a Began.n Began.c) ∧
                  (Ld .sl h_199 (p12.add 5) fun (Till75 : Sl) => (.slice Till75.a Till75.n Till75.c : Value) = .slice Till.a Till.n Till.c) ∧
                  (
                    App Try.prog 51 51 Round ⟨some b32, 1, 1⟩ h_199 fun s64 h_200 =>
                    (Ld .sl h_200 (p11.add 4) fun (Began55 : Sl) => (.slice Began55.a Began55.n Began55.c : Value) = .slice Began.a Began.n Began.c) ∧
                    (Ld .sl h_200 (p12.add 5) fun (Till76 : Sl) => (.slice Till76.a Till76.n Till76.c : Value) = .slice Till.a Till.n Till.c) ∧
                    Alloc h_200 (.cells #[.int .i64 0] 3) fun b43 h_201 =>
                    (Ld .sl h_201 (p9.add 2) fun (Clock39 : Sl) => (.slice Clock39.a Clock39.n Clock39.c : Value) = .slice Clock.a Clock.n Clock.c) ∧
                    (Ld .sl h_201 (p10.add 3) fun (Round41 : Sl) => (.slice Round41.a Round41.n Round41.c : Value) = .slice Round.a Round.n Round.c) ∧
                    (Ld .sl h_201 (p11.add 4) fun (Began56 : Sl) => (.slice Began56.a Began56.n Began56.c : Value) = .slice Began.a Began.n Began.c) ∧
                    (Ld .sl h_201 (p12.add 5) fun (Till77 : Sl) => (.slice Till77.a Till77.n Till77.c : Value) = .slice Till.a Till.n Till.c) ∧
                    App Try.prog 51 51 Began ⟨some b43, 1, 1⟩ h_201 fun s65 h_202 =>
                    (Ld .sl h_202 (p12.add 5) fun (Till78 : Sl) => (.slice Till78.a Till78.n Till78.c : Value) = .slice Till.a Till.n Till.c) ∧
                    App Try.prog 51 51 Till ⟨some b42, 1, 1⟩ h_202 fun s66 h_203 =>
                    Nn (some p) fun p97 =>
                    St h_203 (p97.add 2) (.slice s48.a s48.n s48.c) fun h_204 =>
                    Nn (some p) fun p98 =>
                    St h_204 (p98.add 3) (.slice s64.a s64.n s64.c) fun h_205 =>
                    Nn (some p) fun p99 =>
                    St h_205 (p99.add 4) (.slice s65.a s65.n s65.c) fun h_206 =>
                    Nn (some p) fun p100 =>
                    St h_206 (p100.add 5) (.slice s66.a s66.n s66.c) fun h_207 =>
                    J  h_207
                  ) ∧
                  (
                    Alloc h_199 (.cells #[.int .i64 0] 3) fun b44 h_208 =>
                    (Ld .sl h_208 (p9.add 2) fun (Clock40 : Sl) => (.slice Clock40.a Clock40.n Clock40.c : Value) = .slice Clock.a Clock.n Clock.c) ∧
                    (Ld .sl h_208 (p10.add 3) fun (Round42 : Sl) => (.slice Round42.a Round42.n Round42.c : Value) = .slice Round.a Round.n Round.c) ∧
                    (Ld .sl h_208 (p11.add 4) fun (Began57 : Sl) => (.slice Began57.a Began57.n Began57.c : Value) = .slice Began.a Began.n Began.c) ∧
                    (Ld .sl h_208 (p12.add 5) fun (Till79 : Sl) => (.slice Till79.a Till79.n Till79.c : Value) = .slice Till.a Till.n Till.c) ∧
                    App Try.prog 51 51 Round ⟨some b32, 1, 1⟩ h_208 fun s67 h_209 =>
                    (Ld .sl h_209 (p11.add 4) fun (Began58 : Sl) => (.slice Began58.a Began58.n Began58.c : Value) = .slice Began.a Began.n Began.c) ∧
                    (Ld .sl h_209 (p12.add 5) fun (Till80 : Sl) => (.slice Till80.a Till80.n Till80.c : Value) = .slice Till.a Till.n Till.c) ∧
                    App Try.prog 51 51 Began ⟨some b44, 1, 1⟩ h_209 fun s68 h_210 =>
                    (Ld .sl h_210 (p12.add 5) fun (Till81 : Sl) => (.slice Till81.a Till81.n Till81.c : Value) = .slice Till.a Till.n Till.c) ∧
                    App Try.prog 51 51 Till ⟨some b42, 1, 1⟩ h_210 fun s69 h_211 =>
                    Nn (some p) fun p101 =>
                    St h_211 (p101.add 2) (.slice s48.a s48.n s48.c) fun h_212 =>
                    Nn (some p) fun p102 =>
                    St h_212 (p102.add 3) (.slice s67.a s67.n s67.c) fun h_213 =>
                    Nn (some p) fun p103 =>
                    St h_213 (p103.add 4) (.slice s68.a s68.n s68.c) fun h_214 =>
                    Nn (some p) fun p104 =>
                    St h_214 (p104.add 5) (.slice s69.a s69.n s69.c) fun h_215 =>
                    J  h_215
                  )
                )
              )
            ) ∧
            (
              (
                Alloc h_149 (.cells #[.int .i64 0] 3) fun b45 h_216 =>
                (Ld .sl h_216 (p9.add 2) fun (Clock41 : Sl) => (.slice Clock41.a Clock41.n Clock41.c : Value) = .slice Clock.a Clock.n Clock.c) ∧
                (Ld .sl h_216 (p10.add 3) fun (Round43 : Sl) => (.slice Round43.a Round43.n Round43.c : Value) = .slice Round.a Round.n Round.c) ∧
                (Ld .sl h_216 (p11.add 4) fun (Began59 : Sl) => (.slice Began59.a Began59.n Began59.c : Value) = .slice Began.a Began.n Began.c) ∧
                (Ld .sl h_216 (p12.add 5) fun (Till82 : Sl) => (.slice Till82.a Till82.n Till82.c : Value) = .slice Till.a Till.n Till.c) ∧
                (
                  App Try.prog 51 51 Clock ⟨some b5, 1, 1⟩ h_216 fun s70 h_217 =>
                  (Ld .sl h_217 (p10.add 3) fun (Round44 : Sl) => (.slice Round44.a Round44.n Round44.c : Value) = .slice Round.a Round.n Round.c) ∧
                  (Ld .sl h_217 (p11.add 4) fun (Began60 : Sl) => (.slice Began60.a Began60.n Began60.c : Value) = .slice Began.a Began.n Began.c) ∧
                  (Ld .sl h_217 (p12.add 5) fun (Till83 : Sl) => (.slice Till83.a Till83.n Till83.c : Value) = .slice Till.a Till.n Till.c) ∧
                  (
                    App Try.prog 51 51 Round ⟨some b32, 1, 1⟩ h_217 fun s71 h_218 =>
                    (Ld .sl h_218 (p11.add 4) fun (Began61 : Sl) => (.slice Began61.a Began61.n Began61.c : Value) = .slice Began.a Began.n Began.c) ∧
                    (Ld .sl h_218 (p12.add 5) fun (Till84 : Sl) => (.slice Till84.a Till84.n Till84.c : Value) = .slice Till.a Till.n Till.c) ∧
                    (
                      App Try.prog 51 51 Began ⟨some b45, 1, 1⟩ h_218 fun s72 h_219 =>
                      (Ld .sl h_219 (p12.add 5) fun (Till85 : Sl) => (.slice Till85.a Till85.n Till85.c : Value) = .slice Till.a Till.n Till.c) ∧
                      Alloc h_219 (.cells #[.int .i64 0] 3) fun b46 h_220 =>
                      (Ld .sl h_220 (p9.add 2) fun (Clock42 : Sl) => (.slice Clock42.a Clock42.n Clock42.c : Value) = .slice Clock.a Clock.n Clock.c) ∧
                      (Ld .sl h_220 (p10.add 3) fun (Round45 : Sl) => (.slice Round45.a Round45.n Round45.c : Value) = .slice Round.a Round.n Round.c) ∧
                      (Ld .sl h_220 (p11.add 4) fun (Began62 : Sl) => (.slice Began62.a Began62.n Began62.c : Value) = .slice Began.a Began.n Began.c) ∧
                      (Ld .sl h_220 (p12.add 5) fun (Till86 : Sl) => (.slice Till86.a Till86.n Till86.c : Value) = .slice Till.a Till.n Till.c) ∧
                      App Try.prog 51 51 Till ⟨some b46, 1, 1⟩ h_220 fun s73 h_221 =>
                      Nn (some p) fun p105 =>
                      St h_221 (p105.add 2) (.slice s70.a s70.n s70.c) fun h_222 =>
                      Nn (some p) fun p106 =>
                      St h_222 (p106.add 3) (.slice s71.a s71.n s71.c) fun h_223 =>
                      Nn (some p) fun p107 =>
                      St h_223 (p107.add 4) (.slice s72.a s72.n s72.c) fun h_224 =>
                      Nn (some p) fun p108 =>
                      St h_224 (p108.add 5) (.slice s73.a s73.n s73.c) fun h_225 =>
                      J  h_225
                    ) ∧
                    (
                      Alloc h_218 (.cells #[.int .i64 0] 3) fun b47 h_226 =>
                      (Ld .sl h_226 (p9.add 2) fun (Clock43 : Sl) => (.slice Clock43.a Clock43.n Clock43.c : Value) = .slice Clock.a Clock.n Clock.c) ∧
                      (Ld .sl h_226 (p10.add 3) fun (Round46 : Sl) => (.slice Round46.a Round46.n Round46.c : Value) = .slice Round.a Round.n Round.c) ∧
                      (Ld .sl h_226 (p11.add 4) fun (Began63 : Sl) => (.slice Began63.a Began63.n Began63.c : Value) = .slice Began.a Began.n Began.c) ∧
                      (Ld .sl h_226 (p12.add 5) fun (Till87 : Sl) => (.slice Till87.a Till87.n Till87.c : Value) = .slice Till.a Till.n Till.c) ∧
                      App Try.prog 51 51 Began ⟨some b45, 1, 1⟩ h_226 fun s74 h_227 =>
                      (Ld .sl h_227 (p12.add 5) fun (Till88 : Sl) => (.slice Till88.a Till88.n Till88.c : Value) = .slice Till.a Till.n Till.c) ∧
                      App Try.prog 51 51 Till ⟨some b47, 1, 1⟩ h_227 fun s75 h_228 =>
                      Nn (some p) fun p109 =>
                      St h_228 (p109.add 2) (.slice s70.a s70.n s70.c) fun h_229 =>
                      Nn (some p) fun p110 =>
                      St h_229 (p110.add 3) (.slice s71.a s71.n s71.c) fun h_230 =>
                      Nn (some p) fun p111 =>
                      St h_230 (p111.add 4) (.slice s74.a s74.n s74.c) fun h_231 =>
                      Nn (some p) fun p112 =>
                      St h_231 (p112.add 5) (.slice s75.a s75.n s75.c) fun h_232 =>
                      J  h_232
                    )
                  ) ∧
                  (
                    Alloc h_217 (.cells #[.int .i64 0] 3) fun b48 h_233 =>
                    (Ld .sl h_233 (p9.add 2) fun (Clock44 : Sl) => (.slice Clock44.a Clock44.n Clock44.c : Value) = .slice Clock.a Clock.n Clock.c) ∧
                    (Ld .sl h_233 (p10.add 3) fun (Round47 : Sl) => (.slice Round47.a Round47.n Round47.c : Value) = .slice Round.a Round.n Round.c) ∧
                    (Ld .sl h_233 (p11.add 4) fun (Began64 : Sl) => (.slice Began64.a Began64.n Began64.c : Value) = .slice Began.a Began.n Began.c) ∧
                    (Ld .sl h_233 (p12.add 5) fun (Till89 : Sl) => (.slice Till89.a Till89.n Till89.c : Value) = .slice Till.a Till.n Till.c) ∧
                    App Try.prog 51 51 Round ⟨some b32, 1, 1⟩ h_233 fun s76 h_234 =>
                    (Ld .sl h_234 (p11.add 4) fun (Began65 : Sl) => (.slice Began65.a Began65.n Began65.c : Value) = .slice Began.a Began.n Began.c) ∧
                    (Ld .sl h_234 (p12.add 5) fun (Till90 : Sl) => (.slice Till90.a Till90.n Till90.c : Value) = .slice Till.a Till.n Till.c) ∧
                    App Try.prog 51 51 Began ⟨some b45, 1, 1⟩ h_234 fun s77 h_235 =>
                    (Ld .sl h_235 (p12.add 5) fun (Till91 : Sl) => (.slice Till91.a Till91.n Till91.c : Value) = .slice Till.a Till.n Till.c) ∧
                    App Try.prog 51 51 Till ⟨some b48, 1, 1⟩ h_235 fun s78 h_236 =>
                    Nn (some p) fun p113 =>
                    St h_236 (p113.add 2) (.slice s70.a s70.n s70.c) fun h_237 =>
                    Nn (some p) fun p114 =>
                    St h_237 (p114.add 3) (.slice s76.a s76.n s76.c) fun h_238 =>
                    Nn (some p) fun p115 =>
                    St h_238 (p115.add 4) (.slice s77.a s77.n s77.c) fun h_239 =>
                    Nn (some p) fun p116 =>
                    St h_239 (p116.add 5) (.slice s78.a s78.n s78.c) fun h_240 =>
                    J  h_240
                  )
                ) ∧
                (
                  Alloc h_216 (.cells #[.int .i64 0] 3) fun b49 h_241 =>
                  (Ld .sl h_241 (p9.add 2) fun (Clock45 : Sl) => (.slice Clock45.a Clock45.n Clock45.c : Value) = .slice Clock.a Clock.n Clock.c) ∧
                  (Ld .sl h_241 (p10.add 3) fun (Round48 : Sl) => (.slice Round48.a Round48.n Round48.c : Value) = .slice Round.a Round.n Round.c) ∧
                  (Ld .sl h_241 (p11.add 4) fun (Began66 : Sl) => (.slice Began66.a Began66.n Began66.c : Value) = .slice Began.a Began.n Began.c) ∧
                  (Ld .sl h_241 (p12.add 5) fun (Till92 : Sl) => (.slice Till92.a Till92.n Till92.c : Value) = .slice Till.a Till.n Till.c) ∧
                  App Try.prog 51 51 Clock ⟨some b5, 1, 1⟩ h_241 fun s79 h_242 =>
                  (Ld .sl h_242 (p10.add 3) fun (Round49 : Sl) => (.slice Round49.a Round49.n Round49.c : Value) = .slice Round.a Round.n Round.c) ∧
                  (Ld .sl h_242 (p11.add 4) fun (Began67 : Sl) => (.slice Began67.a Began67.n Began67.c : Value) = .slice Began.a Began.n Began.c) ∧
                  (Ld .sl h_242 (p12.add 5) fun (Till93 : Sl) => (.slice Till93.a Till93.n Till93.c : Value) = .slice Till.a Till.n Till.c) ∧
                  App Try.prog 51 51 Round ⟨some b32, 1, 1⟩ h_242 fun s80 h_243 =>
                  (Ld .sl h_243 (p11.add 4) fun (Began68 : Sl) => (.slice Began68.a Began68.n Began68.c : Value) = .slice Began.a Began.n Began.c) ∧
                  (Ld .sl h_243 (p12.add 5) fun (Till94 : Sl) => (.slice Till94.a Till94.n Till94.c : Value) = .slice Till.a Till.n Till.c) ∧
                  App Try.prog 51 51 Began ⟨some b45, 1, 1⟩ h_243 fun s81 h_244 =>
                  (Ld .sl h_244 (p12.add 5) fun (Till95 : Sl) => (.slice Till95.a Till95.n Till95.c : Value) = .slice Till.a Till.n Till.c) ∧
                  App Try.prog 51 51 Till ⟨some b49, 1, 1⟩ h_244 fun s82 h_245 =>
                  Nn (some p) fun p117 =>
                  St h_245 (p117.add 2) (.slice s79.a s79.n s79.c) fun h_246 =>
                  Nn (some p) fun p118 =>
                  St h_246 (p118.add 3) (.slice s80.a s80.n s80.c) fun h_247 =>
                  Nn (some p) fun p119 =>
                  St h_247 (p119.add 4) (.slice s81.a s81.n s81.c) fun h_248 =>
                  Nn (some p) fun p120 =>
                  St h_248 (p120.add 5) (.slice s82.a s82.n s82.c) fun h_249 =>
                  J  h_249
                )
              ) ∧
              (
                Alloc h_149 (.cells #[.int .i64 0] 3) fun b50 h_250 =>
                (Ld .sl h_250 (p9.add 2) fun (Clock46 : Sl) => (.slice Clock46.a Clock46.n Clock46.c : Value) = .slice Clock.a Clock.n Clock.c) ∧
                (Ld .sl h_250 (p10.add 3) fun (Round50 : Sl) => (.slice Round50.a Round50.n Round50.c : Value) = .slice Round.a Round.n Round.c) ∧
                (Ld .sl h_250 (p11.add 4) fun (Began69 : Sl) => (.slice Began69.a Began69.n Began69.c : Value) = .slice Began.a Began.n Began.c) ∧
                (Ld .sl h_250 (p12.add 5) fun (Till96 : Sl) => (.slice Till96.a Till96.n Till96.c : Value) = .slice Till.a Till.n Till.c) ∧
                (
                  App Try.prog 51 51 Clock ⟨some b5, 1, 1⟩ h_250 fun s83 h_251 =>
                  (Ld .sl h_251 (p10.add 3) fun (Round51 : Sl) => (.slice Round51.a Round51.n Round51.c : Value) = .slice Round.a Round.n Round.c) ∧
                  (Ld .sl h_251 (p11.add 4) fun (Began70 : Sl) => (.slice Began70.a Began70.n Began70.c : Value) = .slice Began.a Began.n Began.c) ∧
                  (Ld .sl h_251 (p12.add 5) fun (Till97 : Sl) => (.slice Till97.a Till97.n Till97.c : Value) = .slice Till.a Till.n Till.c) ∧
                  (
                    App Try.prog 51 51 Round ⟨some b32, 1, 1⟩ h_251 fun s84 h_252 =>
                    (Ld .sl h_252 (p11.add 4) fun (Began71 : Sl) => (.slice Began71.a Began71.n Began71.c : Value) = .slice Began.a Began.n Began.c) ∧
                    (Ld .sl h_252 (p12.add 5) fun (Till98 : Sl) => (.slice Till98.a Till98.n Till98.c : Value) = .slice Till.a Till.n Till.c) ∧
                    Alloc h_252 (.cells #[.int .i64 0] 3) fun b51 h_253 =>
                    (Ld .sl h_253 (p9.add 2) fun (Clock47 : Sl) => (.slice Clock47.a Clock47.n Clock47.c : Value) = .slice Clock.a Clock.n Clock.c) ∧
                    (Ld .sl h_253 (p10.add 3) fun (Round52 : Sl) => (.slice Round52.a Round52.n Round52.c : Value) = .slice Round.a Round.n Round.c) ∧
                    (Ld .sl h_253 (p11.add 4) fun (Began72 : Sl) => (.slice Began72.a Began72.n Began72.c : Value) = .slice Began.a Began.n Began.c) ∧
                    (Ld .sl h_253 (p12.add 5) fun (Till99 : Sl) => (.slice Till99.a Till99.n Till99.c : Value) = .slice Till.a Till.n Till.c) ∧
                    App Try.prog 51 51 Began ⟨some b51, 1, 1⟩ h_253 fun s85 h_254 =>
                    (Ld .sl h_254 (p12.add 5) fun (Till100 : Sl) => (.slice Till100.a Till100.n Till100.c : Value) = .slice Till.a Till.n Till.c) ∧
                    App Try.prog 51 51 Till ⟨some b50, 1, 1⟩ h_254 fun s86 h_255 =>
                    Nn (some p) fun p121 =>
                    St h_255 (p121.add 2) (.slice s83.a s83.n s83.c) fun h_256 =>
                    Nn (some p) fun p122 =>
                    St h_256 (p122.add 3) (.slice s84.a s84.n s84.c) fun h_257 =>
                    Nn (some p) fun p123 =>
                    St h_257 (p123.add 4) (.slice s85.a s85.n s85.c) fun h_258 =>
                    Nn (some p) fun p124 =>
                    St h_258 (p124.add 5) (.slice s86.a s86.n s86.c) fun h_259 =>
                    J  h_259
                  ) ∧
                  (
                    Alloc h_251 (.cells #[.int .i64 0] 3) fun b52 h_260 =>
                    (Ld .sl h_260 (p9.add 2) fun (Clock48 : Sl) => (.slice Clock48.a Clock48.n Clock48.c : Value) = .slice Clock.a Clock.n Clock.c) ∧
                    (Ld .sl h_260 (p10.add 3) fun (Round53 : Sl) => (.slice Round53.a Round53.n Round53.c : Value) = .slice Round.a Round.n Round.c) ∧
                    (Ld .sl h_260 (p11.add 4) fun (Began73 : Sl) => (.slice Began73.a Began73.n Began73.c : Value) = .slice Began.a Began.n Began.c) ∧
                    (Ld .sl h_260 (p12.add 5) fun (Till101 : Sl) => (.slice Till101.a Till101.n Till101.c : Value) = .slice Till.a Till.n Till.c) ∧
                    App Try.prog 51 51 Round ⟨some b32, 1, 1⟩ h_260 fun s87 h_261 =>
                    (Ld .sl h_261 (p11.add 4) fun (Began74 : Sl) => (.slice Began74.a Began74.n Began74.c : Value) = .slice Began.a Began.n Began.c) ∧
                    (Ld .sl h_261 (p12.add 5) fun (Till102 : Sl) => (.slice Till102.a Till102.n Till102.c : Value) = .slice Till.a Till.n Till.c) ∧
                    App Try.prog 51 51 Began ⟨some b52, 1, 1⟩ h_261 fun s88 h_262 =>
                    (Ld .sl h_262 (p12.add 5) fun (Till103 : Sl) => (.slice Till103.a Till103.n Till103.c : Value) = .slice Till.a Till.n Till.c) ∧
                    App Try.prog 51 51 Till ⟨some b50, 1, 1⟩ h_262 fun s89 h_263 =>
                    Nn (some p) fun p125 =>
                    St h_263 (p125.add 2) (.slice s83.a s83.n s83.c) fun h_264 =>
                    Nn (some p) fun p126 =>
                    St h_264 (p126.add 3) (.slice s87.a s87.n s87.c) fun h_265 =>
                    Nn (some p) fun p127 =>
                    St h_265 (p127.add 4) (.slice s88.a s88.n s88.c) fun h_266 =>
                    Nn (some p) fun p128 =>
                    St h_266 (p128.add 5) (.slice s89.a s89.n s89.c) fun h_267 =>
                    J  h_267
                  )
                ) ∧
                (
                  Alloc h_250 (.cells #[.int .i64 0] 3) fun b53 h_268 =>
                  (Ld .sl h_268 (p9.add 2) fun (Clock49 : Sl) => (.slice Clock49.a Clock49.n Clock49.c : Value) = .slice Clock.a Clock.n Clock.c) ∧
                  (Ld .sl h_268 (p10.add 3) fun (Round54 : Sl) => (.slice Round54.a Round54.n Round54.c : Value) = .slice Round.a Round.n Round.c) ∧
                  (Ld .sl h_268 (p11.add 4) fun (Began75 : Sl) => (.slice Began75.a Began75.n Began75.c : Value) = .slice Began.a Began.n Began.c) ∧
                  (Ld .sl h_268 (p12.add 5) fun (Till104 : Sl) => (.slice Till104.a Till104.n Till104.c : Value) = .slice Till.a Till.n Till.c) ∧
                  App Try.prog 51 51 Clock ⟨some b5, 1, 1⟩ h_268 fun s90 h_269 =>
                  (Ld .sl h_269 (p10.add 3) fun (Round55 : Sl) => (.slice Round55.a Round55.n Round55.c : Value) = .slice Round.a Round.n Round.c) ∧
                  (Ld .sl h_269 (p11.add 4) fun (Began76 : Sl) => (.slice Began76.a Began76.n Began76.c : Value) = .slice Began.a Began.n Began.c) ∧
                  (Ld .sl h_269 (p12.add 5) fun (Till105 : Sl) => (.slice Till105.a Till105.n Till105.c : Value) = .slice Till.a Till.n Till.c) ∧
                  App Try.prog 51 51 Round ⟨some b32, 1, 1⟩ h_269 fun s91 h_270 =>
                  (Ld .sl h_270 (p11.add 4) fun (Began77 : Sl) => (.slice Began77.a Began77.n Began77.c : Value) = .slice Began.a Began.n Began.c) ∧
                  (Ld .sl h_270 (p12.add 5) fun (Till106 : Sl) => (.slice Till106.a Till106.n Till106.c : Value) = .slice Till.a Till.n Till.c) ∧
                  App Try.prog 51 51 Began ⟨some b53, 1, 1⟩ h_270 fun s92 h_271 =>
                  (Ld .sl h_271 (p12.add 5) fun (Till107 : Sl) => (.slice Till107.a Till107.n Till107.c : Value) = .slice Till.a Till.n Till.c) ∧
                  App Try.prog 51 51 Till ⟨some b50, 1, 1⟩ h_271 fun s93 h_272 =>
                  Nn (some p) fun p129 =>
                  St h_272 (p129.add 2) (.slice s90.a s90.n s90.c) fun h_273 =>
                  Nn (some p) fun p130 =>
                  St h_273 (p130.add 3) (.slice s91.a s91.n s91.c) fun h_274 =>
                  Nn (some p) fun p131 =>
                  St h_274 (p131.add 4) (.slice s92.a s92.n s92.c) fun h_275 =>
                  Nn (some p) fun p132 =>
                  St h_275 (p132.add 5) (.slice s93.a s93.n s93.c) fun h_276 =>
                  J  h_276
                )
              )
            )
          ) ∧
          (
            (
              Alloc h_20 (.cells #[.int .i64 0] 3) fun b54 h_277 =>
              (Ld .sl h_277 (p9.add 2) fun (Clock50 : Sl) => (.slice Clock50.a Clock50.n Clock50.c : Value) = .slice Clock.a Clock.n Clock.c) ∧
              (Ld .sl h_277 (p10.add 3) fun (Round56 : Sl) => (.slice Round56.a Round56.n Round56.c : Value) = .slice Round.a Round.n Round.c) ∧
              (Ld .sl h_277 (p11.add 4) fun (Began78 : Sl) => (.slice Began78.a Began78.n Began78.c : Value) = .slice Began.a Began.n Began.c) ∧
              (Ld .sl h_277 (p12.add 5) fun (Till108 : Sl) => (.slice Till108.a Till108.n Till108.c : Value) = .slice Till.a Till.n Till.c) ∧
              (
                App Try.prog 51 51 Clock ⟨some b5, 1, 1⟩ h_277 fun s94 h_278 =>
                (Ld .sl h_278 (p10.add 3) fun (Round57 : Sl) => (.slice Round57.a Round57.n Round57.c : Value) = .slice Round.a Round.n Round.c) ∧
                (Ld .sl h_278 (p11.add 4) fun (Began79 : Sl) => (.slice Began79.a Began79.n Began79.c : Value) = .slice Began.a Began.n Began.c) ∧
                (Ld .sl h_278 (p12.add 5) fun (Till109 : Sl) => (.slice Till109.a Till109.n Till109.c : Value) = .slice Till.a Till.n Till.c) ∧
                (
                  Alloc h_278 (.cells #[.int .i64 0] 3) fun b55 h_279 =>
                  (Ld .sl h_279 (p9.add 2) fun (Clock51 : Sl) => (.slice Clock51.a Clock51.n Clock51.c : Value) = .slice Clock.a Clock.n Clock.c) ∧
                  (Ld .sl h_279 (p10.add 3) fun (Round58 : Sl) => (.slice Round58.a Round58.n Round58.c : Value) = .slice Round.a Round.n Round.c) ∧
                  (Ld .sl h_279 (p11.add 4) fun (Began80 : Sl) => (.slice Began80.a Began80.n Began80.c : Value) = .slice Began.a Began.n Began.c) ∧
                  (Ld .sl h_279 (p12.add 5) fun (Till110 : Sl) => (.slice Till110.a Till110.n Till110.c : Value) = .slice Till.a Till.n Till.c) ∧
                  (
                    App Try.prog 51 51 Round ⟨some b55, 1, 1⟩ h_279 fun s95 h_280 =>
                    (Ld .sl h_280 (p11.add 4) fun (Began81 : Sl) => (.slice Began81.a Began81.n Began81.c : Value) = .slice Began.a Began.n Began.c) ∧
                    (Ld .sl h_280 (p12.add 5) fun (Till111 : Sl) => (.slice Till111.a Till111.n Till111.c : Value) = .slice Till.a Till.n Till.c) ∧
                    (
                      App Try.prog 51 51 Began ⟨some b54, 1, 1⟩ h_280 fun s96 h_281 =>
                      (Ld .sl h_281 (p12.add 5) fun (Till112 : Sl) => (.slice Till112.a Till112.n Till112.c : Value) = .slice Till.a Till.n Till.c) ∧
                      Alloc h_281 (.cells #[.int .i64 0] 3) fun b56 h_282 =>
                      (Ld .sl h_282 (p9.add 2) fun (Clock52 : Sl) => (.slice Clock52.a Clock52.n Clock52.c : Value) = .slice Clock.a Clock.n Clock.c) ∧
                      (Ld .sl h_282 (p10.add 3) fun (Round59 : Sl) => (.slice Round59.a Round59.n Round59.c : Value) = .slice Round.a Round.n Round.c) ∧
                      (Ld .sl h_282 (p11.add 4) fun (Began82 : Sl) => (.slice Began82.a Began82.n Began82.c : Value) = .slice Began.a Began.n Began.c) ∧
                      (Ld .sl h_282 (p12.add 5) fun (Till113 : Sl) => (.slice Till113.a Till113.n Till113.c : Value) = .slice Till.a Till.n Till.c) ∧
                      App Try.prog 51 51 Till ⟨some b56, 1, 1⟩ h_282 fun s97 h_283 =>
                      Nn (some p) fun p133 =>
                      St h_283 (p133.add 2) (.slice s94.a s94.n s94.c) fun h_284 =>
                      Nn (some p) fun p134 =>
                      St h_284 (p134.add 3) (.slice s95.a s95.n s95.c) fun h_285 =>
                      Nn (some p) fun p135 =>
                      St h_285 (p135.add 4) (.slice s96.a s96.n s96.c) fun h_286 =>
                      Nn (some p) fun p136 =>
                      St h_286 (p136.add 5) (.slice s97.a s97.n s97.c) fun h_287 =>
                      J  h_287
                    ) ∧
                    (
                      Alloc h_280 (.cells #[.int .i64 0] 3) fun b57 h_288 =>
                      (Ld .sl h_288 (p9.add 2) fun (Clock53 : Sl) => (.slice Clock53.a Clock53.n Clock53.c : Value) = .slice Clock.a Clock.n Clock.c) ∧
                      (Ld .sl h_288 (p10.add 3) fun (Round60 : Sl) => (.slice Round60.a Round60.n Round60.c : Value) = .slice Round.a Round.n Round.c) ∧
                      (Ld .sl h_288 (p11.add 4) fun (Began83 : Sl) => (.slice Began83.a Began83.n Began83.c : Value) = .slice Began.a Began.n Began.c) ∧
                      (Ld .sl h_288 (p12.add 5) fun (Till114 : Sl) => (.slice Till114.a Till114.n Till114.c : Value) = .slice Till.a Till.n Till.c) ∧
                      App Try.prog 51 51 Began ⟨some b54, 1, 1⟩ h_288 fun s98 h_289 =>
                      (Ld .sl h_289 (p12.add 5) fun (Till115 : Sl) => (.slice Till115.a Till115.n Till115.c : Value) = .slice Till.a Till.n Till.c) ∧
                      App Try.prog 51 51 Till ⟨some b57, 1, 1⟩ h_289 fun s99 h_290 =>
                      Nn (some p) fun p137 =>
                      St h_290 (p137.add 2) (.slice s94.a s94.n s94.c) fun h_291 =>
                      Nn (some p) fun p138 =>
                      St h_291 (p138.add 3) (.slice s95.a s95.n s95.c) fun h_292 =>
                      Nn (some p) fun p139 =>
                      St h_292 (p139.add 4) (.slice s98.a s98.n s98.c) fun h_293 =>
                      Nn (some p) fun p140 =>
                      St h_293 (p140.add 5) (.slice s99.a s99.n s99.c) fun h_294 =>
                      J  h_294
                    )
                  ) ∧
                  (
                    Alloc h_279 (.cells #[.int .i64 0] 3) fun b58 h_295 =>
                    (Ld .sl h_295 (p9.add 2) fun (Clock54 : Sl) => (.slice Clock54.a Clock54.n Clock54.c : Value) = .slice Clock.a Clock.n Clock.c) ∧
                    (Ld .sl h_295 (p10.add 3) fun (Round61 : Sl) => (.slice Round61.a Round61.n Round61.c : Value) = .slice Round.a Round.n Round.c) ∧
                    (Ld .sl h_295 (p11.add 4) fun (Began84 : Sl) => (.slice Began84.a Began84.n Began84.c : Value) = .slice Began.a Began.n Began.c) ∧
                    (Ld .sl h_295 (p12.add 5) fun (Till116 : Sl) => (.slice Till116.a Till116.n Till116.c : Value) = .slice Till.a Till.n Till.c) ∧
                    App Try.prog 51 51 Round ⟨some b55, 1, 1⟩ h_295 fun s100 h_296 =>
                    (Ld .sl h_296 (p11.add 4) fun (Began85 : Sl) => (.slice Began85.a Began85.n Began85.c : Value) = .slice Began.a Began.n Began.c) ∧
                    (Ld .sl h_296 (p12.add 5) fun (Till117 : Sl) => (.slice Till117.a Till117.n Till117.c : Value) = .slice Till.a Till.n Till.c) ∧
                    App Try.prog 51 51 Began ⟨some b54, 1, 1⟩ h_296 fun s101 h_297 =>
                    (Ld .sl h_297 (p12.add 5) fun (Till118 : Sl) => (.slice Till118.a Till118.n Till118.c : Value) = .slice Till.a Till.n Till.c) ∧
                    App Try.prog 51 51 Till ⟨some b58, 1, 1⟩ h_297 fun s102 h_298 =>
                    Nn (some p) fun p141 =>
                    St h_298 (p141.add 2) (.slice s94.a s94.n s94.c) fun h_299 =>
                    Nn (some p) fun p142 =>
                    St h_299 (p142.add 3) (.slice s100.a s100.n s100.c) fun h_300 =>
                    Nn (some p) fun p143 =>
                    St h_300 (p143.add 4) (.slice s101.a s101.n s101.c) fun h_301 =>
                    Nn (some p) fun p144 =>
                    St h_301 (p144.add 5) (.slice s102.a s102.n s102.c) fun h_302 =>
                    J  h_302
                  )
                ) ∧
                (
                  Alloc h_278 (.cells #[.int .i64 0] 3) fun b59 h_303 =>
                  (Ld .sl h_303 (p9.add 2) fun (Clock55 : Sl) => (.slice Clock55.a Clock55.n Clock55.c : Value) = .slice Clock.a Clock.n Clock.c) ∧
                  (Ld .sl h_303 (p10.add 3) fun (Round62 : Sl) => (.slice Round62.a Round62.n Round62.c : Value) = .slice Round.a Round.n Round.c) ∧
                  (Ld .sl h_303 (p11.add 4) fun (Began86 : Sl) => (.slice Began86.a Began86.n Began86.c : Value) = .slice Began.a Began.n Began.c) ∧
                  (Ld .sl h_303 (p12.add 5) fun (Till119 : Sl) => (.slice Till119.a Till119.n Till119.c : Value) = .slice Till.a Till.n Till.c) ∧
                  Alloc h_303 (.cells #[.int .i64 0] 3) fun b60 h_304 =>
                  (Ld .sl h_304 (p9.add 2) fun (Clock56 : Sl) => (.slice Clock56.a Clock56.n Clock56.c : Value) = .slice Clock.a Clock.n Clock.c) ∧
                  (Ld .sl h_304 (p10.add 3) fun (Round63 : Sl) => (.slice Round63.a Round63.n Round63.c : Value) = .slice Round.a Round.n Round.c) ∧
                  (Ld .sl h_304 (p11.add 4) fun (Began87 : Sl) => (.slice Began87.a Began87.n Began87.c : Value) = .slice Began.a Began.n Began.c) ∧
                  (Ld .sl h_304 (p12.add 5) fun (Till120 : Sl) => (.slice Till120.a Till120.n Till120.c : Value) = .slice Till.a Till.n Till.c) ∧
                  App Try.prog 51 51 Round ⟨some b60, 1, 1⟩ h_304 fun s103 h_305 =>
                  (Ld .sl h_305 (p11.add 4) fun (Began88 : Sl) => (.slice Began88.a Began88.n Began88.c : Value) = .slice Began.a Began.n Began.c) ∧
                  (Ld .sl h_305 (p12.add 5) fun (Till121 : Sl) => (.slice Till121.a Till121.n Till121.c : Value) = .slice Till.a Till.n Till.c) ∧
                  App Try.prog 51 51 Began ⟨some b54, 1, 1⟩ h_305 fun s104 h_306 =>
                  (Ld .sl h_306 (p12.add 5) fun (Till122 : Sl) => (.slice Till122.a Till122.n Till122.c : Value) = .slice Till.a Till.n Till.c) ∧
                  App Try.prog 51 51 Till ⟨some b59, 1, 1⟩ h_306 fun s105 h_307 =>
                  Nn (some p) fun p145 =>
                  St h_307 (p145.add 2) (.slice s94.a s94.n s94.c) fun h_308 =>
                  Nn (some p) fun p146 =>
                  St h_308 (p146.add 3) (.slice s103.a s103.n s103.c) fun h_309 =>
                  Nn (some p) fun p147 =>
                  St h_309 (p147.add 4) (.slice s104.a s104.n s104.c) fun h_310 =>
                  Nn (some p) fun p148 =>
                  St h_310 (p148.add 5) (.slice s105.a s105.n s105.c) fun h_311 =>
                  J  h_311
                )
              ) ∧
              (
                (
                  Alloc h_277 (.cells #[.int .i64 0] 3) fun b61 h_312 =>
                  (Ld .sl h_312 (p9.add 2) fun (Clock57 : Sl) => (.slice Clock57.a Clock57.n Clock57.c : Value) = .slice Clock.a Clock.n Clock.c) ∧
                  (Ld .sl h_312 (p10.add 3) fun (Round64 : Sl) => (.slice Round64.a Round64.n Round64.c : Value) = .slice Round.a Round.n Round.c) ∧
                  (Ld .sl h_312 (p11.add 4) fun (Began89 : Sl) => (.slice Began89.a Began89.n Began89.c : Value) = .slice Began.a Began.n Began.c) ∧
                  (Ld .sl h_312 (p12.add 5) fun (Till123 : Sl) => (.slice Till123.a Till123.n Till123.c : Value) = .slice Till.a Till.n Till.c) ∧
                  (
                    App Try.prog 51 51 Clock ⟨some b5, 1, 1⟩ h_312 fun s106 h_313 =>
                    (Ld .sl h_313 (p10.add 3) fun (Round65 : Sl) => (.slice Round65.a Round65.n Round65.c : Value) = .slice Round.a Round.n Round.c) ∧
                    (Ld .sl h_313 (p11.add 4) fun (Began90 : Sl) => (.slice Began90.a Began90.n Began90.c : Value) = .slice Began.a Began.n Began.c) ∧
                    (Ld .sl h_313 (p12.add 5) fun (Till124 : Sl) => (.slice Till124.a Till124.n Till124.c : Value) = .slice Till.a Till.n Till.c) ∧
                    (
                      App Try.prog 51 51 Round ⟨some b61, 1, 1⟩ h_313 fun s107 h_314 =>
                      (Ld .sl h_314 (p11.add 4) fun (Began91 : Sl) => (.slice Began91.a Began91.n Began91.c : Value) = .slice Began.a Began.n Began.c) ∧
                      (Ld .sl h_314 (p12.add 5) fun (Till125 : Sl) => (.slice Till125.a Till125.n Till125.c : Value) = .slice Till.a Till.n Till.c) ∧
                      (
                        App Try.prog 51 51 Began ⟨some b54, 1, 1⟩ h_314 fun s108 h_315 =>
                        (Ld .sl h_315 (p12.add 5) fun (Till126 : Sl) => (.slice Till126.a Till126.n Till126.c : Value) = .slice Till.a Till.n Till.c) ∧
                        Alloc h_315 (.cells #[.int .i64 0] 3) fun b62 h_316 =>
                        (Ld .sl h_316 (p9.add 2) fun (Clock58 : Sl) => (.slice Clock58.a Clock58.n Clock58.c : Value) = .slice Clock.a Clock.n Clock.c) ∧
                        (Ld .sl h_316 (p10.add 3) fun (Round66 : Sl) => (.slice Round66.a Round66.n Round66.c : Value) = .slice Round.a Round.n Round.c) ∧
                        (Ld .sl h_316 (p11.add 4) fun (Began92 : Sl) => (.slice Began92.a Began92.n Began92.c : Value) = .slice Began.a Began.n Began.c) ∧
                        (Ld .sl h_316 (p12.add 5) fun (Till127 : Sl) => (.slice Till127.a Till127.n Till127.c : Value) = .slice Till.a Till.n Till.c) ∧
                        App Try.prog 51 51 Till ⟨some b62, 1, 1⟩ h_316 fun s109 h_317 =>
                        Nn (some p) fun p149 =>
                        St h_317 (p149.add 2) (.slice s106.a s106.n s106.c) fun h_318 =>
                        Nn (some p) fun p150 =>
                        St h_318 (p150.add 3) (.slice s107.a s107.n s107.c) fun h_319 =>
                        Nn (some p) fun p151 =>
                        St h_319 (p151.add 4) (.slice s108.a s108.n s108.c) fun h_320 =>
                        Nn (some p) fun p152 =>
                        St h_320 (p152.add 5) (.slice s109.a s109.n s109.c) fun h_321 =>
                        J  h_321
                      ) ∧
                      (
                        Alloc h_314 (.cells #[.int .i64 0] 3) fun b63 h_322 =>
                        (Ld .sl h_322 (p9.add 2) fun (Clock59 : Sl) => (.slice Clock59.a Clock59.n Clock59.c : Value) = .slice Clock.a Clock.n Clock.c) ∧
                        (Ld .sl h_322 (p10.add 3) fun (Round67 : Sl) => (.slice Round67.a Round67.n Round67.c : Value) = .slice Round.a Round.n Round.c) ∧
                        (Ld .sl h_322 (p11.add 4) fun (Began93 : Sl) => (.slice Began93.a Began93.n Began93.c : Value) = .slice Began.a Began.n Began.c) ∧
                        (Ld .sl h_322 (p12.add 5) fun (Till128 : Sl) => (.slice Till128.a Till128.n Till128.c : Value) = .slice Till.a Till.n Till.c) ∧
                        App Try.prog 51 51 Began ⟨some b54, 1, 1⟩ h_322 fun s110 h_323 =>
                        (Ld .sl h_323 (p12.add 5) fun (Till129 : Sl) => (.slice Till129.a Till129.n Till129.c : Value) = .slice Till.a Till.n Till.c) ∧
                        App Try.prog 51 51 Till ⟨some b63, 1, 1⟩ h_323 fun s111 h_324 =>
                        Nn (some p) fun p153 =>
                        St h_324 (p153.add 2) (.slice s106.a s106.n s106.c) fun h_325 =>
                        Nn (some p) fun p154 =>
                        St h_325 (p154.add 3) (.slice s107.a s107.n s107.c) fun h_326 =>
                        Nn (some p) fun p155 =>
                        St h_326 (p155.add 4) (.slice s110.a s110.n s110.c) fun h_327 =>
                        Nn (some p) fun p156 =>
                        St h_327 (p156.add 5) (.slice s111.a s111.n s111.c) fun h_328 =>
                        J  h_328
                      )
                    ) ∧
                    (
                      Alloc h_313 (.cells #[.int .i64 0] 3) fun b64 h_329 =>
                      (Ld .sl h_329 (p9.add 2) fun (Clock60 : Sl) => (.slice Clock60.a Clock60.n Clock60.c : Value) = .slice Clock.a Clock.n Clock.c) ∧
                      (Ld .sl h_329 (p10.add 3) fun (Round68 : Sl) => (.slice Round68.a Round68.n Round68.c : Value) = .slice Round.a Round.n Round.c) ∧
                      (Ld .sl h_329 (p11.add 4) fun (Began94 : Sl) => (.slice Began94.a Began94.n Began94.c : Value) = .slice Began.a Began.n Began.c) ∧
                      (Ld .sl h_329 (p12.add 5) fun (Till130 : Sl) => (.slice Till130.a Till130.n Till130.c : Value) = .slice Till.a Till.n Till.c) ∧
                      App Try.prog 51 51 Round ⟨some b61, 1, 1⟩ h_329 fun s112 h_330 =>
                      (Ld .sl h_330 (p11.add 4) fun (Began95 : Sl) => (.slice Began95.a Began95.n Began95.c : Value) = .slice Began.a Began.n Began.c) ∧
                      (Ld .sl h_330 (p12.add 5) fun (Till131 : Sl) => (.slice Till131.a Till131.n Till131.c : Value) = .slice Till.a Till.n Till.c) ∧
                      App Try.prog 51 51 Began ⟨some b54, 1, 1⟩ h_330 fun s113 h_331 =>
                      (Ld .sl h_331 (p12.add 5) fun (Till132 : Sl) => (.slice Till132.a Till132.n Till132.c : Value) = .slice Till.a Till.n Till.c) ∧
                      App Try.prog 51 51 Till ⟨some b64, 1, 1⟩ h_331 fun s114 h_332 =>
                      Nn (some p) fun p157 =>
                      St h_332 (p157.add 2) (.slice s106.a s106.n s106.c) fun h_333 =>
                      Nn (some p) fun p158 =>
                      St h_333 (p158.add 3) (.slice s112.a s112.n s112.c) fun h_334 =>
                      Nn (some p) fun p159 =>
                      St h_334 (p159.add 4) (.slice s113.a s113.n s113.c) fun h_335 =>
                      Nn (some p) fun p160 =>
                      St h_335 (p160.add 5) (.slice s114.a s114.n s114.c) fun h_336 =>
                      J  h_336
                    )
                  ) ∧
                  (
                    Alloc h_312 (.cells #[.int .i64 0] 3) fun b65 h_337 =>
                    (Ld .sl h_337 (p9.add 2) fun (Clock61 : Sl) => (.slice Clock61.a Clock61.n Clock61.c : Value) = .slice Clock.a Clock.n Clock.c) ∧
                    (Ld .sl h_337 (p10.add 3) fun (Round69 : Sl) => (.slice Round69.a Round69.n Round69.c : Value) = .slice Round.a Round.n Round.c) ∧
                    (Ld .sl h_337 (p11.add 4) fun (Began96 : Sl) => (.slice Began96.a Began96.n Began96.c : Value) = .slice Began.a Began.n Began.c) ∧
                    (Ld .sl h_337 (p12.add 5) fun (Till133 : Sl) => (.slice Till133.a Till133.n Till133.c : Value) = .slice Till.a Till.n Till.c) ∧
                    App Try.prog 51 51 Clock ⟨some b5, 1, 1⟩ h_337 fun s115 h_338 =>
                    (Ld .sl h_338 (p10.add 3) fun (Round70 : Sl) => (.slice Round70.a Round70.n Round70.c : Value) = .slice Round.a Round.n Round.c) ∧
                    (Ld .sl h_338 (p11.add 4) fun (Began97 : Sl) => (.slice Began97.a Began97.n Began97.c : Value) = .slice Began.a Began.n Began.c) ∧
                    (Ld .sl h_338 (p12.add 5) fun (Till134 : Sl) => (.slice Till134.a Till134.n Till134.c : Value) = .slice Till.a Till.n Till.c) ∧
                    App Try.prog 51 51 Round ⟨some b61, 1, 1⟩ h_338 fun s116 h_339 =>
                    (Ld .sl h_339 (p11.add 4) fun (Began98 : Sl) => (.slice Began98.a Began98.n Began98.c : Value) = .slice Began.a Began.n Began.c) ∧
                    (Ld .sl h_339 (p12.add 5) fun (Till135 : Sl) => (.slice Till135.a Till135.n Till135.c : Value) = .slice Till.a Till.n Till.c) ∧
                    App Try.prog 51 51 Began ⟨some b54, 1, 1⟩ h_339 fun s117 h_340 =>
                    (Ld .sl h_340 (p12.add 5) fun (Till136 : Sl) => (.slice Till136.a Till136.n Till136.c : Value) = .slice Till.a Till.n Till.c) ∧
                    App Try.prog 51 51 Till ⟨some b65, 1, 1⟩ h_340 fun s118 h_341 =>
                    Nn (some p) fun p161 =>
                    St h_341 (p161.add 2) (.slice s115.a s115.n s115.c) fun h_342 =>
                    Nn (some p) fun p162 =>
                    St h_342 (p162.add 3) (.slice s116.a s116.n s116.c) fun h_343 =>
                    Nn (some p) fun p163 =>
                    St h_343 (p163.add 4) (.slice s117.a s117.n s117.c) fun h_344 =>
                    Nn (some p) fun p164 =>
                    St h_344 (p164.add 5) (.slice s118.a s118.n s118.c) fun h_345 =>
                    J  h_345
                  )
                ) ∧
                (
                  Alloc h_277 (.cells #[.int .i64 0] 3) fun b66 h_346 =>
                  (Ld .sl h_346 (p9.add 2) fun (Clock62 : Sl) => (.slice Clock62.a Clock62.n Clock62.c : Value) = .slice Clock.a Clock.n Clock.c) ∧
                  (Ld .sl h_346 (p10.add 3) fun (Round71 : Sl) => (.slice Round71.a Round71.n Round71.c : Value) = .slice Round.a Round.n Round.c) ∧
                  (Ld .sl h_346 (p11.add 4) fun (Began99 : Sl) => (.slice Began99.a Began99.n Began99.c : Value) = .slice Began.a Began.n Began.c) ∧
                  (Ld .sl h_346 (p12.add 5) fun (Till137 : Sl) => (.slice Till137.a Till137.n Till137.c : Value) = .slice Till.a Till.n Till.c) ∧
                  (
                    App Try.prog 51 51 Clock ⟨some b5, 1, 1⟩ h_346 fun s119 h_347 =>
                    (Ld .sl h_347 (p10.add 3) fun (Round72 : Sl) => (.slice Round72.a Round72.n Round72.c : Value) = .slice Round.a Round.n Round.c) ∧
                    (Ld .sl h_347 (p11.add 4) fun (Began100 : Sl) => (.slice Began100.a Began100.n Began100.c : Value) = .slice Began.a Began.n Began.c) ∧
                    (Ld .sl h_347 (p12.add 5) fun (Till138 : Sl) => (.slice Till138.a Till138.n Till138.c : Value) = .slice Till.a Till.n Till.c) ∧
                    Alloc h_347 (.cells #[.int .i64 0] 3) fun b67 h_348 =>
                    (Ld .sl h_348 (p9.add 2) fun (Clock63 : Sl) => (.slice Clock63.a Clock63.n Clock63.c : Value) = .slice Clock.a Clock.n Clock.c) ∧
                    (Ld .sl h_348 (p10.add 3) fun (Round73 : Sl) => (.slice Round73.a Round73.n Round73.c : Value) = .slice Round.a Round.n Round.c) ∧
                    (Ld .sl h_348 (p11.add 4) fun (Began101 : Sl) => (.slice Began101.a Began101.n Began101.c : Value) = .slice Began.a Began.n Began.c) ∧
                    (Ld .sl h_348 (p12.add 5) fun (Till139 : Sl) => (.slice Till139.a Till139.n Till139.c : Value) = .slice Till.a Till.n Till.c) ∧
                    App Try.prog 51 51 Round ⟨some b67, 1, 1⟩ h_348 fun s120 h_349 =>
                    (Ld .sl h_349 (p11.add 4) fun (Began102 : Sl) => (.slice Began102.a Began102.n Began102.c : Value) = .slice Began.a Began.n Began.c) ∧
                    (Ld .sl h_349 (p12.add 5) fun (Till140 : Sl) => (.slice Till140.a Till140.n Till140.c : Value) = .slice Till.a Till.n Till.c) ∧
                    App Try.prog 51 51 Began ⟨some b54, 1, 1⟩ h_349 fun s121 h_350 =>
                    (Ld .sl h_350 (p12.add 5) fun (Till141 : Sl) => (.slice Till141.a Till141.n Till141.c : Value) = .slice Till.a Till.n Till.c) ∧
                    App Try.prog 51 51 Till ⟨some b66, 1, 1⟩ h_350 fun s122 h_351 =>
                    Nn (some p) fun p165 =>
                    St h_351 (p165.add 2) (.slice s119.a s119.n s119.c) fun h_352 =>
                    Nn (some p) fun p166 =>
                    St h_352 (p166.add 3) (.slice s120.a s120.n s120.c) fun h_353 =>
                    Nn (some p) fun p167 =>
                    St h_353 (p167.add 4) (.slice s121.a s121.n s121.c) fun h_354 =>
                    Nn (some p) fun p168 =>
                    St h_354 (p168.add 5) (.slice s122.a s122.n s122.c) fun h_355 =>
                    J  h_355
                  ) ∧
                  (
                    Alloc h_346 (.cells #[.int .i64 0] 3) fun b68 h_356 =>
                    (Ld .sl h_356 (p9.add 2) fun (Clock64 : Sl) => (.slice Clock64.a Clock64.n Clock64.c : Value) = .slice Clock.a Clock.n Clock.c) ∧
                    (Ld .sl h_356 (p10.add 3) fun (Round74 : Sl) => (.slice Round74.a Round74.n Round74.c : Value) = .slice Round.a Round.n Round.c) ∧
                    (Ld .sl h_356 (p11.add 4) fun (Began103 : Sl) => (.slice Began103.a Began103.n Began103.c : Value) = .slice Began.a Began.n Began.c) ∧
                    (Ld .sl h_356 (p12.add 5) fun (Till142 : Sl) => (.slice Till142.a Till142.n Till142.c : Value) = .slice Till.a Till.n Till.c) ∧
                    App Try.prog 51 51 Clock ⟨some b5, 1, 1⟩ h_356 fun s123 h_357 =>
                    (Ld .sl h_357 (p10.add 3) fun (Round75 : Sl) => (.slice Round75.a Round75.n Round75.c : Value) = .slice Round.a Round.n Round.c) ∧
                    (Ld .sl h_357 (p11.add 4) fun (Began104 : Sl) => (.slice Began104.a Began104.n Began104.c : Value) = .slice Began.a Began.n Began.c) ∧
                    (Ld .sl h_357 (p12.add 5) fun (Till143 : Sl) => (.slice Till143.a Till143.n Till143.c : Value) = .slice Till.a Till.n Till.c) ∧
                    App Try.prog 51 51 Round ⟨some b68, 1, 1⟩ h_357 fun s124 h_358 =>
                    (Ld .sl h_358 (p11.add 4) fun (Began105 : Sl) => (.slice Began105.a Began105.n Began105.c : Value) = .slice Began.a Began.n Began.c) ∧
                    (Ld .sl h_358 (p12.add 5) fun (Till144 : Sl) => (.slice Till144.a Till144.n Till144.c : Value) = .slice Till.a Till.n Till.c) ∧
                    App Try.prog 51 51 Began ⟨some b54, 1, 1⟩ h_358 fun s125 h_359 =>
                    (Ld .sl h_359 (p12.add 5) fun (Till145 : Sl) => (.slice Till145.a Till145.n Till145.c : Value) = .slice Till.a Till.n Till.c) ∧
                    App Try.prog 51 51 Till ⟨some b66, 1, 1⟩ h_359 fun s126 h_360 =>
                    Nn (some p) fun p169 =>
                    St h_360 (p169.add 2) (.slice s123.a s123.n s123.c) fun h_361 =>
                    Nn (some p) fun p170 =>
                    St h_361 (p170.add 3) (.slice s124.a s124.n s124.c) fun h_362 =>
                    Nn (some p) fun p171 =>
                    St h_362 (p171.add 4) (.slice s125.a s125.n s125.c) fun h_363 =>
                    Nn (some p) fun p172 =>
                    St h_363 (p172.add 5) (.slice s126.a s126.n s126.c) fun h_364 =>
                    J  h_364
                  )
                )
              )
            ) ∧
            (
              Alloc h_20 (.cells #[.int .i64 0] 3) fun b69 h_365 =>
              (Ld .sl h_365 (p9.add 2) fun (Clock65 : Sl) => (.slice Clock65.a Clock65.n Clock65.c : Value) = .slice Clock.a Clock.n Clock.c) ∧
              (Ld .sl h_365 (p10.add 3) fun (Round76 : Sl) => (.slice Round76.a Round76.n Round76.c : Value) = .slice Round.a Round.n Round.c) ∧
              (Ld .sl h_365 (p11.add 4) fun (Began106 : Sl) => (.slice Began106.a Began106.n Began106.c : Value) = .slice Began.a Began.n Began.c) ∧
              (Ld .sl h_365 (p12.add 5) fun (Till146 : Sl) => (.slice Till146.a Till146.n Till146.c : Value) = .slice Till.a Till.n Till.c) ∧
              (
                App Try.prog 51 51 Clock ⟨some b5, 1, 1⟩ h_365 fun s127 h_366 =>
                (Ld .sl h_366 (p10.add 3) fun (Round77 : Sl) => (.slice Round77.a Round77.n Round77.c : Value) = .slice Round.a Round.n Round.c) ∧
                (Ld .sl h_366 (p11.add 4) fun (Began107 : Sl) => (.slice Began107.a Began107.n Began107.c : Value) = .slice Began.a Began.n Began.c) ∧
                (Ld .sl h_366 (p12.add 5) fun (Till147 : Sl) => (.slice Till147.a Till147.n Till147.c : Value) = .slice Till.a Till.n Till.c) ∧
                (
                  Alloc h_366 (.cells #[.int .i64 0] 3) fun b70 h_367 =>
                  (Ld .sl h_367 (p9.add 2) fun (Clock66 : Sl) => (.slice Clock66.a Clock66.n Clock66.c : Value) = .slice Clock.a Clock.n Clock.c) ∧
                  (Ld .sl h_367 (p10.add 3) fun (Round78 : Sl) => (.slice Round78.a Round78.n Round78.c : Value) = .slice Round.a Round.n Round.c) ∧
                  (Ld .sl h_367 (p11.add 4) fun (Began108 : Sl) => (.slice Began108.a Began108.n Began108.c : Value) = .slice Began.a Began.n Began.c) ∧
                  (Ld .sl h_367 (p12.add 5) fun (Till148 : Sl) => (.slice Till148.a Till148.n Till148.c : Value) = .slice Till.a Till.n Till.c) ∧
                  (
                    App Try.prog 51 51 Round ⟨some b70, 1, 1⟩ h_367 fun s128 h_368 =>
                    (Ld .sl h_368 (p11.add 4) fun (Began109 : Sl) => (.slice Began109.a Began109.n Began109.c : Value) = .slice Began.a Began.n Began.c) ∧
                    (Ld .sl h_368 (p12.add 5) fun (Till149 : Sl) => (.slice Till149.a Till149.n Till149.c : Value) = .slice Till.a Till.n Till.c) ∧
                    Alloc h_368 (.cells #[.int .i64 0] 3) fun b71 h_369 =>
                    (Ld .sl h_369 (p9.add 2) fun (Clock67 : Sl) => (.slice Clock67.a Clock67.n Clock67.c : Value) = .slice Clock.a Clock.n Clock.c) ∧
                    (Ld .sl h_369 (p10.add 3) fun (Round79 : Sl) => (.slice Round79.a Round79.n Round79.c : Value) = .slice Round.a Round.n Round.c) ∧
                    (Ld .sl h_369 (p11.add 4) fun (Began110 : Sl) => (.slice Began110.a Began110.n Began110.c : Value) = .slice Began.a Began.n Began.c) ∧
                    (Ld .sl h_369 (p12.add 5) fun (Till150 : Sl) => (.slice Till150.a Till150.n Till150.c : Value) = .slice Till.a Till.n Till.c) ∧
                    App Try.prog 51 51 Began ⟨some b71, 1, 1⟩ h_369 fun s129 h_370 =>
                    (Ld .sl h_370 (p12.add 5) fun (Till151 : Sl) => (.slice Till151.a Till151.n Till151.c : Value) = .slice Till.a Till.n Till.c) ∧
                    App Try.prog 51 51 Till ⟨some b69, 1, 1⟩ h_370 fun s130 h_371 =>
                    Nn (some p) fun p173 =>
                    St h_371 (p173.add 2) (.slice s127.a s127.n s127.c) fun h_372 =>
                    Nn (some p) fun p174 =>
                    St h_372 (p174.add 3) (.slice s128.a s128.n s128.c) fun h_373 =>
                    Nn (some p) fun p175 =>
                    St h_373 (p175.add 4) (.slice s129.a s129.n s129.c) fun h_374 =>
                    Nn (some p) fun p176 =>
                    St h_374 (p176.add 5) (.slice s130.a s130.n s130.c) fun h_375 =>
                    J  h_375
                  ) ∧
                  (
                    Alloc h_367 (.cells #[.int .i64 0] 3) fun b72 h_376 =>
                    (Ld .sl h_376 (p9.add 2) fun (Clock68 : Sl) => (.slice Clock68.a Clock68.n Clock68.c : Value) = .slice Clock.a Clock.n Clock.c) ∧
                    (Ld .sl h_376 (p10.add 3) fun (Round80 : Sl) => (.slice Round80.a Round80.n Round80.c : Value) = .slice Round.a Round.n Round.c) ∧
                    (Ld .sl h_376 (p11.add 4) fun (Began111 : Sl) => (.slice Began111.a Began111.n Began111.c : Value) = .slice Began.a Began.n Began.c) ∧
                    (Ld .sl h_376 (p12.add 5) fun (Till152 : Sl) => (.slice Till152.a Till152.n Till152.c : Value) = .slice Till.a Till.n Till.c) ∧
                    App Try.prog 51 51 Round ⟨some b70, 1, 1⟩ h_376 fun s131 h_377 =>
                    (Ld .sl h_377 (p11.add 4) fun (Began112 : Sl) => (.slice Began112.a Began112.n Began112.c : Value) = .slice Began.a Began.n Began.c) ∧
                    (Ld .sl h_377 (p12.add 5) fun (Till153 : Sl) => (.slice Till153.a Till153.n Till153.c : Value) = .slice Till.a Till.n Till.c) ∧
                    App Try.prog 51 51 Began ⟨some b72, 1, 1⟩ h_377 fun s132 h_378 =>
                    (Ld .sl h_378 (p12.add 5) fun (Till154 : Sl) => (.slice Till154.a Till154.n Till154.c : Value) = .slice Till.a Till.n Till.c) ∧
                    App Try.prog 51 51 Till ⟨some b69, 1, 1⟩ h_378 fun s133 h_379 =>
                    Nn (some p) fun p177 =>
                    St h_379 (p177.add 2) (.slice s127.a s127.n s127.c) fun h_380 =>
                    Nn (some p) fun p178 =>
                    St h_380 (p178.add 3) (.slice s131.a s131.n s131.c) fun h_381 =>
                    Nn (some p) fun p179 =>
                    St h_381 (p179.add 4) (.slice s132.a s132.n s132.c) fun h_382 =>
                    Nn (some p) fun p180 =>
                    St h_382 (p180.add 5) (.slice s133.a s133.n s133.c) fun h_383 =>
                    J  h_383
                  )
                ) ∧
                (
                  Alloc h_366 (.cells #[.int .i64 0] 3) fun b73 h_384 =>
                  (Ld .sl h_384 (p9.add 2) fun (Clock69 : Sl) => (.slice Clock69.a Clock69.n Clock69.c : Value) = .slice Clock.a Clock.n Clock.c) ∧
                  (Ld .sl h_384 (p10.add 3) fun (Round81 : Sl) => (.slice Round81.a Round81.n Round81.c : Value) = .slice Round.a Round.n Round.c) ∧
                  (Ld .sl h_384 (p11.add 4) fun (Began113 : Sl) => (.slice Began113.a Began113.n Began113.c : Value) = .slice Began.a Began.n Began.c) ∧
                  (Ld .sl h_384 (p12.add 5) fun (Till155 : Sl) => (.slice Till155.a Till155.n Till155.c : Value) = .slice Till.a Till.n Till.c) ∧
                  Alloc h_384 (.cells #[.int .i64 0] 3) fun b74 h_385 =>
                  (Ld .sl h_385 (p9.add 2) fun (Clock70 : Sl) => (.slice Clock70.a Clock70.n Clock70.c : Value) = .slice Clock.a Clock.n Clock.c) ∧
                  (Ld .sl h_385 (p10.add 3) fun (Round82 : Sl) => (.slice Round82.a Round82.n Round82.c : Value) = .slice Round.a Round.n Round.c) ∧
                  (Ld .sl h_385 (p11.add 4) fun (Began114 : Sl) => (.slice Began114.a Began114.n Began114.c : Value) = .slice Began.a Began.n Began.c) ∧
                  (Ld .sl h_385 (p12.add 5) fun (Till156 : Sl) => (.slice Till156.a Till156.n Till156.c : Value) = .slice Till.a Till.n Till.c) ∧
                  App Try.prog 51 51 Round ⟨some b74, 1, 1⟩ h_385 fun s134 h_386 =>
                  (Ld .sl h_386 (p11.add 4) fun (Began115 : Sl) => (.slice Began115.a Began115.n Began115.c : Value) = .slice Began.a Began.n Began.c) ∧
                  (Ld .sl h_386 (p12.add 5) fun (Till157 : Sl) => (.slice Till157.a Till157.n Till157.c : Value) = .slice Till.a Till.n Till.c) ∧
                  App Try.prog 51 51 Began ⟨some b73, 1, 1⟩ h_386 fun s135 h_387 =>
                  (Ld .sl h_387 (p12.add 5) fun (Till158 : Sl) => (.slice Till158.a Till158.n Till158.c : Value) = .slice Till.a Till.n Till.c) ∧
                  App Try.prog 51 51 Till ⟨some b69, 1, 1⟩ h_387 fun s136 h_388 =>
                  Nn (some p) fun p181 =>
                  St h_388 (p181.add 2) (.slice s127.a s127.n s127.c) fun h_389 =>
                  Nn (some p) fun p182 =>
                  St h_389 (p182.add 3) (.slice s134.a s134.n s134.c) fun h_390 =>
                  Nn (some p) fun p183 =>
                  St h_390 (p183.add 4) (.slice s135.a s135.n s135.c) fun h_391 =>
                  Nn (some p) fun p184 =>
                  St h_391 (p184.add 5) (.slice s136.a s136.n s136.c) fun h_392 =>
                  J  h_392
                )
              ) ∧
              (
                (
                  Alloc h_365 (.cells #[.int .i64 0] 3) fun b75 h_393 =>
                  (Ld .sl h_393 (p9.add 2) fun (Clock71 : Sl) => (.slice Clock71.a Clock71.n Clock71.c : Value) = .slice Clock.a Clock.n Clock.c) ∧
                  (Ld .sl h_393 (p10.add 3) fun (Round83 : Sl) => (.slice Round83.a Round83.n Round83.c : Value) = .slice Round.a Round.n Round.c) ∧
                  (Ld .sl h_393 (p11.add 4) fun (Began116 : Sl) => (.slice Began116.a Began116.n Began116.c : Value) = .slice Began.a Began.n Began.c) ∧
                  (Ld .sl h_393 (p12.add 5) fun (Till159 : Sl) => (.slice Till159.a Till159.n Till159.c : Value) = .slice Till.a Till.n Till.c) ∧
                  (
                    App Try.prog 51 51 Clock ⟨some b5, 1, 1⟩ h_393 fun s137 h_394 =>
                    (Ld .sl h_394 (p10.add 3) fun (Round84 : Sl) => (.slice Round84.a Round84.n Round84.c : Value) = .slice Round.a Round.n Round.c) ∧
                    (Ld .sl h_394 (p11.add 4) fun (Began117 : Sl) => (.slice Began117.a Began117.n Began117.c : Value) = .slice Began.a Began.n Began.c) ∧
                    (Ld .sl h_394 (p12.add 5) fun (Till160 : Sl) => (.slice Till160.a Till160.n Till160.c : Value) = .slice Till.a Till.n Till.c) ∧
                    (
                      App Try.prog 51 51 Round ⟨some b75, 1, 1⟩ h_394 fun s138 h_395 =>
                      (Ld .sl h_395 (p11.add 4) fun (Began118 : Sl) => (.slice Began118.a Began118.n Began118.c : Value) = .slice Began.a Began.n Began.c) ∧
                      (Ld .sl h_395 (p12.add 5) fun (Till161 : Sl) => (.slice Till161.a Till161.n Till161.c : Value) = .slice Till.a Till.n Till.c) ∧
                      Alloc h_395 (.cells #[.int .i64 0] 3) fun b76 h_396 =>
                      (Ld .sl h_396 (p9.add 2) fun (Clock72 : Sl) => (.slice Clock72.a Clock72.n Clock72.c : Value) = .slice Clock.a Clock.n Clock.c) ∧
                      (Ld .sl h_396 (p10.add 3) fun (Round85 : Sl) => (.slice Round85.a Round85.n Round85.c : Value) = .slice Round.a Round.n Round.c) ∧
                      (Ld .sl h_396 (p11.add 4) fun (Began119 : Sl) => (.slice Began119.a Began119.n Began119.c : Value) = .slice Began.a Began.n Began.c) ∧
                      (Ld .sl h_396 (p12.add 5) fun (Till162 : Sl) => (.slice Till162.a Till162.n Till162.c : Value) = .slice Till.a Till.n Till.c) ∧
                      App Try.prog 51 51 Began ⟨some b76, 1, 1⟩ h_396 fun s139 h_397 =>
                      (Ld .sl h_397 (p12.add 5) fun (Till163 : Sl) => (.slice Till163.a Till163.n Till163.c : Value) = .slice Till.a Till.n Till.c) ∧
                      App Try.prog 51 51 Till ⟨some b69, 1, 1⟩ h_397 fun s140 h_398 =>
                      Nn (some p) fun p185 =>
                      St h_398 (p185.add 2) (.slice s137.a s137.n s137.c) fun h_399 =>
                      Nn (some p) fun p186 =>
                      St h_399 (p186.add 3) (.slice s138.a s138.n s138.c) fun h_400 =>
                      Nn (some p) fun p187 =>
                      St h_400 (p187.add 4) (.slice s139.a s139.n s139.c) fun h_401 =>
                      Nn (some p) fun p188 =>
                      St h_401 (p188.add 5) (.slice s140.a s140.n s140.c) fun h_402 =>
                      J  h_402
                    ) ∧
                    (
                      Alloc h_394 (.cells #[.int .i64 0] 3) fun b77 h_403 =>
                      (Ld .sl h_403 (p9.add 2) fun (Clock73 : Sl) => (.slice Clock73.a Clock73.n Clock73.c : Value) = .slice Clock.a Clock.n Clock.c) ∧
                      (Ld .sl h_403 (p10.add 3) fun (Round86 : Sl) => (.slice Round86.a Round86.n Round86.c : Value) = .slice Round.a Round.n Round.c) ∧
                      (Ld .sl h_403 (p11.add 4) fun (Began120 : Sl) => (.slice Began120.a Began120.n Began120.c : Value) = .slice Began.a Began.n Began.c) ∧
                      (Ld .sl h_403 (p12.add 5) fun (Till164 : Sl) => (.slice Till164.a Till164.n Till164.c : Value) = .slice Till.a Till.n Till.c) ∧
                      App Try.prog 51 51 Round ⟨some b75, 1, 1⟩ h_403 fun s141 h_404 =>
                      (Ld .sl h_404 (p11.add 4) fun (Began121 : Sl) => (.slice Began121.a Began121.n Began121.c : Value) = .slice Began.a Began.n Began.c) ∧
                      (Ld .sl h_404 (p12.add 5) fun (Till165 : Sl) => (.slice Till165.a Till165.n Till165.c : Value) = .slice Till.a Till.n Till.c) ∧
                      App Try.prog 51 51 Began ⟨some b77, 1, 1⟩ h_404 fun s142 h_405 =>
                      (Ld .sl h_405 (p12.add 5) fun (Till166 : Sl) => (.slice Till166.a Till166.n Till166.c : Value) = .slice Till.a Till.n Till.c) ∧
                      App Try.prog 51 51 Till ⟨some b69, 1, 1⟩ h_405 fun s143 h_406 =>
                      Nn (some p) fun p189 =>
                      St h_406 (p189.add 2) (.slice s137.a s137.n s137.c) fun h_407 =>
                      Nn (some p) fun p190 =>
                      St h_407 (p190.add 3) (.slice s141.a s141.n s141.c) fun h_408 =>
                      Nn (some p) fun p191 =>
                      St h_408 (p191.add 4) (.slice s142.a s142.n s142.c) fun h_409 =>
                      Nn (some p) fun p192 =>
                      St h_409 (p192.add 5) (.slice s143.a s143.n s143.c) fun h_410 =>
                      J  h_410
                    )
                  ) ∧
                  (
                    Alloc h_393 (.cells #[.int .i64 0] 3) fun b78 h_411 =>
                    (Ld .sl h_411 (p9.add 2) fun (Clock74 : Sl) => (.slice Clock74.a Clock74.n Clock74.c : Value) = .slice Clock.a Clock.n Clock.c) ∧
                    (Ld .sl h_411 (p10.add 3) fun (Round87 : Sl) => (.slice Round87.a Round87.n Round87.c : Value) = .slice Round.a Round.n Round.c) ∧
                    (Ld .sl h_411 (p11.add 4) fun (Began122 : Sl) => (.slice Began122.a Began122.n Began122.c : Value) = .slice Began.a Began.n Began.c) ∧
                    (Ld .sl h_411 (p12.add 5) fun (Till167 : Sl) => (.slice Till167.a Till167.n Till167.c : Value) = .slice Till.a Till.n Till.c) ∧
                    App Try.prog 51 51 Clock ⟨some b5, 1, 1⟩ h_411 fun s144 h_412 =>
                    (Ld .sl h_412 (p10.add 3) fun (Round88 : Sl) => (.slice Round88.a Round88.n Round88.c : Value) = .slice Round.a Round.n Round.c) ∧
                    (Ld .sl h_412 (p11.add 4) fun (Began123 : Sl) => (.slice Began123.a Began123.n Began123.c : Value) = .slice Began.a Began.n Began.c) ∧
                    (Ld .sl h_412 (p12.add 5) fun (Till168 : Sl) => (.slice Till168.a Till168.n Till168.c : Value) = .slice Till.a Till.n Till.c) ∧
                    App Try.prog 51 51 Round ⟨some b75, 1, 1⟩ h_412 fun s145 h_413 =>
                    (Ld .sl h_413 (p11.add 4) fun (Began124 : Sl) => (.slice Began124.a Began124.n Began124.c : Value) = .slice Began.a Began.n Began.c) ∧
                    (Ld .sl h_413 (p12.add 5) fun (Till169 : Sl) => (.slice Till169.a Till169.n Till169.c : Value) = .slice Till.a Till.n Till.c) ∧
                    App Try.prog 51 51 Began ⟨some b78, 1, 1⟩ h_413 fun s146 h_414 =>
                    (Ld .sl h_414 (p12.add 5) fun (Till170 : Sl) => (.slice Till170.a Till170.n Till170.c : Value) = .slice Till.a Till.n Till.c) ∧
                    App Try.prog 51 51 Till ⟨some b69, 1, 1⟩ h_414 fun s147 h_415 =>
                    Nn (some p) fun p193 =>
                    St h_415 (p193.add 2) (.slice s144.a s144.n s144.c) fun h_416 =>
                    Nn (some p) fun p194 =>
                    St h_416 (p194.add 3) (.slice s145.a s145.n s145.c) fun h_417 =>
                    Nn (some p) fun p195 =>
                    St h_417 (p195.add 4) (.slice s146.a s146.n s146.c) fun h_418 =>
                    Nn (some p) fun p196 =>
                    St h_418 (p196.add 5) (.slice s147.a s147.n s147.c) fun h_419 =>
                    J  h_419
                  )
                ) ∧
                (
                  Alloc h_365 (.cells #[.int .i64 0] 3) fun b79 h_420 =>
                  (Ld .sl h_420 (p9.add 2) fun (Clock75 : Sl) => (.slice Clock75.a Clock75.n Clock75.c : Value) = .slice Clock.a Clock.n Clock.c) ∧
                  (Ld .sl h_420 (p10.add 3) fun (Round89 : Sl) => (.slice Round89.a Round89.n Round89.c : Value) = .slice Round.a Round.n Round.c) ∧
                  (Ld .sl h_420 (p11.add 4) fun (Began125 : Sl) => (.slice Began125.a Began125.n Began125.c : Value) = .slice Began.a Began.n Began.c) ∧
                  (Ld .sl h_420 (p12.add 5) fun (Till171 : Sl) => (.slice Till171.a Till171.n Till171.c : Value) = .slice Till.a Till.n Till.c) ∧
                  (
                    App Try.prog 51 51 Clock ⟨some b5, 1, 1⟩ h_420 fun s148 h_421 =>
                    (Ld .sl h_421 (p10.add 3) fun (Round90 : Sl) => (.slice Round90.a Round90.n Round90.c : Value) = .slice Round.a Round.n Round.c) ∧
                    (Ld .sl h_421 (p11.add 4) fun (Began126 : Sl) => (.slice Began126.a Began126.n Began126.c : Value) = .slice Began.a Began.n Began.c) ∧
                    (Ld .sl h_421 (p12.add 5) fun (Till172 : Sl) => (.slice Till172.a Till172.n Till172.c : Value) = .slice Till.a Till.n Till.c) ∧
                    Alloc h_421 (.cells #[.int .i64 0] 3) fun b80 h_422 =>
                    (Ld .sl h_422 (p9.add 2) fun (Clock76 : Sl) => (.slice Clock76.a Clock76.n Clock76.c : Value) = .slice Clock.a Clock.n Clock.c) ∧
                    (Ld .sl h_422 (p10.add 3) fun (Round91 : Sl) => (.slice Round91.a Round91.n Round91.c : Value) = .slice Round.a Round.n Round.c) ∧
                    (Ld .sl h_422 (p11.add 4) fun (Began127 : Sl) => (.slice Began127.a Began127.n Began127.c : Value) = .slice Began.a Began.n Began.c) ∧
                    (Ld .sl h_422 (p12.add 5) fun (Till173 : Sl) => (.slice Till173.a Till173.n Till173.c : Value) = .slice Till.a Till.n Till.c) ∧
                    App Try.prog 51 51 Round ⟨some b80, 1, 1⟩ h_422 fun s149 h_423 =>
                    (Ld .sl h_423 (p11.add 4) fun (Began128 : Sl) => (.slice Began128.a Began128.n Began128.c : Value) = .slice Began.a Began.n Began.c) ∧
                    (Ld .sl h_423 (p12.add 5) fun (Till174 : Sl) => (.slice Till174.a Till174.n Till174.c : Value) = .slice Till.a Till.n Till.c) ∧
                    App Try.prog 51 51 Began ⟨some b79, 1, 1⟩ h_423 fun s150 h_424 =>
                    (Ld .sl h_424 (p12.add 5) fun (Till175 : Sl) => (.slice Till175.a Till175.n Till175.c : Value) = .slice Till.a Till.n Till.c) ∧
                    App Try.prog 51 51 Till ⟨some b69, 1, 1⟩ h_424 fun s151 h_425 =>
                    Nn (some p) fun p197 =>
                    St h_425 (p197.add 2) (.slice s148.a s148.n s148.c) fun h_426 =>
                    Nn (some p) fun p198 =>
                    St h_426 (p198.add 3) (.slice s149.a s149.n s149.c) fun h_427 =>
                    Nn (some p) fun p199 =>
                    St h_427 (p199.add 4) (.slice s150.a s150.n s150.c) fun h_428 =>
                    Nn (some p) fun p200 =>
                    St h_428 (p200.add 5) (.slice s151.a s151.n s151.c) fun h_429 =>
                    J  h_429
                  ) ∧
                  (
                    Alloc h_420 (.cells #[.int .i64 0] 3) fun b81 h_430 =>
                    (Ld .sl h_430 (p9.add 2) fun (Clock77 : Sl) => (.slice Clock77.a Clock77.n Clock77.c : Value) = .slice Clock.a Clock.n Clock.c) ∧
                    (Ld .sl h_430 (p10.add 3) fun (Round92 : Sl) => (.slice Round92.a Round92.n Round92.c : Value) = .slice Round.a Round.n Round.c) ∧
                    (Ld .sl h_430 (p11.add 4) fun (Began129 : Sl) => (.slice Began129.a Began129.n Began129.c : Value) = .slice Began.a Began.n Began.c) ∧
                    (Ld .sl h_430 (p12.add 5) fun (Till176 : Sl) => (.slice Till176.a Till176.n Till176.c : Value) = .slice Till.a Till.n Till.c) ∧
                    App Try.prog 51 51 Clock ⟨some b5, 1, 1⟩ h_430 fun s152 h_431 =>
                    (Ld .sl h_431 (p10.add 3) fun (Round93 : Sl) => (.slice Round93.a Round93.n Round93.c : Value) = .slice Round.a Round.n Round.c) ∧
                    (Ld .sl h_431 (p11.add 4) fun (Began130 : Sl) => (.slice Began130.a Began130.n Began130.c : Value) = .slice Began.a Began.n Began.c) ∧
                    (Ld .sl h_431 (p12.add 5) fun (Till177 : Sl) => (.slice Till177.a Till177.n Till177.c : Value) = .slice Till.a Till.n Till.c) ∧
                    App Try.prog 51 51 Round ⟨some b81, 1, 1⟩ h_431 fun s153 h_432 =>
                    (Ld .sl h_432 (p11.add 4) fun (Began131 : Sl) => (.slice Began131.a Began131.n Began131.c : Value) = .slice Began.a Began.n Began.c) ∧
                    (Ld .sl h_432 (p12.add 5) fun (Till178 : Sl) => (.slice Till178.a Till178.n Till178.c : Value) = .slice Till.a Till.n Till.c) ∧
                    App Try.prog 51 51 Began ⟨some b79, 1, 1⟩ h_432 fun s154 h_433 =>
                    (Ld .sl h_433 (p12.add 5) fun (Till179 : Sl) => (.slice Till179.a Till179.n Till179.c : Value) = .slice Till.a Till.n Till.c) ∧
                    App Try.prog 51 51 Till ⟨some b69, 1, 1⟩ h_433 fun s155 h_434 =>
                    Nn (some p) fun p201 =>
                    St h_434 (p201.add 2) (.slice s152.a s152.n s152.c) fun h_435 =>
                    Nn (some p) fun p202 =>
                    St h_435 (p202.add 3) (.slice s153.a s153.n s153.c) fun h_436 =>
                    Nn (some p) fun p203 =>
                    St h_436 (p203.add 4) (.slice s154.a s154.n s154.c) fun h_437 =>
                    Nn (some p) fun p204 =>
                    St h_437 (p204.add 5) (.slice s155.a s155.n s155.c) fun h_438 =>
                    J  h_438
                  )
                )
              )
            )
          )
        )
      ) ∧
      (
        (
          Alloc h_1 (.cells #[.int .i64 0] 3) fun b82 h_439 =>
          (Ld .sl h_439 (p9.add 2) fun (Clock78 : Sl) => (.slice Clock78.a Clock78.n Clock78.c : Value) = .slice Clock.a Clock.n Clock.c) ∧
          (Ld .sl h_439 (p10.add 3) fun (Round94 : Sl) => (.slice Round94.a Round94.n Round94.c : Value) = .slice Round.a Round.n Round.c) ∧
          (Ld .sl h_439 (p11.add 4) fun (Began132 : Sl) => (.slice Began132.a Began132.n Began132.c : Value) = .slice Began.a Began.n Began.c) ∧
          (Ld .sl h_439 (p12.add 5) fun (Till180 : Sl) => (.slice Till180.a Till180.n Till180.c : Value) = .slice Till.a Till.n Till.c) ∧
          (
            Alloc h_439 (.cells #[.int .i64 0] 3) fun b83 h_440 =>
            (Ld .sl h_440 (p9.add 2) fun (Clock79 : Sl) => (.slice Clock79.a Clock79.n Clock79.c : Value) = .slice Clock.a Clock.n Clock.c) ∧
            (Ld .sl h_440 (p10.add 3) fun (Round95 : Sl) => (.slice Round95.a Round95.n Round95.c : Value) = .slice Round.a Round.n Round.c) ∧
            (Ld .sl h_440 (p11.add 4) fun (Began133 : Sl) => (.slice Began133.a Began133.n Began133.c : Value) = .slice Began.a Began.n Began.c) ∧
            (Ld .sl h_440 (p12.add 5) fun (Till181 : Sl) => (.slice Till181.a Till181.n Till181.c : Value) = .slice Till.a Till.n Till.c) ∧
            (
              App Try.prog 51 51 Clock ⟨some b83, 1, 1⟩ h_440 fun s156 h_441 =>
              (Ld .sl h_441 (p10.add 3) fun (Round96 : Sl) => (.slice Round96.a Round96.n Round96.c : Value) = .slice Round.a Round.n Round.c) ∧
              (Ld .sl h_441 (p11.add 4) fun (Began134 : Sl) => (.slice Began134.a Began134.n Began134.c : Value) = .slice Began.a Began.n Began.c) ∧
              (Ld .sl h_441 (p12.add 5) fun (Till182 : Sl) => (.slice Till182.a Till182.n Till182.c : Value) = .slice Till.a Till.n Till.c) ∧
              (
                App Try.prog 51 51 Round ⟨some b82, 1, 1⟩ h_441 fun s157 h_442 =>
                (Ld .sl h_442 (p11.add 4) fun (Began135 : Sl) => (.slice Began135.a Began135.n Began135.c : Value) = .slice Began.a Began.n Began.c) ∧
                (Ld .sl h_442 (p12.add 5) fun (Till183 : Sl) => (.slice Till183.a Till183.n Till183.c : Value) = .slice Till.a Till.n Till.c) ∧
                (
                  Alloc h_442 (.cells #[.int .i64 0] 3) fun b84 h_443 =>
                  (Ld .sl h_443 (p9.add 2) fun (Clock80 : Sl) => (.slice Clock80.a Clock80.n Clock80.c : Value) = .slice Clock.a Clock.n Clock.c) ∧
                  (Ld .sl h_443 (p10.add 3) fun (Round97 : Sl) => (.slice Round97.a Round97.n Round97.c : Value) = .slice Round.a Round.n Round.c) ∧
                  (Ld .sl h_443 (p11.add 4) fun (Began136 : Sl) => (.slice Began136.a Began136.n Began136.c : Value) = .slice Began.a Began.n Began.c) ∧
                  (Ld .sl h_443 (p12.add 5) fun (Till184 : Sl) => (.slice Till184.a Till184.n Till184.c : Value) = .slice Till.a Till.n Till.c) ∧
                  (
                    App Try.prog 51 51 Began ⟨some b84, 1, 1⟩ h_443 fun s158 h_444 =>
                    (Ld .sl h_444 (p12.add 5) fun (Till185 : Sl) => (.slice Till185.a Till185.n Till185.c : Value) = .slice Till.a Till.n Till.c) ∧
                    Alloc h_444 (.cells #[.int .i64 0] 3) fun b85 h_445 =>
                    (Ld .sl h_445 (p9.add 2) fun (Clock81 : Sl) => (.slice Clock81.a Clock81.n Clock81.c : Value) = .slice Clock.a Clock.n Clock.c) ∧
                    (Ld .sl h_445 (p10.add 3) fun (Round98 : Sl) => (.slice Round98.a Round98.n Round98.c : Value) = .slice Round.a Round.n Round.c) ∧
                    (Ld .sl h_445 (p11.add 4) fun (Began137 : Sl) => (.slice Began137.a Began137.n Began137.c : Value) = .slice Began.a Began.n Began.c) ∧
                    (Ld .sl h_445 (p12.add 5) fun (Till186 : Sl) => (.slice Till186.a Till186.n Till186.c : Value) = .slice Till.a Till.n Till.c) ∧
                    App Try.prog 51 51 Till ⟨some b85, 1, 1⟩ h_445 fun s159 h_446 =>
                    Nn (some p) fun p205 =>
                    St h_446 (p205.add 2) (.slice s156.a s156.n s156.c) fun h_447 =>
                    Nn (some p) fun p206 =>
                    St h_447 (p206.add 3) (.slice s157.a s157.n s157.c) fun h_448 =>
                    Nn (some p) fun p207 =>
                    St h_448 (p207.add 4) (.slice s158.a s158.n s158.c) fun h_449 =>
                    Nn (some p) fun p208 =>
                    St h_449 (p208.add 5) (.slice s159.a s159.n s159.c) fun h_450 =>
                    J  h_450
                  ) ∧
                  (
                    Alloc h_443 (.cells #[.int .i64 0] 3) fun b86 h_451 =>
                    (Ld .sl h_451 (p9.add 2) fun (Clock82 : Sl) => (.slice Clock82.a Clock82.n Clock82.c : Value) = .slice Clock.a Clock.n Clock.c) ∧
                    (Ld .sl h_451 (p10.add 3) fun (Round99 : Sl) => (.slice Round99.a Round99.n Round99.c : Value) = .slice Round.a Round.n Round.c) ∧
                    (Ld .sl h_451 (p11.add 4) fun (Began138 : Sl) => (.slice Began138.a Began138.n Began138.c : Value) = .slice Began.a Began.n Began.c) ∧
                    (Ld .sl h_451 (p12.add 5) fun (Till187 : Sl) => (.slice Till187.a Till187.n Till187.c : Value) = .slice Till.a Till.n Till.c) ∧
                    App Try.prog 51 51 Began ⟨some b84, 1, 1⟩ h_451 fun s160 h_452 =>
                    (Ld .sl h_452 (p12.add 5) fun (Till188 : Sl) => (.slice Till188.a Till188.n Till188.c : Value) = .slice Till.a Till.n Till.c) ∧
                    App Try.prog 51 51 Till ⟨some b86, 1, 1⟩ h_452 fun s161 h_453 =>
                    Nn (some p) fun p209 =>
                    St h_453 (p209.add 2) (.slice s156.a s156.n s156.c) fun h_454 =>
                    Nn (some p) fun p210 =>
                    St h_454 (p210.add 3) (.slice s157.a s157.n s157.c) fun h_455 =>
                    Nn (some p) fun p211 =>
                    St h_455 (p211.add 4) (.slice s160.a s160.n s160.c) fun h_456 =>
                    Nn (some p) fun p212 =>
                    St h_456 (p212.add 5) (.slice s161.a s161.n s161.c) fun h_457 =>
                    J  h_457
                  )
                ) ∧
                (
                  Alloc h_442 (.cells #[.int .i64 0] 3) fun b87 h_458 =>
                  (Ld .sl h_458 (p9.add 2) fun (Clock83 : Sl) => (.slice Clock83.a Clock83.n Clock83.c : Value) = .slice Clock.a Clock.n Clock.c) ∧
                  (Ld .sl h_458 (p10.add 3) fun (Round100 : Sl) => (.slice Round100.a Round100.n Round100.c : Value) = .slice Round.a Round.n Round.c) ∧
                  (Ld .sl h_458 (p11.add 4) fun (Began139 : Sl) => (.slice Began139.a Began139.n Began139.c : Value) = .slice Began.a Began.n Began.c) ∧
                  (Ld .sl h_458 (p12.add 5) fun (Till189 : Sl) => (.slice Till189.a Till189.n Till189.c : Value) = .slice Till.a Till.n Till.c) ∧
                  Alloc h_458 (.cells #[.int .i64 0] 3) fun b88 h_459 =>
                  (Ld .sl h_459 (p9.add 2) fun (Clock84 : Sl) => (.slice Clock84.a Clock84.n Clock84.c : Value) = .slice Clock.a Clock.n Clock.c) ∧
                  (Ld .sl h_459 (p10.add 3) fun (Round101 : Sl) => (.slice Round101.a Round101.n Round101.c : Value) = .slice Round.a Round.n Round.c) ∧
                  (Ld .sl h_459 (p11.add 4) fun (Began140 : Sl) => (.slice Began140.a Began140.n Began140.c : Value) = .slice Began.a Began.n Began.c) ∧
                  (Ld .sl h_459 (p12.add 5) fun (Till190 : Sl) => (.slice Till190.a Till190.n Till190.c : Value) = .slice Till.a Till.n Till.c) ∧
                  App Try.prog 51 51 Began ⟨some b88, 1, 1⟩ h_459 fun s162 h_460 =>
                  (Ld .sl h_460 (p12.add 5) fun (Till191 : Sl) => (.slice Till191.a Till191.n Till191.c : Value) = .slice Till.a Till.n Till.c) ∧
                  App Try.prog 51 51 Till ⟨some b87, 1, 1⟩ h_460 fun s163 h_461 =>
                  Nn (some p) fun p213 =>
                  St h_461 (p213.add 2) (.slice s156.a s156.n s156.c) fun h_462 =>
                  Nn (some p) fun p214 =>
                  St h_462 (p214.add 3) (.slice s157.a s157.n s157.c) fun h_463 =>
                  Nn (some p) fun p215 =>
                  St h_463 (p215.add 4) (.slice s162.a s162.n s162.c) fun h_464 =>
                  Nn (some p) fun p216 =>
                  St h_464 (p216.add 5) (.slice s163.a s163.n s163.c) fun h_465 =>
                  J  h_465
                )
              ) ∧
              (
                (
                  Alloc h_441 (.cells #[.int .i64 0] 3) fun b89 h_466 =>
                  (Ld .sl h_466 (p9.add 2) fun (Clock85 : Sl) => (.slice Clock85.a Clock85.n Clock85.c : Value) = .slice Clock.a Clock.n Clock.c) ∧
                  (Ld .sl h_466 (p10.add 3) fun (Round102 : Sl) => (.slice Round102.a Round102.n Round102.c : Value) = .slice Round.a Round.n Round.c) ∧
                  (Ld .sl h_466 (p11.add 4) fun (Began141 : Sl) => (.slice Began141.a Began141.n Began141.c : Value) = .slice Began.a Began.n Began.c) ∧
                  (Ld .sl h_466 (p12.add 5) fun (Till192 : Sl) => (.slice Till192.a Till192.n Till192.c : Value) = .slice Till.a Till.n Till.c) ∧
                  (
                    App Try.prog 51 51 Round ⟨some b82, 1, 1⟩ h_466 fun s164 h_467 =>
                    (Ld .sl h_467 (p11.add 4) fun (Began142 : Sl) => (.slice Began142.a Began142.n Began142.c : Value) = .slice Began.a Began.n Began.c) ∧
                    (Ld .sl h_467 (p12.add 5) fun (Till193 : Sl) => (.slice Till193.a Till193.n Till193.c : Value) = .slice Till.a Till.n Till.c) ∧
                    (
                      App Try.prog 51 51 Began ⟨some b89, 1, 1⟩ h_467 fun s165 h_468 =>
                      (Ld .sl h_468 (p12.add 5) fun (Till194 : Sl) => (.slice Till194.a Till194.n Till194.c : Value) = .slice Till.a Till.n Till.c) ∧
                      Alloc h_468 (.cells #[.int .i64 0] 3) fun b90 h_469 =>
                      (Ld .sl h_469 (p9.add 2) fun (Clock86 : Sl) => (.slice Clock86.a Clock86.n Clock86.c : Value) = .slice Clock.a Clock.n Clock.c) ∧
                      (Ld .sl h_469 (p10.add 3) fun (Round103 : Sl) => (.slice Round103.a Round103.n Round103.c : Value) = .slice Round.a Round.n Round.c) ∧
                      (Ld .sl h_469 (p11.add 4) fun (Began143 : Sl) => (.slice Began143.a Began143.n Began143.c : Value) = .slice Began.a Began.n Began.c) ∧
                      (Ld .sl h_469 (p12.add 5) fun (Till195 : Sl) => (.slice Till195.a Till195.n Till195.c : Value) = .slice Till.a Till.n Till.c) ∧
                      App Try.prog 51 51 Till ⟨some b90, 1, 1⟩ h_469 fun s166 h_470 =>
                      Nn (some p) fun p217 =>
                      St h_470 (p217.add 2) (.slice s156.a s156.n s156.c) fun h_471 =>
                      Nn (some p) fun p218 =>
                      St h_471 (p218.add 3) (.slice s164.a s164.n s164.c) fun h_472 =>
                      Nn (some p) fun p219 =>
                      St h_472 (p219.add 4) (.slice s165.a s165.n s165.c) fun h_473 =>
                      Nn (some p) fun p220 =>
                      St h_473 (p220.add 5) (.slice s166.a s166.n s166.c) fun h_474 =>
                      J  h_474
                    ) ∧
                    (
                      Alloc h_467 (.cells #[.int .i64 0] 3) fun b91 h_475 =>
                      (Ld .sl h_475 (p9.add 2) fun (Clock87 : Sl) => (.slice Clock87.a Clock87.n Clock87.c : Value) = .slice Clock.a Clock.n Clock.c) ∧
                      (Ld .sl h_475 (p10.add 3) fun (Round104 : Sl) => (.slice Round104.a Round104.n Round104.c : Value) = .slice Round.a Round.n Round.c) ∧
                      (Ld .sl h_475 (p11.add 4) fun (Began144 : Sl) => (.slice Began144.a Began144.n Began144.c : Value) = .slice Began.a Began.n Began.c) ∧
                      (Ld .sl h_475 (p12.add 5) fun (Till196 : Sl) => (.slice Till196.a Till196.n Till196.c : Value) = .slice Till.a Till.n Till.c) ∧
                      App Try.prog 51 51 Began ⟨some b89, 1, 1⟩ h_475 fun s167 h_476 =>
                      (Ld .sl h_476 (p12.add 5) fun (Till197 : Sl) => (.slice Till197.a Till197.n Till197.c : Value) = .slice Till.a Till.n Till.c) ∧
                      App Try.prog 51 51 Till ⟨some b91, 1, 1⟩ h_476 fun s168 h_477 =>
                      Nn (some p) fun p221 =>
                      St h_477 (p221.add 2) (.slice s156.a s156.n s156.c) fun h_478 =>
                      Nn (some p) fun p222 =>
                      St h_478 (p222.add 3) (.slice s164.a s164.n s164.c) fun h_479 =>
                      Nn (some p) fun p223 =>
                      St h_479 (p223.add 4) (.slice s167.a s167.n s167.c) fun h_480 =>
                      Nn (some p) fun p224 =>
                      St h_480 (p224.add 5) (.slice s168.a s168.n s168.c) fun h_481 =>
                      J  h_481
                    )
                  ) ∧
                  (
                    Alloc h_466 (.cells #[.int .i64 0] 3) fun b92 h_482 =>
                    (Ld .sl h_482 (p9.add 2) fun (Clock88 : Sl) => (.slice Clock88.a Clock88.n Clock88.c : Value) = .slice Clock.a Clock.n Clock.c) ∧
                    (Ld .sl h_482 (p10.add 3) fun (Round105 : Sl) => (.slice Round105.a Round105.n Round105.c : Value) = .slice Round.a Round.n Round.c) ∧
                    (Ld .sl h_482 (p11.add 4) fun (Began145 : Sl) => (.slice Began145.a Began145.n Began145.c : Value) = .slice Began.a Began.n Began.c) ∧
                    (Ld .sl h_482 (p12.add 5) fun (Till198 : Sl) => (.slice Till198.a Till198.n Till198.c : Value) = .slice Till.a Till.n Till.c) ∧
                    App Try.prog 51 51 Round ⟨some b82, 1, 1⟩ h_482 fun s169 h_483 =>
                    (Ld .sl h_483 (p11.add 4) fun (Began146 : Sl) => (.slice Began146.a Began146.n Began146.c : Value) = .slice Began.a Began.n Began.c) ∧
                    (Ld .sl h_483 (p12.add 5) fun (Till199 : Sl) => (.slice Till199.a Till199.n Till199.c : Value) = .slice Till.a Till.n Till.c) ∧
                    App Try.prog 51 51 Began ⟨some b89, 1, 1⟩ h_483 fun s170 h_484 =>
                    (Ld .sl h_484 (p12.add 5) fun (Till200 : Sl) => (.slice Till200.a Till200.n Till200.c : Value) = .slice Till.a Till.n Till.c) ∧
                    App Try.prog 51 51 Till ⟨some b92, 1, 1⟩ h_484 fun s171 h_485 =>
                    Nn (some p) fun p225 =>
                    St h_485 (p225.add 2) (.slice s156.a s156.n s156.c) fun h_486 =>
                    Nn (some p) fun p226 =>
                    St h_486 (p226.add 3) (.slice s169.a s169.n s169.c) fun h_487 =>
                    Nn (some p) fun p227 =>
                    St h_487 (p227.add 4) (.slice s170.a s170.n s170.c) fun h_488 =>
                    Nn (some p) fun p228 =>
                    St h_488 (p228.add 5) (.slice s171.a s171.n s171.c) fun h_489 =>
                    J  h_489
                  )
                ) ∧
                (
                  Alloc h_441 (.cells #[.int .i64 0] 3) fun b93 h_490 =>
                  (Ld .sl h_490 (p9.add 2) fun (Clock89 : Sl) => (.slice Clock89.a Clock89.n Clock89.c : Value) = .slice Clock.a Clock.n Clock.c) ∧
                  (Ld .sl h_490 (p10.add 3) fun (Round106 : Sl) => (.slice Round106.a Round106.n Round106.c : Value) = .slice Round.a Round.n Round.c) ∧
                  (Ld .sl h_490 (p11.add 4) fun (Began147 : Sl) => (.slice Began147.a Began147.n Began147.c : Value) = .slice Began.a Began.n Began.c) ∧
                  (Ld .sl h_490 (p12.add 5) fun (Till201 : Sl) => (.slice Till201.a Till201.n Till201.c : Value) = .slice Till.a Till.n Till.c) ∧
                  (
                    App Try.prog 51 51 Round ⟨some b82, 1, 1⟩ h_490 fun s172 h_491 =>
                    (Ld .sl h_491 (p11.add 4) fun (Began148 : Sl) => (.slice Began148.a Began148.n Began148.c : Value) = .slice Began.a Began.n Began.c) ∧
                    (Ld .sl h_491 (p12.add 5) fun (Till202 : Sl) => (.slice Till202.a Till202.n Till202.c : Value) = .slice Till.a Till.n Till.c) ∧
                    Alloc h_491 (.cells #[.int .i64 0] 3) fun b94 h_492 =>
                    (Ld .sl h_492 (p9.add 2) fun (Clock90 : Sl) => (.slice Clock90.a Clock90.n Clock90.c : Value) = .slice Clock.a Clock.n Clock.c) ∧
                    (Ld .sl h_492 (p10.add 3) fun (Round107 : Sl) => (.slice Round107.a Round107.n Round107.c : Value) = .slice Round.a Round.n Round.c) ∧
                    (Ld .sl h_492 (p11.add 4) fun (Began149 : Sl) => (.slice Began149.a Began149.n Began149.c : Value) = .slice Began.a Began.n Began.c) ∧
                    (Ld .sl h_492 (p12.add 5) fun (Till203 : Sl) => (.slice Till203.a Till203.n Till203.c : Value) = .slice Till.a Till.n Till.c) ∧
                    App Try.prog 51 51 Began ⟨some b94, 1, 1⟩ h_492 fun s173 h_493 =>
                    (Ld .sl h_493 (p12.add 5) fun (Till204 : Sl) => (.slice Till204.a Till204.n Till204.c : Value) = .slice Till.a Till.n Till.c) ∧
                    App Try.prog 51 51 Till ⟨some b93, 1, 1⟩ h_493 fun s174 h_494 =>
                    Nn (some p) fun p229 =>
                    St h_494 (p229.add 2) (.slice s156.a s156.n s156.c) fun h_495 =>
                    Nn (some p) fun p230 =>
                    St h_495 (p230.add 3) (.slice s172.a s172.n s172.c) fun h_496 =>
                    Nn (some p) fun p231 =>
                    St h_496 (p231.add 4) (.slice s173.a s173.n s173.c) fun h_497 =>
                    Nn (some p) fun p232 =>
                    St h_497 (p232.add 5) (.slice s174.a s174.n s174.c) fun h_498 =>
                    J  h_498
                  ) ∧
                  (
                    Alloc h_490 (.cells #[.int .i64 0] 3) fun b95 h_499 =>
                    (Ld .sl h_499 (p9.add 2) fun (Clock91 : Sl) => (.slice Clock91.a Clock91.n Clock91.c : Value) = .slice Clock.a Clock.n Clock.c) ∧
                    (Ld .sl h_499 (p10.add 3) fun (Round108 : Sl) => (.slice Round108.a Round108.n Round108.c : Value) = .slice Round.a Round.n Round.c) ∧
                    (Ld .sl h_499 (p11.add 4) fun (Began150 : Sl) => (.slice Began150.a Began150.n Began150.c : Value) = .slice Began.a Began.n Began.c) ∧
                    (Ld .sl h_499 (p12.add 5) fun (Till205 : Sl) => (.slice Till205.a Till205.n Till205.c : Value) = .slice Till.a Till.n Till.c) ∧
                    App Try.prog 51 51 Round ⟨some b82, 1, 1⟩ h_499 fun s175 h_500 =>
                    (Ld .sl h_500 (p11.add 4) fun (Began151 : Sl) => (.slice Began151.a Began151.n Began151.c : Value) = .slice Began.a Began.n Began.c) ∧
                    (Ld .sl h_500 (p12.add 5) fun (Till206 : Sl) => (.slice Till206.a Till206.n Till206.c : Value) = .slice Till.a Till.n Till.c) ∧
                    App Try.prog 51 51 Began ⟨some b95, 1, 1⟩ h_500 fun s176 h_501 =>
                    (Ld .sl h_501 (p12.add 5) fun (Till207 : Sl) => (.slice Till207.a Till207.n Till207.c : Value) = .slice Till.a Till.n Till.c) ∧
                    App Try.prog 51 51 Till ⟨some b93, 1, 1⟩ h_501 fun s177 h_502 =>
                    Nn (some p) fun p233 =>
                    St h_502 (p233.add 2) (.slice s156.a s156.n s156.c) fun h_503 =>
                    Nn (some p) fun p234 =>
                    St h_503 (p234.add 3) (.slice s175.a s175.n s175.c) fun h_504 =>
                    Nn (some p) fun p235 =>
                    St h_504 (p235.add 4) (.slice s176.a s176.n s176.c) fun h_505 =>
                    Nn (some p) fun p236 =>
                    St h_505 (p236.add 5) (.slice s177.a s177.n s177.c) fun h_506 =>
                    J  h_506
                  )
                )
              )
            ) ∧
            (
              (
                Alloc h_440 (.cells #[.int .i64 0] 3) fun b96 h_507 =>
                (Ld .sl h_507 (p9.add 2) fun (Clock92 : Sl) => (.slice Clock92.a Clock92.n Clock92.c : Value) = .slice Clock.a Clock.n Clock.c) ∧
                (Ld .sl h_507 (p10.add 3) fun (Round109 : Sl) => (.slice Round109.a Round109.n Round109.c : Value) = .slice Round.a Round.n Round.c) ∧
                (Ld .sl h_507 (p11.add 4) fun (Began152 : Sl) => (.slice Began152.a Began152.n Began152.c : Value) = .slice Began.a Began.n Began.c) ∧
                (Ld .sl h_507 (p12.add 5) fun (Till208 : Sl) => (.slice Till208.a Till208.n Till208.c : Value) = .slice Till.a Till.n Till.c) ∧
                (
                  App Try.prog 51 51 Clock ⟨some b83, 1, 1⟩ h_507 fun s178 h_508 =>
                  (Ld .sl h_508 (p10.add 3) fun (Round110 : Sl) => (.slice Round110.a Round110.n Round110.c : Value) = .slice Round.a Round.n Round.c) ∧
                  (Ld .sl h_508 (p11.add 4) fun (Began153 : Sl) => (.slice Began153.a Began153.n Began153.c : Value) = .slice Began.a Began.n Began.c) ∧
                  (Ld .sl h_508 (p12.add 5) fun (Till209 : Sl) => (.slice Till209.a Till209.n Till209.c : Value) = .slice Till.a Till.n Till.c) ∧
                  (
                    App Try.prog 51 51 Round ⟨some b82, 1, 1⟩ h_508 fun s179 h_509 =>
                    (Ld .sl h_509 (p11.add 4) fun (Began154 : Sl) => (.slice Began154.a Began154.n Began154.c : Value) = .slice Began.a Began.n Began.c) ∧
                    (Ld .sl h_509 (p12.add 5) fun (Till210 : Sl) => (.slice Till210.a Till210.n Till210.c : Value) = .slice Till.a Till.n Till.c) ∧
                    (
                      App Try.prog 51 51 Began ⟨some b96, 1, 1⟩ h_509 fun s180 h_510 =>
                      (Ld .sl h_510 (p12.add 5) fun (Till211 : Sl) => (.slice Till211.a Till211.n Till211.c : Value) = .slice Till.a Till.n Till.c) ∧
                      Alloc h_510 (.cells #[.int .i64 0] 3) fun b97 h_511 =>
                      (Ld .sl h_511 (p9.add 2) fun (Clock93 : Sl) => (.slice Clock93.a Clock93.n Clock93.c : Value) = .slice Clock.a Clock.n Clock.c) ∧
                      (Ld .sl h_511 (p10.add 3) fun (Round111 : Sl) => (.slice Round111.a Round111.n Round111.c : Value) = .slice Round.a Round.n Round.c) ∧
                      (Ld .sl h_511 (p11.add 4) fun (Began155 : Sl) => (.slice Began155.a Began155.n Began155.c : Value) = .slice Began.a Began.n Began.c) ∧
                      (Ld .sl h_511 (p12.add 5) fun (Till212 : Sl) => (.slice Till212.a Till212.n Till212.c : Value) = .slice Till.a Till.n Till.c) ∧
                      App Try.prog 51 51 Till ⟨some b97, 1, 1⟩ h_511 fun s181 h_512 =>
                      Nn (some p) fun p237 =>
                      St h_512 (p237.add 2) (.slice s178.a s178.n s178.c) fun h_513 =>
                      Nn (some p) fun p238 =>
                      St h_513 (p238.add 3) (.slice s179.a s179.n s179.c) fun h_514 =>
                      Nn (some p) fun p239 =>
                      St h_514 (p239.add 4) (.slice s180.a s180.n s180.c) fun h_515 =>
                      Nn (some p) fun p240 =>
                      St h_515 (p240.add 5) (.slice s181.a s181.n s181.c) fun h_516 =>
                      J  h_516
                    ) ∧
                    (
                      Alloc h_509 (.cells #[.int .i64 0] 3) fun b98 h_517 =>
                      (Ld .sl h_517 (p9.add 2) fun (Clock94 : Sl) => (.slice Clock94.a Clock94.n Clock94.c : Value) = .slice Clock.a Clock.n Clock.c) ∧
                      (Ld .sl h_517 (p10.add 3) fun (Round112 : Sl) => (.slice Round112.a Round112.n Round112.c : Value) = .slice Round.a Round.n Round.c) ∧
                      (Ld .sl h_517 (p11.add 4) fun (Began156 : Sl) => (.slice Began156.a Began156.n Began156.c : Value) = .slice Began.a Began.n Began.c) ∧
                      (Ld .sl h_517 (p12.add 5) fun (Till213 : Sl) => (.slice Till213.a Till213.n Till213.c : Value) = .slice Till.a Till.n Till.c) ∧
                      App Try.prog 51 51 Began ⟨some b96, 1, 1⟩ h_517 fun s182 h_518 =>
                      (Ld .sl h_518 (p12.add 5) fun (Till214 : Sl) => (.slice Till214.a Till214.n Till214.c : Value) = .slice Till.a Till.n Till.c) ∧
                      App Try.prog 51 51 Till ⟨some b98, 1, 1⟩ h_518 fun s183 h_519 =>
                      Nn (some p) fun p241 =>
                      St h_519 (p241.add 2) (.slice s178.a s178.n s178.c) fun h_520 =>
                      Nn (some p) fun p242 =>
                      St h_520 (p242.add 3) (.slice s179.a s179.n s179.c) fun h_521 =>
                      Nn (some p) fun p243 =>
                      St h_521 (p243.add 4) (.slice s182.a s182.n s182.c) fun h_522 =>
                      Nn (some p) fun p244 =>
                      St h_522 (p244.add 5) (.slice s183.a s183.n s183.c) fun h_523 =>
                      J  h_523
                    )
                  ) ∧
                  (
                    Alloc h_508 (.cells #[.int .i64 0] 3) fun b99 h_524 =>
                    (Ld .sl h_524 (p9.add 2) fun (Clock95 : Sl) => (.slice Clock95.a Clock95.n Clock95.c : Value) = .slice Clock.a Clock.n Clock.c) ∧
                    (Ld .sl h_524 (p10.add 3) fun (Round113 : Sl) => (.slice Round113.a Round113.n Round113.c : Value) = .slice Round.a Round.n Round.c) ∧
                    (Ld .sl h_524 (p11.add 4) fun (Began157 : Sl) => (.slice Began157.a Began157.n Began157.c : Value) = .slice Began.a Began.n Began.c) ∧
                    (Ld .sl h_524 (p12.add 5) fun (Till215 : Sl) => (.slice Till215.a Till215.n Till215.c : Value) = .slice Till.a Till.n Till.c) ∧
                    App Try.prog 51 51 Round ⟨some b82, 1, 1⟩ h_524 fun s184 h_525 =>
                    (Ld .sl h_525 (p11.add 4) fun (Began158 : Sl) => (.slice Began158.a Began158.n Began158.c : Value) = .slice Began.a Began.n Began.c) ∧
                    (Ld .sl h_525 (p12.add 5) fun (Till216 : Sl) => (.slice Till216.a Till216.n Till216.c : Value) = .slice Till.a Till.n Till.c) ∧
                    App Try.prog 51 51 Began ⟨some b96, 1, 1⟩ h_525 fun s185 h_526 =>
                    (Ld .sl h_526 (p12.add 5) fun (Till217 : Sl) => (.slice Till217.a Till217.n Till217.c : Value) = .slice Till.a Till.n Till.c) ∧
                    App Try.prog 51 51 Till ⟨some b99, 1, 1⟩ h_526 fun s186 h_527 =>
                    Nn (some p) fun p245 =>
                    St h_527 (p245.add 2) (.slice s178.a s178.n s178.c) fun h_528 =>
                    Nn (some p) fun p246 =>
                    St h_528 (p246.add 3) (.slice s184.a s184.n s184.c) fun h_529 =>
                    Nn (some p) fun p247 =>
                    St h_529 (p247.add 4) (.slice s185.a s185.n s185.c) fun h_530 =>
                    Nn (some p) fun p248 =>
                    St h_530 (p248.add 5) (.slice s186.a s186.n s186.c) fun h_531 =>
                    J  h_531
                  )
                ) ∧
                (
                  Alloc h_507 (.cells #[.int .i64 0] 3) fun b100 h_532 =>
                  (Ld .sl h_532 (p9.add 2) fun (Clock96 : Sl) => (.slice Clock96.a Clock96.n Clock96.c : Value) = .slice Clock.a Clock.n Clock.c) ∧
                  (Ld .sl h_532 (p10.add 3) fun (Round114 : Sl) => (.slice Round114.a Round114.n Round114.c : Value) = .slice Round.a Round.n Round.c) ∧
                  (Ld .sl h_532 (p11.add 4) fun (Began159 : Sl) => (.slice Began159.a Began159.n Began159.c : Value) = .slice Began.a Began.n Began.c) ∧
                  (Ld .sl h_532 (p12.add 5) fun (Till218 : Sl) => (.slice Till218.a Till218.n Till218.c : Value) = .slice Till.a Till.n Till.c) ∧
                  App Try.prog 51 51 Clock ⟨some b83, 1, 1⟩ h_532 fun s187 h_533 =>
                  (Ld .sl h_533 (p10.add 3) fun (Round115 : Sl) => (.slice Round115.a Round115.n Round115.c : Value) = .slice Round.a Round.n Round.c) ∧
                  (Ld .sl h_533 (p11.add 4) fun (Began160 : Sl) => (.slice Began160.a Began160.n Began160.c : Value) = .slice Began.a Began.n Began.c) ∧
                  (Ld .sl h_533 (p12.add 5) fun (Till219 : Sl) => (.slice Till219.a Till219.n Till219.c : Value) = .slice Till.a Till.n Till.c) ∧
                  App Try.prog 51 51 Round ⟨some b82, 1, 1⟩ h_533 fun s188 h_534 =>
                  (Ld .sl h_534 (p11.add 4) fun (Began161 : Sl) => (.slice Began161.a Began161.n Began161.c : Value) = .slice Began.a Began.n Began.c) ∧
                  (Ld .sl h_534 (p12.add 5) fun (Till220 : Sl) => (.slice Till220.a Till220.n Till220.c : Value) = .slice Till.a Till.n Till.c) ∧
                  App Try.prog 51 51 Began ⟨some b96, 1, 1⟩ h_534 fun s189 h_535 =>
                  (Ld .sl h_535 (p12.add 5) fun (Till221 : Sl) => (.slice Till221.a Till221.n Till221.c : Value) = .slice Till.a Till.n Till.c) ∧
                  App Try.prog 51 51 Till ⟨some b100, 1, 1⟩ h_535 fun s190 h_536 =>
                  Nn (some p) fun p249 =>
                  St h_536 (p249.add 2) (.slice s187.a s187.n s187.c) fun h_537 =>
                  Nn (some p) fun p250 =>
                  St h_537 (p250.add 3) (.slice s188.a s188.n s188.c) fun h_538 =>
                  Nn (some p) fun p251 =>
                  St h_538 (p251.add 4) (.slice s189.a s189.n s189.c) fun h_539 =>
                  Nn (some p) fun p252 =>
                  St h_539 (p252.add 5) (.slice s190.a s190.n s190.c) fun h_540 =>
                  J  h_540
                )
              ) ∧
              (
                Alloc h_440 (.cells #[.int .i64 0] 3) fun b101 h_541 =>
                (Ld .sl h_541 (p9.add 2) fun (Clock97 : Sl) => (.slice Clock97.a Clock97.n Clock97.c : Value) = .slice Clock.a Clock.n Clock.c) ∧
                (Ld .sl h_541 (p10.add 3) fun (Round116 : Sl) => (.slice Round116.a Round116.n Round116.c : Value) = .slice Round.a Round.n Round.c) ∧
                (Ld .sl h_541 (p11.add 4) fun (Began162 : Sl) => (.slice Began162.a Began162.n Began162.c : Value) = .slice Began.a Began.n Began.c) ∧
                (Ld .sl h_541 (p12.add 5) fun (Till222 : Sl) => (.slice Till222.a Till222.n Till222.c : Value) = .slice Till.a Till.n Till.c) ∧
                (
                  App Try.prog 51 51 Clock ⟨some b83, 1, 1⟩ h_541 fun s191 h_542 =>
                  (Ld .sl h_542 (p10.add 3) fun (Round117 : Sl) => (.slice Round117.a Round117.n Round117.c : Value) = .slice Round.a Round.n Round.c) ∧
                  (Ld .sl h_542 (p11.add 4) fun (Began163 : Sl) => (.slice Began163.a Began163.n Began163.c : Value) = .slice Began.a Began.n Began.c) ∧
                  (Ld .sl h_542 (p12.add 5) fun (Till223 : Sl) => (.slice Till223.a Till223.n Till223.c : Value) = .slice Till.a Till.n Till.c) ∧
                  (
                    App Try.prog 51 51 Round ⟨some b82, 1, 1⟩ h_542 fun s192 h_543 =>
                    (Ld .sl h_543 (p11.add 4) fun (Began164 : Sl) => (.slice Began164.a Began164.n Began164.c : Value) = .slice Began.a Began.n Began.c) ∧
                    (Ld .sl h_543 (p12.add 5) fun (Till224 : Sl) => (.slice Till224.a Till224.n Till224.c : Value) = .slice Till.a Till.n Till.c) ∧
                    Alloc h_543 (.cells #[.int .i64 0] 3) fun b102 h_544 =>
                    (Ld .sl h_544 (p9.add 2) fun (Clock98 : Sl) => (.slice Clock98.a Clock98.n Clock98.c : Value) = .slice Clock.a Clock.n Clock.c) ∧
                    (Ld .sl h_544 (p10.add 3) fun (Round118 : Sl) => (.slice Round118.a Round118.n Round118.c : Value) = .slice Round.a Round.n Round.c) ∧
                    (Ld .sl h_544 (p11.add 4) fun (Began165 : Sl) => (.slice Began165.a Began165.n Began165.c : Value) = .slice Began.a Began.n Began.c) ∧
                    (Ld .sl h_544 (p12.add 5) fun (Till225 : Sl) => (.slice Till225.a Till225.n Till225.c : Value) = .slice Till.a Till.n Till.c) ∧
                    App Try.prog 51 51 Began ⟨some b102, 1, 1⟩ h_544 fun s193 h_545 =>
                    (Ld .sl h_545 (p12.add 5) fun (Till226 : Sl) => (.slice Till226.a Till226.n Till226.c : Value) = .slice Till.a Till.n Till.c) ∧
                    App Try.prog 51 51 Till ⟨some b101, 1, 1⟩ h_545 fun s194 h_546 =>
                    Nn (some p) fun p253 =>
                    St h_546 (p253.add 2) (.slice s191.a s191.n s191.c) fun h_547 =>
                    Nn (some p) fun p254 =>
                    St h_547 (p254.add 3) (.slice s192.a s192.n s192.c) fun h_548 =>
                    Nn (some p) fun p255 =>
                    St h_548 (p255.add 4) (.slice s193.a s193.n s193.c) fun h_549 =>
                    Nn (some p) fun p256 =>
                    St h_549 (p256.add 5) (.slice s194.a s194.n s194.c) fun h_550 =>
                    J  h_550
                  ) ∧
                  (
                    Alloc h_542 (.cells #[.int .i64 0] 3) fun b103 h_551 =>
                    (Ld .sl h_551 (p9.add 2) fun (Clock99 : Sl) => (.slice Clock99.a Clock99.n Clock99.c : Value) = .slice Clock.a Clock.n Clock.c) ∧
                    (Ld .sl h_551 (p10.add 3) fun (Round119 : Sl) => (.slice Round119.a Round119.n Round119.c : Value) = .slice Round.a Round.n Round.c) ∧
                    (Ld .sl h_551 (p11.add 4) fun (Began166 : Sl) => (.slice Began166.a Began166.n Began166.c : Value) = .slice Began.a Began.n Began.c) ∧
                    (Ld .sl h_551 (p12.add 5) fun (Till227 : Sl) => (.slice Till227.a Till227.n Till227.c : Value) = .slice Till.a Till.n Till.c) ∧
                    App Try.prog 51 51 Round ⟨some b82, 1, 1⟩ h_551 fun s195 h_552 =>
                    (Ld .sl h_552 (p11.add 4) fun (Began167 : Sl) => (.slice Began167.a Began167.n Began167.c : Value) = .slice Began.a Began.n Began.c) ∧
                    (Ld .sl h_552 (p12.add 5) fun (Till228 : Sl) => (.slice Till228.a Till228.n Till228.c : Value) = .slice Till.a Till.n Till.c) ∧
                    App Try.prog 51 51 Began ⟨some b103, 1, 1⟩ h_552 fun s196 h_553 =>
                    (Ld .sl h_553 (p12.add 5) fun (Till229 : Sl) => (.slice Till229.a Till229.n Till229.c : Value) = .slice Till.a Till.n Till.c) ∧
                    App Try.prog 51 51 Till ⟨some b101, 1, 1⟩ h_553 fun s197 h_554 =>
                    Nn (some p) fun p257 =>
                    St h_554 (p257.add 2) (.slice s191.a s191.n s191.c) fun h_555 =>
                    Nn (some p) fun p258 =>
                    St h_555 (p258.add 3) (.slice s195.a s195.n s195.c) fun h_556 =>
                    Nn (some p) fun p259 =>
                    St h_556 (p259.add 4) (.slice s196.a s196.n s196.c) fun h_557 =>
                    Nn (some p) fun p260 =>
                    St h_557 (p260.add 5) (.slice s197.a s197.n s197.c) fun h_558 =>
                    J  h_558
                  )
                ) ∧
                (
                  Alloc h_541 (.cells #[.int .i64 0] 3) fun b104 h_559 =>
                  (Ld .sl h_559 (p9.add 2) fun (Clock100 : Sl) => (.slice Clock100.a Clock100.n Clock100.c : Value) = .slice Clock.a Clock.n Clock.c) ∧
                  (Ld .sl h_559 (p10.add 3) fun (Round120 : Sl) => (.slice Round120.a Round120.n Round120.c : Value) = .slice Round.a Round.n Round.c) ∧
                  (Ld .sl h_559 (p11.add 4) fun (Began168 : Sl) => (.slice Began168.a Began168.n Began168.c : Value) = .slice Began.a Began.n Began.c) ∧
                  (Ld .sl h_559 (p12.add 5) fun (Till230 : Sl) => (.slice Till230.a Till230.n Till230.c : Value) = .slice Till.a Till.n Till.c) ∧
                  App Try.prog 51 51 Clock ⟨some b83, 1, 1⟩ h_559 fun s198 h_560 =>
                  (Ld .sl h_560 (p10.add 3) fun (Round121 : Sl) => (.slice Round121.a Round121.n Round121.c : Value) = .slice Round.a Round.n Round.c) ∧
                  (Ld .sl h_560 (p11.add 4) fun (Began169 : Sl) => (.slice Began169.a Began169.n Began169.c : Value) = .slice Began.a Began.n Began.c) ∧
                  (Ld .sl h_560 (p12.add 5) fun (Till231 : Sl) => (.slice Till231.a Till231.n Till231.c : Value) = .slice Till.a Till.n Till.c) ∧
                  App Try.prog 51 51 Round ⟨some b82, 1, 1⟩ h_560 fun s199 h_561 =>
                  (Ld .sl h_561 (p11.add 4) fun (Began170 : Sl) => (.slice Began170.a Began170.n Began170.c : Value) = .slice Began.a Began.n Began.c) ∧
                  (Ld .sl h_561 (p12.add 5) fun (Till232 : Sl) => (.slice Till232.a Till232.n Till232.c : Value) = .slice Till.a Till.n Till.c) ∧
                  App Try.prog 51 51 Began ⟨some b104, 1, 1⟩ h_561 fun s200 h_562 =>
                  (Ld .sl h_562 (p12.add 5) fun (Till233 : Sl) => (.slice Till233.a Till233.n Till233.c : Value) = .slice Till.a Till.n Till.c) ∧
                  App Try.prog 51 51 Till ⟨some b101, 1, 1⟩ h_562 fun s201 h_563 =>
                  Nn (some p) fun p261 =>
                  St h_563 (p261.add 2) (.slice s198.a s198.n s198.c) fun h_564 =>
                  Nn (some p) fun p262 =>
                  St h_564 (p262.add 3) (.slice s199.a s199.n s199.c) fun h_565 =>
                  Nn (some p) fun p263 =>
                  St h_565 (p263.add 4) (.slice s200.a s200.n s200.c) fun h_566 =>
                  Nn (some p) fun p264 =>
                  St h_566 (p264.add 5) (.slice s201.a s201.n s201.c) fun h_567 =>
                  J  h_567
                )
              )
            )
          ) ∧
          (
            (
              Alloc h_439 (.cells #[.int .i64 0] 3) fun b105 h_568 =>
              (Ld .sl h_568 (p9.add 2) fun (Clock101 : Sl) => (.slice Clock101.a Clock101.n Clock101.c : Value) = .slice Clock.a Clock.n Clock.c) ∧
              (Ld .sl h_568 (p10.add 3) fun (Round122 : Sl) => (.slice Round122.a Round122.n Round122.c : Value) = .slice Round.a Round.n Round.c) ∧
              (Ld .sl h_568 (p11.add 4) fun (Began171 : Sl) => (.slice Began171.a Began171.n Began171.c : Value) = .slice Began.a Began.n Began.c) ∧
              (Ld .sl h_568 (p12.add 5) fun (Till234 : Sl) => (.slice Till234.a Till234.n Till234.c : Value) = .slice Till.a Till.n Till.c) ∧
              (
                Alloc h_568 (.cells #[.int .i64 0] 3) fun b106 h_569 =>
                (Ld .sl h_569 (p9.add 2) fun (Clock102 : Sl) => (.slice Clock102.a Clock102.n Clock102.c : Value) = .slice Clock.a Clock.n Clock.c) ∧
                (Ld .sl h_569 (p10.add 3) fun (Round123 : Sl) => (.slice Round123.a Round123.n Round123.c : Value) = .slice Round.a Round.n Round.c) ∧
                (Ld .sl h_569 (p11.add 4) fun (Began172 : Sl) => (.slice Began172.a Began172.n Began172.c : Value) = .slice Began.a Began.n Began.c) ∧
                (Ld .sl h_569 (p12.add 5) fun (Till235 : Sl) => (.slice Till235.a Till235.n Till235.c : Value) = .slice Till.a Till.n Till.c) ∧
                (
                  App Try.prog 51 51 Clock ⟨some b106, 1, 1⟩ h_569 fun s202 h_570 =>
                  (Ld .sl h_570 (p10.add 3) fun (Round124 : Sl) => (.slice Round124.a Round124.n Round124.c : Value) = .slice Round.a Round.n Round.c) ∧
                  (Ld .sl h_570 (p11.add 4) fun (Began173 : Sl) => (.slice Began173.a Began173.n Began173.c : Value) = .slice Began.a Began.n Began.c) ∧
                  (Ld .sl h_570 (p12.add 5) fun (Till236 : Sl) => (.slice Till236.a Till236.n Till236.c : Value) = .slice Till.a Till.n Till.c) ∧
                  (
                    App Try.prog 51 51 Round ⟨some b82, 1, 1⟩ h_570 fun s203 h_571 =>
                    (Ld .sl h_571 (p11.add 4) fun (Began174 : Sl) => (.slice Began174.a Began174.n Began174.c : Value) = .slice Began.a Began.n Began.c) ∧
                    (Ld .sl h_571 (p12.add 5) fun (Till237 : Sl) => (.slice Till237.a Till237.n Till237.c : Value) = .slice Till.a Till.n Till.c) ∧
                    (
                      App Try.prog 51 51 Began ⟨some b105, 1, 1⟩ h_571 fun s204 h_572 =>
                      (Ld .sl h_572 (p12.add 5) fun (Till238 : Sl) => (.slice Till238.a Till238.n Till238.c : Value) = .slice Till.a Till.n Till.c) ∧
                      Alloc h_572 (.cells #[.int .i64 0] 3) fun b107 h_573 =>
                      (Ld .sl h_573 (p9.add 2) fun (Clock103 : Sl) => (.slice Clock103.a Clock103.n Clock103.c : Value) = .slice Clock.a Clock.n Clock.c) ∧
                      (Ld .sl h_573 (p10.add 3) fun (Round125 : Sl) => (.slice Round125.a Round125.n Round125.c : Value) = .slice Round.a Round.n Round.c) ∧
                      (Ld .sl h_573 (p11.add 4) fun (Began175 : Sl) => (.slice Began175.a Began175.n Began175.c : Value) = .slice Began.a Began.n Began.c) ∧
                      (Ld .sl h_573 (p12.add 5) fun (Till239 : Sl) => (.slice Till239.a Till239.n Till239.c : Value) = .slice Till.a Till.n Till.c) ∧
                      App Try.prog 51 51 Till ⟨some b107, 1, 1⟩ h_573 fun s205 h_574 =>
                      Nn (some p) fun p265 =>
                      St h_574 (p265.add 2) (.slice s202.a s202.n s202.c) fun h_575 =>
                      Nn (some p) fun p266 =>
                      St h_575 (p266.add 3) (.slice s203.a s203.n s203.c) fun h_576 =>
                      Nn (some p) fun p267 =>
                      St h_576 (p267.add 4) (.slice s204.a s204.n s204.c) fun h_577 =>
                      Nn (some p) fun p268 =>
                      St h_577 (p268.add 5) (.slice s205.a s205.n s205.c) fun h_578 =>
                      J  h_578
                    ) ∧
                    (
                      Alloc h_571 (.cells #[.int .i64 0] 3) fun b108 h_579 =>
                      (Ld .sl h_579 (p9.add 2) fun (Clock104 : Sl) => (.slice Clock104.a Clock104.n Clock104.c : Value) = .slice Clock.a Clock.n Clock.c) ∧
                      (Ld .sl h_579 (p10.add 3) fun (Round126 : Sl) => (.slice Round126.a Round126.n Round126.c : Value) = .slice Round.a Round.n Round.c) ∧
                      (Ld .sl h_579 (p11.add 4) fun (Began176 : Sl) => (.slice Began176.a Began176.n Began176.c : Value) = .slice Began.a Began.n Began.c) ∧
                      (Ld .sl h_579 (p12.add 5) fun (Till240 : Sl) => (.slice Till240.a Till240.n Till240.c : Value) = .slice Till.a Till.n Till.c) ∧
                      App Try.prog 51 51 Began ⟨some b105, 1, 1⟩ h_579 fun s206 h_580 =>
                      (Ld .sl h_580 (p12.add 5) fun (Till241 : Sl) => (.slice Till241.a Till241.n Till241.c : Value) = .slice Till.a Till.n Till.c) ∧
                      App Try.prog 51 51 Till ⟨some b108, 1, 1⟩ h_580 fun s207 h_581 =>
                      Nn (some p) fun p269 =>
                      St h_581 (p269.add 2) (.slice s202.a s202.n s202.c) fun h_582 =>
                      Nn (some p) fun p270 =>
                      St h_582 (p270.add 3) (.slice s203.a s203.n s203.c) fun h_583 =>
                      Nn (some p) fun p271 =>
                      St h_583 (p271.add 4) (.slice s206.a s206.n s206.c) fun h_584 =>
                      Nn (some p) fun p272 =>
                      St h_584 (p272.add 5) (.slice s207.a s207.n s207.c) fun h_585 =>
                      J  h_585
                    )
                  ) ∧
                  (
                    Alloc h_570 (.cells #[.int .i64 0] 3) fun b109 h_586 =>
                    (Ld .sl h_586 (p9.add 2) fun (Clock105 : Sl) => (.slice Clock105.a Clock105.n Clock105.c : Value) = .slice Clock.a Clock.n Clock.c) ∧
                    (Ld .sl h_586 (p10.add 3) fun (Round127 : Sl) => (.slice Round127.a Round127.n Round127.c : Value) = .slice Round.a Round.n Round.c) ∧
                    (Ld .sl h_586 (p11.add 4) fun (Began177 : Sl) => (.slice Began177.a Began177.n Began177.c : Value) = .slice Began.a Began.n Began.c) ∧
                    (Ld .sl h_586 (p12.add 5) fun (Till242 : Sl) => (.slice Till242.a Till242.n Till242.c : Value) = .slice Till.a Till.n Till.c) ∧
                    App Try.prog 51 51 Round ⟨some b82, 1, 1⟩ h_586 fun s208 h_587 =>
                    (Ld .sl h_587 (p11.add 4) fun (Began178 : Sl) => (.slice Began178.a Began178.n Began178.c : Value) = .slice Began.a Began.n Began.c) ∧
                    (Ld .sl h_587 (p12.add 5) fun (Till243 : Sl) => (.slice Till243.a Till243.n Till243.c : Value) = .slice Till.a Till.n Till.c) ∧
                    App Try.prog 51 51 Began ⟨some b105, 1, 1⟩ h_587 fun s209 h_588 =>
                    (Ld .sl h_588 (p12.add 5) fun (Till244 : Sl) => (.slice Till244.a Till244.n Till244.c : Value) = .slice Till.a Till.n Till.c) ∧
                    App Try.prog 51 51 Till ⟨some b109, 1, 1⟩ h_588 fun s210 h_589 =>
                    Nn (some p) fun p273 =>
                    St h_589 (p273.add 2) (.slice s202.a s202.n s202.c) fun h_590 =>
                    Nn (some p) fun p274 =>
                    St h_590 (p274.add 3) (.slice s208.a s208.n s208.c) fun h_591 =>
                    Nn (some p) fun p275 =>
                    St h_591 (p275.add 4) (.slice s209.a s209.n s209.c) fun h_592 =>
                    Nn (some p) fun p276 =>
                    St h_592 (p276.add 5) (.slice s210.a s210.n s210.c) fun h_593 =>
                    J  h_593
                  )
                ) ∧
                (
                  Alloc h_569 (.cells #[.int .i64 0] 3) fun b110 h_594 =>
                  (Ld .sl h_594 (p9.add 2) fun (Clock106 : Sl) => (.slice Clock106.a Clock106.n Clock106.c : Value) = .slice Clock.a Clock.n Clock.c) ∧
                  (Ld .sl h_594 (p10.add 3) fun (Round128 : Sl) => (.slice Round128.a Round128.n Round128.c : Value) = .slice Round.a Round.n Round.c) ∧
                  (Ld .sl h_594 (p11.add 4) fun (Began179 : Sl) => (.slice Began179.a Began179.n Began179.c : Value) = .slice Began.a Began.n Began.c) ∧
                  (Ld .sl h_594 (p12.add 5) fun (Till245 : Sl) => (.slice Till245.a Till245.n Till245.c : Value) = .slice Till.a Till.n Till.c) ∧
                  App Try.prog 51 51 Clock ⟨some b106, 1, 1⟩ h_594 fun s211 h_595 =>
                  (Ld .sl h_595 (p10.add 3) fun (Round129 : Sl) => (.slice Round129.a Round129.n Round129.c : Value) = .slice Round.a Round.n Round.c) ∧
                  (Ld .sl h_595 (p11.add 4) fun (Began180 : Sl) => (.slice Began180.a Began180.n Began180.c : Value) = .slice Began.a Began.n Began.c) ∧
                  (Ld .sl h_595 (p12.add 5) fun (Till246 : Sl) => (.slice Till246.a Till246.n Till246.c : Value) = .slice Till.a Till.n Till.c) ∧
                  App Try.prog 51 51 Round ⟨some b82, 1, 1⟩ h_595 fun s212 h_596 =>
                  (Ld .sl h_596 (p11.add 4) fun (Began181 : Sl) => (.slice Began181.a Began181.n Began181.c : Value) = .slice Began.a Began.n Began.c) ∧
                  (Ld .sl h_596 (p12.add 5) fun (Till247 : Sl) => (.slice Till247.a Till247.n Till247.c : Value) = .slice Till.a Till.n Till.c) ∧
                  App Try.prog 51 51 Began ⟨some b105, 1, 1⟩ h_596 fun s213 h_597 =>
                  (Ld .sl h_597 (p12.add 5) fun (Till248 : Sl) => (.slice Till248.a Till248.n Till248.c : Value) = .slice Till.a Till.n Till.c) ∧
                  App Try.prog 51 51 Till ⟨some b110, 1, 1⟩ h_597 fun s214 h_598 =>
                  Nn (some p) fun p277 =>
                  St h_598 (p277.add 2) (.slice s211.a s211.n s211.c) fun h_599 =>
                  Nn (some p) fun p278 =>
                  St h_599 (p278.add 3) (.slice s212.a s212.n s212.c) fun h_600 =>
                  Nn (some p) fun p279 =>
                  St h_600 (p279.add 4) (.slice s213.a s213.n s213.c) fun h_601 =>
                  Nn (some p) fun p280 =>
                  St h_601 (p280.add 5) (.slice s214.a s214.n s214.c) fun h_602 =>
                  J  h_602
                )
              ) ∧
              (
                Alloc h_568 (.cells #[.int .i64 0] 3) fun b111 h_603 =>
                (Ld .sl h_603 (p9.add 2) fun (Clock107 : Sl) => (.slice Clock107.a Clock107.n Clock107.c : Value) = .slice Clock.a Clock.n Clock.c) ∧
                (Ld .sl h_603 (p10.add 3) fun (Round130 : Sl) => (.slice Round130.a Round130.n Round130.c : Value) = .slice Round.a Round.n Round.c) ∧
                (Ld .sl h_603 (p11.add 4) fun (Began182 : Sl) => (.slice Began182.a Began182.n Began182.c : Value) = .slice Began.a Began.n Began.c) ∧
                (Ld .sl h_603 (p12.add 5) fun (Till249 : Sl) => (.slice Till249.a Till249.n Till249.c : Value) = .slice Till.a Till.n Till.c) ∧
                Alloc h_603 (.cells #[.int .i64 0] 3) fun b112 h_604 =>
                (Ld .sl h_604 (p9.add 2) fun (Clock108 : Sl) => (.slice Clock108.a Clock108.n Clock108.c : Value) = .slice Clock.a Clock.n Clock.c) ∧
                (Ld .sl h_604 (p10.add 3) fun (Round131 : Sl) => (.slice Round131.a Round131.n Round131.c : Value) = .slice Round.a Round.n Round.c) ∧
                (Ld .sl h_604 (p11.add 4) fun (Began183 : Sl) => (.slice Began183.a Began183.n Began183.c : Value) = .slice Began.a Began.n Began.c) ∧
                (Ld .sl h_604 (p12.add 5) fun (Till250 : Sl) => (.slice Till250.a Till250.n Till250.c : Value) = .slice Till.a Till.n Till.c) ∧
                App Try.prog 51 51 Clock ⟨some b112, 1, 1⟩ h_604 fun s215 h_605 =>
                (Ld .sl h_605 (p10.add 3) fun (Round132 : Sl) => (.slice Round132.a Round132.n Round132.c : Value) = .slice Round.a Round.n Round.c) ∧
                (Ld .sl h_605 (p11.add 4) fun (Began184 : Sl) => (.slice Began184.a Began184.n Began184.c : Value) = .slice Began.a Began.n Began.c) ∧
                (Ld .sl h_605 (p12.add 5) fun (Till251 : Sl) => (.slice Till251.a Till251.n Till251.c : Value) = .slice Till.a Till.n Till.c) ∧
                App Try.prog 51 51 Round ⟨some b82, 1, 1⟩ h_605 fun s216 h_606 =>
                (Ld .sl h_606 (p11.add 4) fun (Began185 : Sl) => (.slice Began185.a Began185.n Began185.c : Value) = .slice Began.a Began.n Began.c) ∧
                (Ld .sl h_606 (p12.add 5) fun (Till252 : Sl) => (.slice Till252.a Till252.n Till252.c : Value) = .slice Till.a Till.n Till.c) ∧
                App Try.prog 51 51 Began ⟨some b105, 1, 1⟩ h_606 fun s217 h_607 =>
                (Ld .sl h_607 (p12.add 5) fun (Till253 : Sl) => (.slice Till253.a Till253.n Till253.c : Value) = .slice Till.a Till.n Till.c) ∧
                App Try.prog 51 51 Till ⟨some b111, 1, 1⟩ h_607 fun s218 h_608 =>
                Nn (some p) fun p281 =>
                St h_608 (p281.add 2) (.slice s215.a s215.n s215.c) fun h_609 =>
                Nn (some p) fun p282 =>
                St h_609 (p282.add 3) (.slice s216.a s216.n s216.c) fun h_610 =>
                Nn (some p) fun p283 =>
                St h_610 (p283.add 4) (.slice s217.a s217.n s217.c) fun h_611 =>
                Nn (some p) fun p284 =>
                St h_611 (p284.add 5) (.slice s218.a s218.n s218.c) fun h_612 =>
                J  h_612
              )
            ) ∧
            (
              Alloc h_439 (.cells #[.int .i64 0] 3) fun b113 h_613 =>
              (Ld .sl h_613 (p9.add 2) fun (Clock109 : Sl) => (.slice Clock109.a Clock109.n Clock109.c : Value) = .slice Clock.a Clock.n Clock.c) ∧
              (Ld .sl h_613 (p10.add 3) fun (Round133 : Sl) => (.slice Round133.a Round133.n Round133.c : Value) = .slice Round.a Round.n Round.c) ∧
              (Ld .sl h_613 (p11.add 4) fun (Began186 : Sl) => (.slice Began186.a Began186.n Began186.c : Value) = .slice Began.a Began.n Began.c) ∧
              (Ld .sl h_613 (p12.add 5) fun (Till254 : Sl) => (.slice Till254.a Till254.n Till254.c : Value) = .slice Till.a Till.n Till.c) ∧
              (
                Alloc h_613 (.cells #[.int .i64 0] 3) fun b114 h_614 =>
                (Ld .sl h_614 (p9.add 2) fun (Clock110 : Sl) => (.slice Clock110.a Clock110.n Clock110.c : Value) = .slice Clock.a Clock.n Clock.c) ∧
                (Ld .sl h_614 (p10.add 3) fun (Round134 : Sl) => (.slice Round134.a Round134.n Round134.c : Value) = .slice Round.a Round.n Round.c) ∧
                (Ld .sl h_614 (p11.add 4) fun (Began187 : Sl) => (.slice Began187.a Began187.n Began187.c : Value) = .slice Began.a Began.n Began.c) ∧
                (Ld .sl h_614 (p12.add 5) fun (Till255 : Sl) => (.slice Till255.a Till255.n Till255.c : Value) = .slice Till.a Till.n Till.c) ∧
                (
                  App Try.prog 51 51 Clock ⟨some b114, 1, 1⟩ h_614 fun s219 h_615 =>
                  (Ld .sl h_615 (p10.add 3) fun (Round135 : Sl) => (.slice Round135.a Round135.n Round135.c : Value) = .slice Round.a Round.n Round.c) ∧
                  (Ld .sl h_615 (p11.add 4) fun (Began188 : Sl) => (.slice Began188.a Began188.n Began188.c : Value) = .slice Began.a Began.n Began.c) ∧
                  (Ld .sl h_615 (p12.add 5) fun (Till256 : Sl) => (.slice Till256.a Till256.n Till256.c : Value) = .slice Till.a Till.n Till.c) ∧
                  (
                    App Try.prog 51 51 Round ⟨some b82, 1, 1⟩ h_615 fun s220 h_616 =>
                    (Ld .sl h_616 (p11.add 4) fun (Began189 : Sl) => (.slice Began189.a Began189.n Began189.c : Value) = .slice Began.a Began.n Began.c) ∧
                    (Ld .sl h_616 (p12.add 5) fun (Till257 : Sl) => (.slice Till257.a Till257.n Till257.c : Value) = .slice Till.a Till.n Till.c) ∧
                    Alloc h_616 (.cells #[.int .i64 0] 3) fun b115 h_617 =>
                    (Ld .sl h_617 (p9.add 2) fun (Clock111 : Sl) => (.slice Clock111.a Clock111.n Clock111.c : Value) = .slice Clock.a Clock.n Clock.c) ∧
                    (Ld .sl h_617 (p10.add 3) fun (Round136 : Sl) => (.slice Round136.a Round136.n Round136.c : Value) = .slice Round.a Round.n Round.c) ∧
                    (Ld .sl h_617 (p11.add 4) fun (Began190 : Sl) => (.slice Began190.a Began190.n Began190.c : Value) = .slice Began.a Began.n Began.c) ∧
                    (Ld .sl h_617 (p12.add 5) fun (Till258 : Sl) => (.slice Till258.a Till258.n Till258.c : Value) = .slice Till.a Till.n Till.c) ∧
                    App Try.prog 51 51 Began ⟨some b115, 1, 1⟩ h_617 fun s221 h_618 =>
                    (Ld .sl h_618 (p12.add 5) fun (Till259 : Sl) => (.slice Till259.a Till259.n Till259.c : Value) = .slice Till.a Till.n Till.c) ∧
                    App Try.prog 51 51 Till ⟨some b113, 1, 1⟩ h_618 fun s222 h_619 =>
                    Nn (some p) fun p285 =>
                    St h_619 (p285.add 2) (.slice s219.a s219.n s219.c) fun h_620 =>
                    Nn (some p) fun p286 =>
                    St h_620 (p286.add 3) (.slice s220.a s220.n s220.c) fun h_621 =>
                    Nn (some p) fun p287 =>
                    St h_621 (p287.add 4) (.slice s221.a s221.n s221.c) fun h_622 =>
                    Nn (some p) fun p288 =>
                    St h_622 (p288.add 5) (.slice s222.a s222.n s222.c) fun h_623 =>
                    J  h_623
                  ) ∧
                  (
                    Alloc h_615 (.cells #[.int .i64 0] 3) fun b116 h_624 =>
                    (Ld .sl h_624 (p9.add 2) fun (Clock112 : Sl) => (.slice Clock112.a Clock112.n Clock112.c : Value) = .slice Clock.a Clock.n Clock.c) ∧
                    (Ld .sl h_624 (p10.add 3) fun (Round137 : Sl) => (.slice Round137.a Round137.n Round137.c : Value) = .slice Round.a Round.n Round.c) ∧
                    (Ld .sl h_624 (p11.add 4) fun (Began191 : Sl) => (.slice Began191.a Began191.n Began191.c : Value) = .slice Began.a Began.n Began.c) ∧
                    (Ld .sl h_624 (p12.add 5) fun (Till260 : Sl) => (.slice Till260.a Till260.n Till260.c : Value) = .slice Till.a Till.n Till.c) ∧
                    App Try.prog 51 51 Round ⟨some b82, 1, 1⟩ h_624 fun s223 h_625 =>
                    (Ld .sl h_625 (p11.add 4) fun (Began192 : Sl) => (.slice Began192.a Began192.n Began192.c : Value) = .slice Began.a Began.n Began.c) ∧
                    (Ld .sl h_625 (p12.add 5) fun (Till261 : Sl) => (.slice Till261.a Till261.n Till261.c : Value) = .slice Till.a Till.n Till.c) ∧
                    App Try.prog 51 51 Began ⟨some b116, 1, 1⟩ h_625 fun s224 h_626 =>
                    (Ld .sl h_626 (p12.add 5) fun (Till262 : Sl) => (.slice Till262.a Till262.n Till262.c : Value) = .slice Till.a Till.n Till.c) ∧
                    App Try.prog 51 51 Till ⟨some b113, 1, 1⟩ h_626 fun s225 h_627 =>
                    Nn (some p) fun p289 =>
                    St h_627 (p289.add 2) (.slice s219.a s219.n s219.c) fun h_628 =>
                    Nn (some p) fun p290 =>
                    St h_628 (p290.add 3) (.slice s223.a s223.n s223.c) fun h_629 =>
                    Nn (some p) fun p291 =>
                    St h_629 (p291.add 4) (.slice s224.a s224.n s224.c) fun h_630 =>
                    Nn (some p) fun p292 =>
                    St h_630 (p292.add 5) (.slice s225.a s225.n s225.c) fun h_631 =>
                    J  h_631
                  )
                ) ∧
                (
                  Alloc h_614 (.cells #[.int .i64 0] 3) fun b117 h_632 =>
                  (Ld .sl h_632 (p9.add 2) fun (Clock113 : Sl) => (.slice Clock113.a Clock113.n Clock113.c : Value) = .slice Clock.a Clock.n Clock.c) ∧
                  (Ld .sl h_632 (p10.add 3) fun (Round138 : Sl) => (.slice Round138.a Round138.n Round138.c : Value) = .slice Round.a Round.n Round.c) ∧
                  (Ld .sl h_632 (p11.add 4) fun (Began193 : Sl) => (.slice Began193.a Began193.n Began193.c : Value) = .slice Began.a Began.n Began.c) ∧
                  (Ld .sl h_632 (p12.add 5) fun (Till263 : Sl) => (.slice Till263.a Till263.n Till263.c : Value) = .slice Till.a Till.n Till.c) ∧
                  App Try.prog 51 51 Clock ⟨some b114, 1, 1⟩ h_632 fun s226 h_633 =>
                  (Ld .sl h_633 (p10.add 3) fun (Round139 : Sl) => (.slice Round139.a Round139.n Round139.c : Value) = .slice Round.a Round.n Round.c) ∧
                  (Ld .sl h_633 (p11.add 4) fun (Began194 : Sl) => (.slice Began194.a Began194.n Began194.c : Value) = .slice Began.a Began.n Began.c) ∧
                  (Ld .sl h_633 (p12.add 5) fun (Till264 : Sl) => (.slice Till264.a Till264.n Till264.c : Value) = .slice Till.a Till.n Till.c) ∧
                  App Try.prog 51 51 Round ⟨some b82, 1, 1⟩ h_633 fun s227 h_634 =>
                  (Ld .sl h_634 (p11.add 4) fun (Began195 : Sl) => (.slice Began195.a Began195.n Began195.c : Value) = .slice Began.a Began.n Began.c) ∧
                  (Ld .sl h_634 (p12.add 5) fun (Till265 : Sl) => (.slice Till265.a Till265.n Till265.c : Value) = .slice Till.a Till.n Till.c) ∧
                  App Try.prog 51 51 Began ⟨some b117, 1, 1⟩ h_634 fun s228 h_635 =>
                  (Ld .sl h_635 (p12.add 5) fun (Till266 : Sl) => (.slice Till266.a Till266.n Till266.c : Value) = .slice Till.a Till.n Till.c) ∧
                  App Try.prog 51 51 Till ⟨some b113, 1, 1⟩ h_635 fun s229 h_636 =>
                  Nn (some p) fun p293 =>
                  St h_636 (p293.add 2) (.slice s226.a s226.n s226.c) fun h_637 =>
                  Nn (some p) fun p294 =>
                  St h_637 (p294.add 3) (.slice s227.a s227.n s227.c) fun h_638 =>
                  Nn (some p) fun p295 =>
                  St h_638 (p295.add 4) (.slice s228.a s228.n s228.c) fun h_639 =>
                  Nn (some p) fun p296 =>
                  St h_639 (p296.add 5) (.slice s229.a s229.n s229.c) fun h_640 =>
                  J  h_640
                )
              ) ∧
              (
                Alloc h_613 (.cells #[.int .i64 0] 3) fun b118 h_641 =>
                (Ld .sl h_641 (p9.add 2) fun (Clock114 : Sl) => (.slice Clock114.a Clock114.n Clock114.c : Value) = .slice Clock.a Clock.n Clock.c) ∧
                (Ld .sl h_641 (p10.add 3) fun (Round140 : Sl) => (.slice Round140.a Round140.n Round140.c : Value) = .slice Round.a Round.n Round.c) ∧
                (Ld .sl h_641 (p11.add 4) fun (Began196 : Sl) => (.slice Began196.a Began196.n Began196.c : Value) = .slice Began.a Began.n Began.c) ∧
                (Ld .sl h_641 (p12.add 5) fun (Till267 : Sl) => (.slice Till267.a Till267.n Till267.c : Value) = .slice Till.a Till.n Till.c) ∧
                Alloc h_641 (.cells #[.int .i64 0] 3) fun b119 h_642 =>
                (Ld .sl h_642 (p9.add 2) fun (Clock115 : Sl) => (.slice Clock115.a Clock115.n Clock115.c : Value) = .slice Clock.a Clock.n Clock.c) ∧
                (Ld .sl h_642 (p10.add 3) fun (Round141 : Sl) => (.slice Round141.a Round141.n Round141.c : Value) = .slice Round.a Round.n Round.c) ∧
                (Ld .sl h_642 (p11.add 4) fun (Began197 : Sl) => (.slice Began197.a Began197.n Began197.c : Value) = .slice Began.a Began.n Began.c) ∧
                (Ld .sl h_642 (p12.add 5) fun (Till268 : Sl) => (.slice Till268.a Till268.n Till268.c : Value) = .slice Till.a Till.n Till.c) ∧
                App Try.prog 51 51 Clock ⟨some b119, 1, 1⟩ h_642 fun s230 h_643 =>
                (Ld .sl h_643 (p10.add 3) fun (Round142 : Sl) => (.slice Round142.a Round142.n Round142.c : Value) = .slice Round.a Round.n Round.c) ∧
                (Ld .sl h_643 (p11.add 4) fun (Began198 : Sl) => (.slice Began198.a Began198.n Began198.c : Value) = .slice Began.a Began.n Began.c) ∧
                (Ld .sl h_643 (p12.add 5) fun (Till269 : Sl) => (.slice Till269.a Till269.n Till269.c : Value) = .slice Till.a Till.n Till.c) ∧
                App Try.prog 51 51 Round ⟨some b82, 1, 1⟩ h_643 fun s231 h_644 =>
                (Ld .sl h_644 (p11.add 4) fun (Began199 : Sl) => (.slice Began199.a Began199.n Began199.c : Value) = .slice Began.a Began.n Began.c) ∧
                (Ld .sl h_644 (p12.add 5) fun (Till270 : Sl) => (.slice Till270.a Till270.n Till270.c : Value) = .slice Till.a Till.n Till.c) ∧
                App Try.prog 51 51 Began ⟨some b118, 1, 1⟩ h_644 fun s232 h_645 =>
                (Ld .sl h_645 (p12.add 5) fun (Till271 : Sl) => (.slice Till271.a Till271.n Till271.c : Value) = .slice Till.a Till.n Till.c) ∧
                App Try.prog 51 51 Till ⟨some b113, 1, 1⟩ h_645 fun s233 h_646 =>
                Nn (some p) fun p297 =>
                St h_646 (p297.add 2) (.slice s230.a s230.n s230.c) fun h_647 =>
                Nn (some p) fun p298 =>
                St h_647 (p298.add 3) (.slice s231.a s231.n s231.c) fun h_648 =>
                Nn (some p) fun p299 =>
                St h_648 (p299.add 4) (.slice s232.a s232.n s232.c) fun h_649 =>
                Nn (some p) fun p300 =>
                St h_649 (p300.add 5) (.slice s233.a s233.n s233.c) fun h_650 =>
                J  h_650
              )
            )
          )
        ) ∧
        (
          (
            Alloc h_1 (.cells #[.int .i64 0] 3) fun b120 h_651 =>
            (Ld .sl h_651 (p9.add 2) fun (Clock116 : Sl) => (.slice Clock116.a Clock116.n Clock116.c : Value) = .slice Clock.a Clock.n Clock.c) ∧
            (Ld .sl h_651 (p10.add 3) fun (Round143 : Sl) => (.slice Round143.a Round143.n Round143.c : Value) = .slice Round.a Round.n Round.c) ∧
            (Ld .sl h_651 (p11.add 4) fun (Began200 : Sl) => (.slice Began200.a Began200.n Began200.c : Value) = .slice Began.a Began.n Began.c) ∧
            (Ld .sl h_651 (p12.add 5) fun (Till272 : Sl) => (.slice Till272.a Till272.n Till272.c : Value) = .slice Till.a Till.n Till.c) ∧
            (
              Alloc h_651 (.cells #[.int .i64 0] 3) fun b121 h_652 =>
              (Ld .sl h_652 (p9.add 2) fun (Clock117 : Sl) => (.slice Clock117.a Clock117.n Clock117.c : Value) = .slice Clock.a Clock.n Clock.c) ∧
              (Ld .sl h_652 (p10.add 3) fun (Round144 : Sl) => (.slice Round144.a Round144.n Round144.c : Value) = .slice Round.a Round.n Round.c) ∧
              (Ld .sl h_652 (p11.add 4) fun (Began201 : Sl) => (.slice Began201.a Began201.n Began201.c : Value) = .slice Began.a Began.n Began.c) ∧
              (Ld .sl h_652 (p12.add 5) fun (Till273 : Sl) => (.slice Till273.a Till273.n Till273.c : Value) = .slice Till.a Till.n Till.c) ∧
              (
                App Try.prog 51 51 Clock ⟨some b121, 1, 1⟩ h_652 fun s234 h_653 =>
                (Ld .sl h_653 (p10.add 3) fun (Round145 : Sl) => (.slice Round145.a Round145.n Round145.c : Value) = .slice Round.a Round.n Round.c) ∧
                (Ld .sl h_653 (p11.add 4) fun (Began202 : Sl) => (.slice Began202.a Began202.n Began202.c : Value) = .slice Began.a Began.n Began.c) ∧
                (Ld .sl h_653 (p12.add 5) fun (Till274 : Sl) => (.slice Till274.a Till274.n Till274.c : Value) = .slice Till.a Till.n Till.c) ∧
                (
                  Alloc h_653 (.cells #[.int .i64 0] 3) fun b122 h_654 =>
                  (Ld .sl h_654 (p9.add 2) fun (Clock118 : Sl) => (.slice Clock118.a Clock118.n Clock118.c : Value) = .slice Clock.a Clock.n Clock.c) ∧
                  (Ld .sl h_654 (p10.add 3) fun (Round146 : Sl) => (.slice Round146.a Round146.n Round146.c : Value) = .slice Round.a Round.n Round.c) ∧
                  (Ld .sl h_654 (p11.add 4) fun (Began203 : Sl) => (.slice Began203.a Began203.n Began203.c : Value) = .slice Began.a Began.n Began.c) ∧
                  (Ld .sl h_654 (p12.add 5) fun (Till275 : Sl) => (.slice Till275.a Till275.n Till275.c : Value) = .slice Till.a Till.n Till.c) ∧
                  (
                    App Try.prog 51 51 Round ⟨some b122, 1, 1⟩ h_654 fun s235 h_655 =>
                    (Ld .sl h_655 (p11.add 4) fun (Began204 : Sl) => (.slice Began204.a Began204.n Began204.c : Value) = .slice Began.a Began.n Began.c) ∧
                    (Ld .sl h_655 (p12.add 5) fun (Till276 : Sl) => (.slice Till276.a Till276.n Till276.c : Value) = .slice Till.a Till.n Till.c) ∧
                    (
                      App Try.prog 51 51 Began ⟨some b120, 1, 1⟩ h_655 fun s236 h_656 =>
                      (Ld .sl h_656 (p12.add 5) fun (Till277 : Sl) => (.slice Till277.a Till277.n Till277.c : Value) = .slice Till.a Till.n Till.c) ∧
                      Alloc h_656 (.cells #[.int .i64 0] 3) fun b123 h_657 =>
                      (Ld .sl h_657 (p9.add 2) fun (Clock119 : Sl) => (.slice Clock119.a Clock119.n Clock119.c : Value) = .slice Clock.a Clock.n Clock.c) ∧
                      (Ld .sl h_657 (p10.add 3) fun (Round147 : Sl) => (.slice Round147.a Round147.n Round147.c : Value) = .slice Round.a Round.n Round.c) ∧
                      (Ld .sl h_657 (p11.add 4) fun (Began205 : Sl) => (.slice Began205.a Began205.n Began205.c : Value) = .slice Began.a Began.n Began.c) ∧
                      (Ld .sl h_657 (p12.add 5) fun (Till278 : Sl) => (.slice Till278.a Till278.n Till278.c : Value) = .slice Till.a Till.n Till.c) ∧
                      App Try.prog 51 51 Till ⟨some b123, 1, 1⟩ h_657 fun s237 h_658 =>
                      Nn (some p) fun p301 =>
                      St h_658 (p301.add 2) (.slice s234.a s234.n s234.c) fun h_659 =>
                      Nn (some p) fun p302 =>
                      St h_659 (p302.add 3) (.slice s235.a s235.n s235.c) fun h_660 =>
                      Nn (some p) fun p303 =>
                      St h_660 (p303.add 4) (.slice s236.a s236.n s236.c) fun h_661 =>
                      Nn (some p) fun p304 =>
                      St h_661 (p304.add 5) (.slice s237.a s237.n s237.c) fun h_662 =>
                      J  h_662
                    ) ∧
                    (
                      Alloc h_655 (.cells #[.int .i64 0] 3) fun b124 h_663 =>
                      (Ld .sl h_663 (p9.add 2) fun (Clock120 : Sl) => (.slice Clock120.a Clock120.n Clock120.c : Value) = .slice Clock.a Clock.n Clock.c) ∧
                      (Ld .sl h_663 (p10.add 3) fun (Round148 : Sl) => (.slice Round148.a Round148.n Round148.c : Value) = .slice Round.a Round.n Round.c) ∧
                      (Ld .sl h_663 (p11.add 4) fun (Began206 : Sl) => (.slice Began206.a Began206.n Began206.c : Value) = .slice Began.a Began.n Began.c) ∧
                      (Ld .sl h_663 (p12.add 5) fun (Till279 : Sl) => (.slice Till279.a Till279.n Till279.c : Value) = .slice Till.a Till.n Till.c) ∧
                      App Try.prog 51 51 Began ⟨some b120, 1, 1⟩ h_663 fun s238 h_664 =>
                      (Ld .sl h_664 (p12.add 5) fun (Till280 : Sl) => (.slice Till280.a Till280.n Till280.c : Value) = .slice Till.a Till.n Till.c) ∧
                      App Try.prog 51 51 Till ⟨some b124, 1, 1⟩ h_664 fun s239 h_665 =>
                      Nn (some p) fun p305 =>
                      St h_665 (p305.add 2) (.slice s234.a s234.n s234.c) fun h_666 =>
                      Nn (some p) fun p306 =>
                      St h_666 (p306.add 3) (.slice s235.a s235.n s235.c) fun h_667 =>
                      Nn (some p) fun p307 =>
                      St h_667 (p307.add 4) (.slice s238.a s238.n s238.c) fun h_668 =>
                      Nn (some p) fun p308 =>
                      St h_668 (p308.add 5) (.slice s239.a s239.n s239.c) fun h_669 =>
                      J  h_669
                    )
                  ) ∧
                  (
                    Alloc h_654 (.cells #[.int .i64 0] 3) fun b125 h_670 =>
                    (Ld .sl h_670 (p9.add 2) fun (Clock121 : Sl) => (.slice Clock121.a Clock121.n Clock121.c : Value) = .slice Clock.a Clock.n Clock.c) ∧
                    (Ld .sl h_670 (p10.add 3) fun (Round149 : Sl) => (.slice Round149.a Round149.n Round149.c : Value) = .slice Round.a Round.n Round.c) ∧
                    (Ld .sl h_670 (p11.add 4) fun (Began207 : Sl) => (.slice Began207.a Began207.n Began207.c : Value) = .slice Began.a Began.n Began.c) ∧
                    (Ld .sl h_670 (p12.add 5) fun (Till281 : Sl) => (.slice Till281.a Till281.n Till281.c : Value) = .slice Till.a Till.n Till.c) ∧
                    App Try.prog 51 51 Round ⟨some b122, 1, 1⟩ h_670 fun s240 h_671 =>
                    (Ld .sl h_671 (p11.add 4) fun (Began208 : Sl) => (.slice Began208.a Began208.n Began208.c : Value) = .slice Began.a Began.n Began.c) ∧
                    (Ld .sl h_671 (p12.add 5) fun (Till282 : Sl) => (.slice Till282.a Till282.n Till282.c : Value) = .slice Till.a Till.n Till.c) ∧
                    App Try.prog 51 51 Began ⟨some b120, 1, 1⟩ h_671 fun s241 h_672 =>
                    (Ld .sl h_672 (p12.add 5) fun (Till283 : Sl) => (.slice Till283.a Till283.n Till283.c : Value) = .slice Till.a Till.n Till.c) ∧
                    App Try.prog 51 51 Till ⟨some b125, 1, 1⟩ h_672 fun s242 h_673 =>
                    Nn (some p) fun p309 =>
                    St h_673 (p309.add 2) (.slice s234.a s234.n s234.c) fun h_674 =>
                    Nn (some p) fun p310 =>
                    St h_674 (p310.add 3) (.slice s240.a s240.n s240.c) fun h_675 =>
                    Nn (some p) fun p311 =>
                    St h_675 (p311.add 4) (.slice s241.a s241.n s241.c) fun h_676 =>
                    Nn (some p) fun p312 =>
                    St h_676 (p312.add 5) (.slice s242.a s242.n s242.c) fun h_677 =>
                    J  h_677
                  )
                ) ∧
                (
                  Alloc h_653 (.cells #[.int .i64 0] 3) fun b126 h_678 =>
                  (Ld .sl h_678 (p9.add 2) fun (Clock122 : Sl) => (.slice Clock122.a Clock122.n Clock122.c : Value) = .slice Clock.a Clock.n Clock.c) ∧
                  (Ld .sl h_678 (p10.add 3) fun (Round150 : Sl) => (.slice Round150.a Round150.n Round150.c : Value) = .slice Round.a Round.n Round.c) ∧
                  (Ld .sl h_678 (p11.add 4) fun (Began209 : Sl) => (.slice Began209.a Began209.n Began209.c : Value) = .slice Began.a Began.n Began.c) ∧
                  (Ld .sl h_678 (p12.add 5) fun (Till284 : Sl) => (.slice Till284.a Till284.n Till284.c : Value) = .slice Till.a Till.n Till.c) ∧
                  Alloc h_678 (.cells #[.int .i64 0] 3) fun b127 h_679 =>
                  (Ld .sl h_679 (p9.add 2) fun (Clock123 : Sl) => (.slice Clock123.a Clock123.n Clock123.c : Value) = .slice Clock.a Clock.n Clock.c) ∧
                  (Ld .sl h_679 (p10.add 3) fun (Round151 : Sl) => (.slice Round151.a Round151.n Round151.c : Value) = .slice Round.a Round.n Round.c) ∧
                  (Ld .sl h_679 (p11.add 4) fun (Began210 : Sl) => (.slice Began210.a Began210.n Began210.c : Value) = .slice Began.a Began.n Began.c) ∧
                  (Ld .sl h_679 (p12.add 5) fun (Till285 : Sl) => (.slice Till285.a Till285.n Till285.c : Value) = .slice Till.a Till.n Till.c) ∧
                  App Try.prog 51 51 Round ⟨some b127, 1, 1⟩ h_679 fun s243 h_680 =>
                  (Ld .sl h_680 (p11.add 4) fun (Began211 : Sl) => (.slice Began211.a Began211.n Began211.c : Value) = .slice Began.a Began.n Began.c) ∧
                  (Ld .sl h_680 (p12.add 5) fun (Till286 : Sl) => (.slice Till286.a Till286.n Till286.c : Value) = .slice Till.a Till.n Till.c) ∧
                  App Try.prog 51 51 Began ⟨some b120, 1, 1⟩ h_680 fun s244 h_681 =>
                  (Ld .sl h_681 (p12.add 5) fun (Till287 : Sl) => (.slice Till287.a Till287.n Till287.c : Value) = .slice Till.a Till.n Till.c) ∧
                  App Try.prog 51 51 Till ⟨some b126, 1, 1⟩ h_681 fun s245 h_682 =>
                  Nn (some p) fun p313 =>
                  St h_682 (p313.add 2) (.slice s234.a s234.n s234.c) fun h_683 =>
                  Nn (some p) fun p314 =>
                  St h_683 (p314.add 3) (.slice s243.a s243.n s243.c) fun h_684 =>
                  Nn (some p) fun p315 =>
                  St h_684 (p315.add 4) (.slice s244.a s244.n s244.c) fun h_685 =>
                  Nn (some p) fun p316 =>
                  St h_685 (p316.add 5) (.slice s245.a s245.n s245.c) fun h_686 =>
                  J  h_686
                )
              ) ∧
              (
                (
                  Alloc h_652 (.cells #[.int .i64 0] 3) fun b128 h_687 =>
                  (Ld .sl h_687 (p9.add 2) fun (Clock124 : Sl) => (.slice Clock124.a Clock124.n Clock124.c : Value) = .slice Clock.a Clock.n Clock.c) ∧
                  (Ld .sl h_687 (p10.add 3) fun (Round152 : Sl) => (.slice Round152.a Round152.n Round152.c : Value) = .slice Round.a Round.n Round.c) ∧
                  (Ld .sl h_687 (p11.add 4) fun (Began212 : Sl) => (.slice Began212.a Began212.n Began212.c : Value) = .slice Began.a Began.n Began.c) ∧
                  (Ld .sl h_687 (p12.add 5) fun (Till288 : Sl) => (.slice Till288.a Till288.n Till288.c : Value) = .slice Till.a Till.n Till.c) ∧
                  (
                    App Try.prog 51 51 Clock ⟨some b121, 1, 1⟩ h_687 fun s246 h_688 =>
                    (Ld .sl h_688 (p10.add 3) fun (Round153 : Sl) => (.slice Round153.a Round153.n Round153.c : Value) = .slice Round.a Round.n Round.c) ∧
                    (Ld .sl h_688 (p11.add 4) fun (Began213 : Sl) => (.slice Began213.a Began213.n Began213.c : Value) = .slice Began.a Began.n Began.c) ∧
                    (Ld .sl h_688 (p12.add 5) fun (Till289 : Sl) => (.slice Till289.a Till289.n Till289.c : Value) = .slice Till.a Till.n Till.c) ∧
                    (
                      App Try.prog 51 51 Round ⟨some b128, 1, 1⟩ h_688 fun s247 h_689 =>
                      (Ld .sl h_689 (p11.add 4) fun (Began214 : Sl) => (.slice Began214.a Began214.n Began214.c : Value) = .slice Began.a Began.n Began.c) ∧
                      (Ld .sl h_689 (p12.add 5) fun (Till290 : Sl) => (.slice Till290.a Till290.n Till290.c : Value) = .slice Till.a Till.n Till.c) ∧
                      (
                        App Try.prog 51 51 Began ⟨some b120, 1, 1⟩ h_689 fun s248 h_690 =>
                        (Ld .sl h_690 (p12.add 5) fun (Till291 : Sl) => (.slice Till291.a Till291.n Till291.c : Value) = .slice Till.a Till.n Till.c) ∧
                        Alloc h_690 (.cells #[.int .i64 0] 3) fun b129 h_691 =>
                        (Ld .sl h_691 (p9.add 2) fun (Clock125 : Sl) => (.slice Clock125.a Clock125.n Clock125.c : Value) = .slice Clock.a Clock.n Clock.c) ∧
                        (Ld .sl h_691 (p10.add 3) fun (Round154 : Sl) => (.slice Round154.a Round154.n Round154.c : Value) = .slice Round.a Round.n Round.c) ∧
                        (Ld .sl h_691 (p11.add 4) fun (Began215 : Sl) => (.slice Began215.a Began215.n Began215.c : Value) = .slice Began.a Began.n Began.c) ∧
                        (Ld .sl h_691 (p12.add 5) fun (Till292 : Sl) => (.slice Till292.a Till292.n Till292.c : Value) = .slice Till.a Till.n Till.c) ∧
                        App Try.prog 51 51 Till ⟨some b129, 1, 1⟩ h_691 fun s249 h_692 =>
                        Nn (some p) fun p317 =>
                        St h_692 (p317.add 2) (.slice s246.a s246.n s246.c) fun h_693 =>
                        Nn (some p) fun p318 =>
                        St h_693 (p318.add 3) (.slice s247.a s247.n s247.c) fun h_694 =>
                        Nn (some p) fun p319 =>
                        St h_694 (p319.add 4) (.slice s248.a s248.n s248.c) fun h_695 =>
                        Nn (some p) fun p320 =>
                        St h_695 (p320.add 5) (.slice s249.a s249.n s249.c) fun h_696 =>
                        J  h_696
                      ) ∧
                      (
                        Alloc h_689 (.cells #[.int .i64 0] 3) fun b130 h_697 =>
                        (Ld .sl h_697 (p9.add 2) fun (Clock126 : Sl) => (.slice Clock126.a Clock126.n Clock126.c : Value) = .slice Clock.a Clock.n Clock.c) ∧
                        (Ld .sl h_697 (p10.add 3) fun (Round155 : Sl) => (.slice Round155.a Round155.n Round155.c : Value) = .slice Round.a Round.n Round.c) ∧
                        (Ld .sl h_697 (p11.add 4) fun (Began216 : Sl) => (.slice Began216.a Began216.n Began216.c : Value) = .slice Began.a Began.n Began.c) ∧
                        (Ld .sl h_697 (p12.add 5) fun (Till293 : Sl) => (.slice Till293.a Till293.n Till293.c : Value) = .slice Till.a Till.n Till.c) ∧
                        App Try.prog 51 51 Began ⟨some b120, 1, 1⟩ h_697 fun s250 h_698 =>
                        (Ld .sl h_698 (p12.add 5) fun (Till294 : Sl) => (.slice Till294.a Till294.n Till294.c : Value) = .slice Till.a Till.n Till.c) ∧
                        App Try.prog 51 51 Till ⟨some b130, 1, 1⟩ h_698 fun s251 h_699 =>
                        Nn (some p) fun p321 =>
                        St h_699 (p321.add 2) (.slice s246.a s246.n s246.c) fun h_700 =>
                        Nn (some p) fun p322 =>
                        St h_700 (p322.add 3) (.slice s247.a s247.n s247.c) fun h_701 =>
                        Nn (some p) fun p323 =>
                        St h_701 (p323.add 4) (.slice s250.a s250.n s250.c) fun h_702 =>
                        Nn (some p) fun p324 =>
                        St h_702 (p324.add 5) (.slice s251.a s251.n s251.c) fun h_703 =>
                        J  h_703
                      )
                    ) ∧
                    (
                      Alloc h_688 (.cells #[.int .i64 0] 3) fun b131 h_704 =>
                      (Ld .sl h_704 (p9.add 2) fun (Clock127 : Sl) => (.slice Clock127.a Clock127.n Clock127.c : Value) = .slice Clock.a Clock.n Clock.c) ∧
                      (Ld .sl h_704 (p10.add 3) fun (Round156 : Sl) => (.slice Round156.a Round156.n Round156.c : Value) = .slice Round.a Round.n Round.c) ∧
                      (Ld .sl h_704 (p11.add 4) fun (Began217 : Sl) => (.slice Began217.a Began217.n Began217.c : Value) = .slice Began.a Began.n Began.c) ∧
                      (Ld .sl h_704 (p12.add 5) fun (Till295 : Sl) => (.slice Till295.a Till295.n Till295.c : Value) = .slice Till.a Till.n Till.c) ∧
                      App Try.prog 51 51 Round ⟨some b128, 1, 1⟩ h_704 fun s252 h_705 =>
                      (Ld .sl h_705 (p11.add 4) fun (Began218 : Sl) => (.slice Began218.a Began218.n Began218.c : Value) = .slice Began.a Began.n Began.c) ∧
                      (Ld .sl h_705 (p12.add 5) fun (Till296 : Sl) => (.slice Till296.a Till296.n Till296.c : Value) = .slice Till.a Till.n Till.c) ∧
                      App Try.prog 51 51 Began ⟨some b120, 1, 1⟩ h_705 fun s253 h_706 =>
                      (Ld .sl h_706 (p12.add 5) fun (Till297 : Sl) => (.slice Till297.a Till297.n Till297.c : Value) = .slice Till.a Till.n Till.c) ∧
                      App Try.prog 51 51 Till ⟨some b131, 1, 1⟩ h_706 fun s254 h_707 =>
                      Nn (some p) fun p325 =>
                      St h_707 (p325.add 2) (.slice s246.a s246.n s246.c) fun h_708 =>
                      Nn (some p) fun p326 =>
                      St h_708 (p326.add 3) (.slice s252.a s252.n s252.c) fun h_709 =>
                      Nn (some p) fun p327 =>
                      St h_709 (p327.add 4) (.slice s253.a s253.n s253.c) fun h_710 =>
                      Nn (some p) fun p328 =>
                      St h_710 (p328.add 5) (.slice s254.a s254.n s254.c) fun h_711 =>
                      J  h_711
                    )
                  ) ∧
                  (
                    Alloc h_687 (.cells #[.int .i64 0] 3) fun b132 h_712 =>
                    (Ld .sl h_712 (p9.add 2) fun (Clock128 : Sl) => (.slice Clock128.a Clock128.n Clock128.c : Value) = .slice Clock.a Clock.n Clock.c) ∧
                    (Ld .sl h_712 (p10.add 3) fun (Round157 : Sl) => (.slice Round157.a Round157.n Round157.c : Value) = .slice Round.a Round.n Round.c) ∧
                    (Ld .sl h_712 (p11.add 4) fun (Began219 : Sl) => (.slice Began219.a Began219.n Began219.c : Value) = .slice Began.a Began.n Began.c) ∧
                    (Ld .sl h_712 (p12.add 5) fun (Till298 : Sl) => (.slice Till298.a Till298.n Till298.c : Value) = .slice Till.a Till.n Till.c) ∧
                    App Try.prog 51 51 Clock ⟨some b121, 1, 1⟩ h_712 fun s255 h_713 =>
                    (Ld .sl h_713 (p10.add 3) fun (Round158 : Sl) => (.slice Round158.a Round158.n Round158.c : Value) = .slice Round.a Round.n Round.c) ∧
                    (Ld .sl h_713 (p11.add 4) fun (Began220 : Sl) => (.slice Began220.a Began220.n Began220.c : Value) = .slice Began.a Began.n Began.c) ∧
                    (Ld .sl h_713 (p12.add 5) fun (Till299 : Sl) => (.slice Till299.a Till299.n Till299.c : Value) = .slice Till.a Till.n Till.c) ∧
                    App Try.prog 51 51 Round ⟨some b128, 1, 1⟩ h_713 fun s256 h_714 =>
                    (Ld .sl h_714 (p11.add 4) fun (Began221 : Sl) => (.slice Began221.a Began221.n Began221.c : Value) = .slice Began.a Began.n Began.c) ∧
                    (Ld .sl h_714 (p12.add 5) fun (Till300 : Sl) => (.slice Till300.a Till300.n Till300.c : Value) = .slice Till.a Till.n Till.c) ∧
                    App Try.prog 51 51 Began ⟨some b120, 1, 1⟩ h_714 fun s257 h_715 =>
                    (Ld .sl h_715 (p12.add 5) fun (Till301 : Sl) => (.slice Till301.a Till301.n Till301.c : Value) = .slice Till.a Till.n Till.c) ∧
                    App Try.prog 51 51 Till ⟨some b132, 1, 1⟩ h_715 fun s258 h_716 =>
                    Nn (some p) fun p329 =>
                    St h_716 (p329.add 2) (.slice s255.a s255.n s255.c) fun h_717 =>
                    Nn (some p) fun p330 =>
                    St h_717 (p330.add 3) (.slice s256.a s256.n s256.c) fun h_718 =>
                    Nn (some p) fun p331 =>
                    St h_718 (p331.add 4) (.slice s257.a s257.n s257.c) fun h_719 =>
                    Nn (some p) fun p332 =>
                    St h_719 (p332.add 5) (.slice s258.a s258.n s258.c) fun h_720 =>
                    J  h_720
                  )
                ) ∧
                (
                  Alloc h_652 (.cells #[.int .i64 0] 3) fun b133 h_721 =>
                  (Ld .sl h_721 (p9.add 2) fun (Clock129 : Sl) => (.slice Clock129.a Clock129.n Clock129.c : Value) = .slice Clock.a Clock.n Clock.c) ∧
                  (Ld .sl h_721 (p10.add 3) fun (Round159 : Sl) => (.slice Round159.a Round159.n Round159.c : Value) = .slice Round.a Round.n Round.c) ∧
                  (Ld .sl h_721 (p11.add 4) fun (Began222 : Sl) => (.slice Began222.a Began222.n Began222.c : Value) = .slice Began.a Began.n Began.c) ∧
                  (Ld .sl h_721 (p12.add 5) fun (Till302 : Sl) => (.slice Till302.a Till302.n Till302.c : Value) = .slice Till.a Till.n Till.c) ∧
                  (
                    App Try.prog 51 51 Clock ⟨some b121, 1, 1⟩ h_721 fun s259 h_722 =>
                    (Ld .sl h_722 (p10.add 3) fun (Round160 : Sl) => (.slice Round160.a Round160.n Round160.c : Value) = .slice Round.a Round.n Round.c) ∧
                    (Ld .sl h_722 (p11.add 4) fun (Began223 : Sl) => (.slice Began223.a Began223.n Began223.c : Value) = .slice Began.a Began.n Began.c) ∧
                    (Ld .sl h_722 (p12.add 5) fun (Till303 : Sl) => (.slice Till303.a Till303.n Till303.c : Value) = .slice Till.a Till.n Till.c) ∧
                    Alloc h_722 (.cells #[.int .i64 0] 3) fun b134 h_723 =>
                    (Ld .sl h_723 (p9.add 2) fun (Clock130 : Sl) => (.slice Clock130.a Clock130.n Clock130.c : Value) = .slice Clock.a Clock.n Clock.c) ∧
                    (Ld .sl h_723 (p10.add 3) fun (Round161 : Sl) => (.slice Round161.a Round161.n Round161.c : Value) = .slice Round.a Round.n Round.c) ∧
                    (Ld .sl h_723 (p11.add 4) fun (Began224 : Sl) => (.slice Began224.a Began224.n Began224.c : Value) = .slice Began.a Began.n Began.c) ∧
                    (Ld .sl h_723 (p12.add 5) fun (Till304 : Sl) => (.slice Till304.a Till304.n Till304.c : Value) = .slice Till.a Till.n Till.c) ∧
                    App Try.prog 51 51 Round ⟨some b134, 1, 1⟩ h_723 fun s260 h_724 =>
                    (Ld .sl h_724 (p11.add 4) fun (Began225 : Sl) => (.slice Began225.a Began225.n Began225.c : Value) = .slice Began.a Began.n Began.c) ∧
                    (Ld .sl h_724 (p12.add 5) fun (Till305 : Sl) => (.slice Till305.a Till305.n Till305.c : Value) = .slice Till.a Till.n Till.c) ∧
                    App Try.prog 51 51 Began ⟨some b120, 1, 1⟩ h_724 fun s261 h_725 =>
                    (Ld .sl h_725 (p12.add 5) fun (Till306 : Sl) => (.slice Till306.a Till306.n Till306.c : Value) = .slice Till.a Till.n Till.c) ∧
                    App Try.prog 51 51 Till ⟨some b133, 1, 1⟩ h_725 fun s262 h_726 =>
                    Nn (some p) fun p333 =>
                    St h_726 (p333.add 2) (.slice s259.a s259.n s259.c) fun h_727 =>
                    Nn (some p) fun p334 =>
                    St h_727 (p334.add 3) (.slice s260.a s260.n s260.c) fun h_728 =>
                    Nn (some p) fun p335 =>
                    St h_728 (p335.add 4) (.slice s261.a s261.n s261.c) fun h_729 =>
                    Nn (some p) fun p336 =>
                    St h_729 (p336.add 5) (.slice s262.a s262.n s262.c) fun h_730 =>
                    J  h_730
                  ) ∧
                  (
                    Alloc h_721 (.cells #[.int .i64 0] 3) fun b135 h_731 =>
                    (Ld .sl h_731 (p9.add 2) fun (Clock131 : Sl) => (.slice Clock131.a Clock131.n Clock131.c : Value) = .slice Clock.a Clock.n Clock.c) ∧
                    (Ld .sl h_731 (p10.add 3) fun (Round162 : Sl) => (.slice Round162.a Round162.n Round162.c : Value) = .slice Round.a Round.n Round.c) ∧
                    (Ld .sl h_731 (p11.add 4) fun (Began226 : Sl) => (.slice Began226.a Began226.n Began226.c : Value) = .slice Began.a Began.n Began.c) ∧
                    (Ld .sl h_731 (p12.add 5) fun (Till307 : Sl) => (.slice Till307.a Till307.n Till307.c : Value) = .slice Till.a Till.n Till.c) ∧
                    App Try.prog 51 51 Clock ⟨some b121, 1, 1⟩ h_731 fun s263 h_732 =>
                    (Ld .sl h_732 (p10.add 3) fun (Round163 : Sl) => (.slice Round163.a Round163.n Round163.c : Value) = .slice Round.a Round.n Round.c) ∧
                    (Ld .sl h_732 (p11.add 4) fun (Began227 : Sl) => (.slice Began227.a Began227.n Began227.c : Value) = .slice Began.a Began.n Began.c) ∧
                    (Ld .sl h_732 (p12.add 5) fun (Till308 : Sl) => (.slice Till308.a Till308.n Till308.c : Value) = .slice Till.a Till.n Till.c) ∧
                    App Try.prog 51 51 Round ⟨some b135, 1, 1⟩ h_732 fun s264 h_733 =>
                    (Ld .sl h_733 (p11.add 4) fun (Began228 : Sl) => (.slice Began228.a Began228.n Began228.c : Value) = .slice Began.a Began.n Began.c) ∧
                    (Ld .sl h_733 (p12.add 5) fun (Till309 : Sl) => (.slice Till309.a Till309.n Till309.c : Value) = .slice Till.a Till.n Till.c) ∧
                    App Try.prog 51 51 Began ⟨some b120, 1, 1⟩ h_733 fun s265 h_734 =>
                    (Ld .sl h_734 (p12.add 5) fun (Till310 : Sl) => (.slice Till310.a Till310.n Till310.c : Value) = .slice Till.a Till.n Till.c) ∧
                    App Try.prog 51 51 Till ⟨some b133, 1, 1⟩ h_734 fun s266 h_735 =>
                    Nn (some p) fun p337 =>
                    St h_735 (p337.add 2) (.slice s263.a s263.n s263.c) fun h_736 =>
                    Nn (some p) fun p338 =>
                    St h_736 (p338.add 3) (.slice s264.a s264.n s264.c) fun h_737 =>
                    Nn (some p) fun p339 =>
                    St h_737 (p339.add 4) (.slice s265.a s265.n s265.c) fun h_738 =>
                    Nn (some p) fun p340 =>
                    St h_738 (p340.add 5) (.slice s266.a s266.n s266.c) fun h_739 =>
                    J  h_739
                  )
                )
              )
            ) ∧
            (
              (
                Alloc h_651 (.cells #[.int .i64 0] 3) fun b136 h_740 =>
                (Ld .sl h_740 (p9.add 2) fun (Clock132 : Sl) => (.slice Clock132.a Clock132.n Clock132.c : Value) = .slice Clock.a Clock.n Clock.c) ∧
                (Ld .sl h_740 (p10.add 3) fun (Round164 : Sl) => (.slice Round164.a Round164.n Round164.c : Value) = .slice Round.a Round.n Round.c) ∧
                (Ld .sl h_740 (p11.add 4) fun (Began229 : Sl) => (.slice Began229.a Began229.n Began229.c : Value) = .slice Began.a Began.n Began.c) ∧
                (Ld .sl h_740 (p12.add 5) fun (Till311 : Sl) => (.slice Till311.a Till311.n Till311.c : Value) = .slice Till.a Till.n Till.c) ∧
                (
                  Alloc h_740 (.cells #[.int .i64 0] 3) fun b137 h_741 =>
                  (Ld .sl h_741 (p9.add 2) fun (Clock133 : Sl) => (.slice Clock133.a Clock133.n Clock133.c : Value) = .slice Clock.a Clock.n Clock.c) ∧
                  (Ld .sl h_741 (p10.add 3) fun (Round165 : Sl) => (.slice Round165.a Round165.n Round165.c : Value) = .slice Round.a Round.n Round.c) ∧
                  (Ld .sl h_741 (p11.add 4) fun (Began230 : Sl) => (.slice Began230.a Began230.n Began230.c : Value) = .slice Began.a Began.n Began.c) ∧
                  (Ld .sl h_741 (p12.add 5) fun (Till312 : Sl) => (.slice Till312.a Till312.n Till312.c : Value) = .slice Till.a Till.n Till.c) ∧
                  (
                    App Try.prog 51 51 Clock ⟨some b137, 1, 1⟩ h_741 fun s267 h_742 =>
                    (Ld .sl h_742 (p10.add 3) fun (Round166 : Sl) => (.slice Round166.a Round166.n Round166.c : Value) = .slice Round.a Round.n Round.c) ∧
                    (Ld .sl h_742 (p11.add 4) fun (Began231 : Sl) => (.slice Began231.a Began231.n Began231.c : Value) = .slice Began.a Began.n Began.c) ∧
                    (Ld .sl h_742 (p12.add 5) fun (Till313 : Sl) => (.slice Till313.a Till313.n Till313.c : Value) = .slice Till.a Till.n Till.c) ∧
                    (
                      App Try.prog 51 51 Round ⟨some b136, 1, 1⟩ h_742 fun s268 h_743 =>
                      (Ld .sl h_743 (p11.add 4) fun (Began232 : Sl) => (.slice Began232.a Began232.n Began232.c : Value) = .slice Began.a Began.n Began.c) ∧
                      (Ld .sl h_743 (p12.add 5) fun (Till314 : Sl) => (.slice Till314.a Till314.n Till314.c : Value) = .slice Till.a Till.n Till.c) ∧
                      (
                        App Try.prog 51 51 Began ⟨some b120, 1, 1⟩ h_743 fun s269 h_744 =>
                        (Ld .sl h_744 (p12.add 5) fun (Till315 : Sl) => (.slice Till315.a Till315.n Till315.c : Value) = .slice Till.a Till.n Till.c) ∧
                        Alloc h_744 (.cells #[.int .i64 0] 3) fun b138 h_745 =>
                        (Ld .sl h_745 (p9.add 2) fun (Clock134 : Sl) => (.slice Clock134.a Clock134.n Clock134.c : Value) = .slice Clock.a Clock.n Clock.c) ∧
                        (Ld .sl h_745 (p10.add 3) fun (Round167 : Sl) => (.slice Round167.a Round167.n Round167.c : Value) = .slice Round.a Round.n Round.c) ∧
                        (Ld .sl h_745 (p11.add 4) fun (Began233 : Sl) => (.slice Began233.a Began233.n Began233.c : Value) = .slice Began.a Began.n Began.c) ∧
                        (Ld .sl h_745 (p12.add 5) fun (Till316 : Sl) => (.slice Till316.a Till316.n Till316.c : Value) = .slice Till.a Till.n Till.c) ∧
                        App Try.prog 51 51 Till ⟨some b138, 1, 1⟩ h_745 fun s270 h_746 =>
                        Nn (some p) fun p341 =>
                        St h_746 (p341.add 2) (.slice s267.a s267.n s267.c) fun h_747 =>
                        Nn (some p) fun p342 =>
                        St h_747 (p342.add 3) (.slice s268.a s268.n s268.c) fun h_748 =>
                        Nn (some p) fun p343 =>
                        St h_748 (p343.add 4) (.slice s269.a s269.n s269.c) fun h_749 =>
                        Nn (some p) fun p344 =>
                        St h_749 (p344.add 5) (.slice s270.a s270.n s270.c) fun h_750 =>
                        J  h_750
                      ) ∧
                      (
                        Alloc h_743 (.cells #[.int .i64 0] 3) fun b139 h_751 =>
                        (Ld .sl h_751 (p9.add 2) fun (Clock135 : Sl) => (.slice Clock135.a Clock135.n Clock135.c : Value) = .slice Clock.a Clock.n Clock.c) ∧
                        (Ld .sl h_751 (p10.add 3) fun (Round168 : Sl) => (.slice Round168.a Round168.n Round168.c : Value) = .slice Round.a Round.n Round.c) ∧
                        (Ld .sl h_751 (p11.add 4) fun (Began234 : Sl) => (.slice Began234.a Began234.n Began234.c : Value) = .slice Began.a Began.n Began.c) ∧
                        (Ld .sl h_751 (p12.add 5) fun (Till317 : Sl) => (.slice Till317.a Till317.n Till317.c : Value) = .slice Till.a Till.n Till.c) ∧
                        App Try.prog 51 51 Began ⟨some b120, 1, 1⟩ h_751 fun s271 h_752 =>
                        (Ld .sl h_752 (p12.add 5) fun (Till318 : Sl) => (.slice Till318.a Till318.n Till318.c : Value) = .slice Till.a Till.n Till.c) ∧
                        App Try.prog 51 51 Till ⟨some b139, 1, 1⟩ h_752 fun s272 h_753 =>
                        Nn (some p) fun p345 =>
                        St h_753 (p345.add 2) (.slice s267.a s267.n s267.c) fun h_754 =>
                        Nn (some p) fun p346 =>
                        St h_754 (p346.add 3) (.slice s268.a s268.n s268.c) fun h_755 =>
                        Nn (some p) fun p347 =>
                        St h_755 (p347.add 4) (.slice s271.a s271.n s271.c) fun h_756 =>
                        Nn (some p) fun p348 =>
                        St h_756 (p348.add 5) (.slice s272.a s272.n s272.c) fun h_757 =>
                        J  h_757
                      )
                    ) ∧
                    (
                      Alloc h_742 (.cells #[.int .i64 0] 3) fun b140 h_758 =>
                      (Ld .sl h_758 (p9.add 2) fun (Clock136 : Sl) => (.slice Clock136.a Clock136.n Clock136.c : Value) = .slice Clock.a Clock.n Clock.c) ∧
                      (Ld .sl h_758 (p10.add 3) fun (Round169 : Sl) => (.slice Round169.a Round169.n Round169.c : Value) = .slice Round.a Round.n Round.c) ∧
                      (Ld .sl h_758 (p11.add 4) fun (Began235 : Sl) => (.slice Began235.a Began235.n Began235.c : Value) = .slice Began.a Began.n Began.c) ∧
                      (Ld .sl h_758 (p12.add 5) fun (Till319 : Sl) => (.slice Till319.a Till319.n Till319.c : Value) = .slice Till.a Till.n Till.c) ∧
                      App Try.prog 51 51 Round ⟨some b136, 1, 1⟩ h_758 fun s273 h_759 =>
                      (Ld .sl h_759 (p11.add 4) fun (Began236 : Sl) => (.slice Began236.a Began236.n Began236.c : Value) = .slice Began.a Began.n Began.c) ∧
                      (Ld .sl h_759 (p12.add 5) fun (Till320 : Sl) => (.slice Till320.a Till320.n Till320.c : Value) = .slice Till.a Till.n Till.c) ∧
                      App Try.prog 51 51 Began ⟨some b120, 1, 1⟩ h_759 fun s274 h_760 =>
                      (Ld .sl h_760 (p12.add 5) fun (Till321 : Sl) => (.slice Till321.a Till321.n Till321.c : Value) = .slice Till.a Till.n Till.c) ∧
                      App Try.prog 51 51 Till ⟨some b140, 1, 1⟩ h_760 fun s275 h_761 =>
                      Nn (some p) fun p349 =>
                      St h_761 (p349.add 2) (.slice s267.a s267.n s267.c) fun h_762 =>
                      Nn (some p) fun p350 =>
                      St h_762 (p350.add 3) (.slice s273.a s273.n s273.c) fun h_763 =>
                      Nn (some p) fun p351 =>
                      St h_763 (p351.add 4) (.slice s274.a s274.n s274.c) fun h_764 =>
                      Nn (some p) fun p352 =>
                      St h_764 (p352.add 5) (.slice s275.a s275.n s275.c) fun h_765 =>
                      J  h_765
                    )
                  ) ∧
                  (
                    Alloc h_741 (.cells #[.int .i64 0] 3) fun b141 h_766 =>
                    (Ld .sl h_766 (p9.add 2) fun (Clock137 : Sl) => (.slice Clock137.a Clock137.n Clock137.c : Value) = .slice Clock.a Clock.n Clock.c) ∧
                    (Ld .sl h_766 (p10.add 3) fun (Round170 : Sl) => (.slice Round170.a Round170.n Round170.c : Value) = .slice Round.a Round.n Round.c) ∧
                    (Ld .sl h_766 (p11.add 4) fun (Began237 : Sl) => (.slice Began237.a Began237.n Began237.c : Value) = .slice Began.a Began.n Began.c) ∧
                    (Ld .sl h_766 (p12.add 5) fun (Till322 : Sl) => (.slice Till322.a Till322.n Till322.c : Value) = .slice Till.a Till.n Till.c) ∧
                    App Try.prog 51 51 Clock ⟨some b137, 1, 1⟩ h_766 fun s276 h_767 =>
                    (Ld .sl h_767 (p10.add 3) fun (Round171 : Sl) => (.slice Round171.a Round171.n Round171.c : Value) = .slice Round.a Round.n Round.c) ∧
                    (Ld .sl h_767 (p11.add 4) fun (Began238 : Sl) => (.slice Began238.a Began238.n Began238.c : Value) = .slice Began.a Began.n Began.c) ∧
                    (Ld .sl h_767 (p12.add 5) fun (Till323 : Sl) => (.slice Till323.a Till323.n Till323.c : Value) = .slice Till.a Till.n Till.c) ∧
                    App Try.prog 51 51 Round ⟨some b136, 1, 1⟩ h_767 fun s277 h_768 =>
                    (Ld .sl h_768 (p11.add 4) fun (Began239 : Sl) => (.slice Began239.a Began239.n Began239.c : Value) = .slice Began.a Began.n Began.c) ∧
                    (Ld .sl h_768 (p12.add 5) fun (Till324 : Sl) => (.slice Till324.a Till324.n Till324.c : Value) = .slice Till.a Till.n Till.c) ∧
                    App Try.prog 51 51 Began ⟨some b120, 1, 1⟩ h_768 fun s278 h_769 =>
                    (Ld .sl h_769 (p12.add 5) fun (Till325 : Sl) => (.slice Till325.a Till325.n Till325.c : Value) = .slice Till.a Till.n Till.c) ∧
                    App Try.prog 51 51 Till ⟨some b141, 1, 1⟩ h_769 fun s279 h_770 =>
                    Nn (some p) fun p353 =>
                    St h_770 (p353.add 2) (.slice s276.a s276.n s276.c) fun h_771 =>
                    Nn (some p) fun p354 =>
                    St h_771 (p354.add 3) (.slice s277.a s277.n s277.c) fun h_772 =>
                    Nn (some p) fun p355 =>
                    St h_772 (p355.add 4) (.slice s278.a s278.n s278.c) fun h_773 =>
                    Nn (some p) fun p356 =>
                    St h_773 (p356.add 5) (.slice s279.a s279.n s279.c) fun h_774 =>
                    J  h_774
                  )
                ) ∧
                (
                  Alloc h_740 (.cells #[.int .i64 0] 3) fun b142 h_775 =>
                  (Ld .sl h_775 (p9.add 2) fun (Clock138 : Sl) => (.slice Clock138.a Clock138.n Clock138.c : Value) = .slice Clock.a Clock.n Clock.c) ∧
                  (Ld .sl h_775 (p10.add 3) fun (Round172 : Sl) => (.slice Round172.a Round172.n Round172.c : Value) = .slice Round.a Round.n Round.c) ∧
                  (Ld .sl h_775 (p11.add 4) fun (Began240 : Sl) => (.slice Began240.a Began240.n Began240.c : Value) = .slice Began.a Began.n Began.c) ∧
                  (Ld .sl h_775 (p12.add 5) fun (Till326 : Sl) => (.slice Till326.a Till326.n Till326.c : Value) = .slice Till.a Till.n Till.c) ∧
                  Alloc h_775 (.cells #[.int .i64 0] 3) fun b143 h_776 =>
                  (Ld .sl h_776 (p9.add 2) fun (Clock139 : Sl) => (.slice Clock139.a Clock139.n Clock139.c : Value) = .slice Clock.a Clock.n Clock.c) ∧
                  (Ld .sl h_776 (p10.add 3) fun (Round173 : Sl) => (.slice Round173.a Round173.n Round173.c : Value) = .slice Round.a Round.n Round.c) ∧
                  (Ld .sl h_776 (p11.add 4) fun (Began241 : Sl) => (.slice Began241.a Began241.n Began241.c : Value) = .slice Began.a Began.n Began.c) ∧
                  (Ld .sl h_776 (p12.add 5) fun (Till327 : Sl) => (.slice Till327.a Till327.n Till327.c : Value) = .slice Till.a Till.n Till.c) ∧
                  App Try.prog 51 51 Clock ⟨some b143, 1, 1⟩ h_776 fun s280 h_777 =>
                  (Ld .sl h_777 (p10.add 3) fun (Round174 : Sl) => (.slice Round174.a Round174.n Round174.c : Value) = .slice Round.a Round.n Round.c) ∧
                  (Ld .sl h_777 (p11.add 4) fun (Began242 : Sl) => (.slice Began242.a Began242.n Began242.c : Value) = .slice Began.a Began.n Began.c) ∧
                  (Ld .sl h_777 (p12.add 5) fun (Till328 : Sl) => (.slice Till328.a Till328.n Till328.c : Value) = .slice Till.a Till.n Till.c) ∧
                  App Try.prog 51 51 Round ⟨some b136, 1, 1⟩ h_777 fun s281 h_778 =>
                  (Ld .sl h_778 (p11.add 4) fun (Began243 : Sl) => (.slice Began243.a Began243.n Began243.c : Value) = .slice Began.a Began.n Began.c) ∧
                  (Ld .sl h_778 (p12.add 5) fun (Till329 : Sl) => (.slice Till329.a Till329.n Till329.c : Value) = .slice Till.a Till.n Till.c) ∧
                  App Try.prog 51 51 Began ⟨some b120, 1, 1⟩ h_778 fun s282 h_779 =>
                  (Ld .sl h_779 (p12.add 5) fun (Till330 : Sl) => (.slice Till330.a Till330.n Till330.c : Value) = .slice Till.a Till.n Till.c) ∧
                  App Try.prog 51 51 Till ⟨some b142, 1, 1⟩ h_779 fun s283 h_780 =>
                  Nn (some p) fun p357 =>
                  St h_780 (p357.add 2) (.slice s280.a s280.n s280.c) fun h_781 =>
                  Nn (some p) fun p358 =>
                  St h_781 (p358.add 3) (.slice s281.a s281.n s281.c) fun h_782 =>
                  Nn (some p) fun p359 =>
                  St h_782 (p359.add 4) (.slice s282.a s282.n s282.c) fun h_783 =>
                  Nn (some p) fun p360 =>
                  St h_783 (p360.add 5) (.slice s283.a s283.n s283.c) fun h_784 =>
                  J  h_784
                )
              ) ∧
              (
                Alloc h_651 (.cells #[.int .i64 0] 3) fun b144 h_785 =>
                (Ld .sl h_785 (p9.add 2) fun (Clock140 : Sl) => (.slice Clock140.a Clock140.n Clock140.c : Value) = .slice Clock.a Clock.n Clock.c) ∧
                (Ld .sl h_785 (p10.add 3) fun (Round175 : Sl) => (.slice Round175.a Round175.n Round175.c : Value) = .slice Round.a Round.n Round.c) ∧
                (Ld .sl h_785 (p11.add 4) fun (Began244 : Sl) => (.slice Began244.a Began244.n Began244.c : Value) = .slice Began.a Began.n Began.c) ∧
                (Ld .sl h_785 (p12.add 5) fun (Till331 : Sl) => (.slice Till331.a Till331.n Till331.c : Value) = .slice Till.a Till.n Till.c) ∧
                (
                  Alloc h_785 (.cells #[.int .i64 0] 3) fun b145 h_786 =>
                  (Ld .sl h_786 (p9.add 2) fun (Clock141 : Sl) => (.slice Clock141.a Clock141.n Clock141.c : Value) = .slice Clock.a Clock.n Clock.c) ∧
                  (Ld .sl h_786 (p10.add 3) fun (Round176 : Sl) => (.slice Round176.a Round176.n Round176.c : Value) = .slice Round.a Round.n Round.c) ∧
                  (Ld .sl h_786 (p11.add 4) fun (Began245 : Sl) => (.slice Began245.a Began245.n Began245.c : Value) = .slice Began.a Began.n Began.c) ∧
                  (Ld .sl h_786 (p12.add 5) fun (Till332 : Sl) => (.slice Till332.a Till332.n Till332.c : Value) = .slice Till.a Till.n Till.c) ∧
                  (
                    App Try.prog 51 51 Clock ⟨some b145, 1, 1⟩ h_786 fun s284 h_787 =>
                    (Ld .sl h_787 (p10.add 3) fun (Round177 : Sl) => (.slice Round177.a Round177.n Round177.c : Value) = .slice Round.a Round.n Round.c) ∧
                    (Ld .sl h_787 (p11.add 4) fun (Began246 : Sl) => (.slice Began246.a Began246.n Began246.c : Value) = .slice Began.a Began.n Began.c) ∧
                    (Ld .sl h_787 (p12.add 5) fun (Till333 : Sl) => (.slice Till333.a Till333.n Till333.c : Value) = .slice Till.a Till.n Till.c) ∧
                    Alloc h_787 (.cells #[.int .i64 0] 3) fun b146 h_788 =>
                    (Ld .sl h_788 (p9.add 2) fun (Clock142 : Sl) => (.slice Clock142.a Clock142.n Clock142.c : Value) = .slice Clock.a Clock.n Clock.c) ∧
                    (Ld .sl h_788 (p10.add 3) fun (Round178 : Sl) => (.slice Round178.a Round178.n Round178.c : Value) = .slice Round.a Round.n Round.c) ∧
                    (Ld .sl h_788 (p11.add 4) fun (Began247 : Sl) => (.slice Began247.a Began247.n Began247.c : Value) = .slice Began.a Began.n Began.c) ∧
                    (Ld .sl h_788 (p12.add 5) fun (Till334 : Sl) => (.slice Till334.a Till334.n Till334.c : Value) = .slice Till.a Till.n Till.c) ∧
                    App Try.prog 51 51 Round ⟨some b146, 1, 1⟩ h_788 fun s285 h_789 =>
                    (Ld .sl h_789 (p11.add 4) fun (Began248 : Sl) => (.slice Began248.a Began248.n Began248.c : Value) = .slice Began.a Began.n Began.c) ∧
                    (Ld .sl h_789 (p12.add 5) fun (Till335 : Sl) => (.slice Till335.a Till335.n Till335.c : Value) = .slice Till.a Till.n Till.c) ∧
                    App Try.prog 51 51 Began ⟨some b120, 1, 1⟩ h_789 fun s286 h_790 =>
                    (Ld .sl h_790 (p12.add 5) fun (Till336 : Sl) => (.slice Till336.a Till336.n Till336.c : Value) = .slice Till.a Till.n Till.c) ∧
                    App Try.prog 51 51 Till ⟨some b144, 1, 1⟩ h_790 fun s287 h_791 =>
                    Nn (some p) fun p361 =>
                    St h_791 (p361.add 2) (.slice s284.a s284.n s284.c) fun h_792 =>
                    Nn (some p) fun p362 =>
                    St h_792 (p362.add 3) (.slice s285.a s285.n s285.c) fun h_793 =>
                    Nn (some p) fun p363 =>
                    St h_793 (p363.add 4) (.slice s286.a s286.n s286.c) fun h_794 =>
                    Nn (some p) fun p364 =>
                    St h_794 (p364.add 5) (.slice s287.a s287.n s287.c) fun h_795 =>
                    J  h_795
                  ) ∧
                  (
                    Alloc h_786 (.cells #[.int .i64 0] 3) fun b147 h_796 =>
                    (Ld .sl h_796 (p9.add 2) fun (Clock143 : Sl) => (.slice Clock143.a Clock143.n Clock143.c : Value) = .slice Clock.a Clock.n Clock.c) ∧
                    (Ld .sl h_796 (p10.add 3) fun (Round179 : Sl) => (.slice Round179.a Round179.n Round179.c : Value) = .slice Round.a Round.n Round.c) ∧
                    (Ld .sl h_796 (p11.add 4) fun (Began249 : Sl) => (.slice Began249.a Began249.n Began249.c : Value) = .slice Began.a Began.n Began.c) ∧
                    (Ld .sl h_796 (p12.add 5) fun (Till337 : Sl) => (.slice Till337.a Till337.n Till337.c : Value) = .slice Till.a Till.n Till.c) ∧
                    App Try.prog 51 51 Clock ⟨some b145, 1, 1⟩ h_796 fun s288 h_797 =>
                    (Ld .sl h_797 (p10.add 3) fun (Round180 : Sl) => (.slice Round180.a Round180.n Round180.c : Value) = .slice Round.a Round.n Round.c) ∧
                    (Ld .sl h_797 (p11.add 4) fun (Began250 : Sl) => (.slice Began250.a Began250.n Began250.c : Value) = .slice Began.a Began.n Began.c) ∧
                    (Ld .sl h_797 (p12.add 5) fun (Till338 : Sl) => (.slice Till338.a Till338.n Till338.c : Value) = .slice Till.a Till.n Till.c) ∧
                    App Try.prog 51 51 Round ⟨some b147, 1, 1⟩ h_797 fun s289 h_798 =>
                    (Ld .sl h_798 (p11.add 4) fun (Began251 : Sl) => (.slice Began251.a Began251.n Began251.c : Value) = .slice Began.a Began.n Began.c) ∧
                    (Ld .sl h_798 (p12.add 5) fun (Till339 : Sl) => (.slice Till339.a Till339.n Till339.c : Value) = .slice Till.a Till.n Till.c) ∧
                    App Try.prog 51 51 Began ⟨some b120, 1, 1⟩ h_798 fun s290 h_799 =>
                    (Ld .sl h_799 (p12.add 5) fun (Till340 : Sl) => (.slice Till340.a Till340.n Till340.c : Value) = .slice Till.a Till.n Till.c) ∧
                    App Try.prog 51 51 Till ⟨some b144, 1, 1⟩ h_799 fun s291 h_800 =>
                    Nn (some p) fun p365 =>
                    St h_800 (p365.add 2) (.slice s288.a s288.n s288.c) fun h_801 =>
                    Nn (some p) fun p366 =>
                    St h_801 (p366.add 3) (.slice s289.a s289.n s289.c) fun h_802 =>
                    Nn (some p) fun p367 =>
                    St h_802 (p367.add 4) (.slice s290.a s290.n s290.c) fun h_803 =>
                    Nn (some p) fun p368 =>
                    St h_803 (p368.add 5) (.slice s291.a s291.n s291.c) fun h_804 =>
                    J  h_804
                  )
                ) ∧
                (
                  Alloc h_785 (.cells #[.int .i64 0] 3) fun b148 h_805 =>
                  (Ld .sl h_805 (p9.add 2) fun (Clock144 : Sl) => (.slice Clock144.a Clock144.n Clock144.c : Value) = .slice Clock.a Clock.n Clock.c) ∧
                  (Ld .sl h_805 (p10.add 3) fun (Round181 : Sl) => (.slice Round181.a Round181.n Round181.c : Value) = .slice Round.a Round.n Round.c) ∧
                  (Ld .sl h_805 (p11.add 4) fun (Began252 : Sl) => (.slice Began252.a Began252.n Began252.c : Value) = .slice Began.a Began.n Began.c) ∧
                  (Ld .sl h_805 (p12.add 5) fun (Till341 : Sl) => (.slice Till341.a Till341.n Till341.c : Value) = .slice Till.a Till.n Till.c) ∧
                  Alloc h_805 (.cells #[.int .i64 0] 3) fun b149 h_806 =>
                  (Ld .sl h_806 (p9.add 2) fun (Clock145 : Sl) => (.slice Clock145.a Clock145.n Clock145.c : Value) = .slice Clock.a Clock.n Clock.c) ∧
                  (Ld .sl h_806 (p10.add 3) fun (Round182 : Sl) => (.slice Round182.a Round182.n Round182.c : Value) = .slice Round.a Round.n Round.c) ∧
                  (Ld .sl h_806 (p11.add 4) fun (Began253 : Sl) => (.slice Began253.a Began253.n Began253.c : Value) = .slice Began.a Began.n Began.c) ∧
                  (Ld .sl h_806 (p12.add 5) fun (Till342 : Sl) => (.slice Till342.a Till342.n Till342.c : Value) = .slice Till.a Till.n Till.c) ∧
                  App Try.prog 51 51 Clock ⟨some b149, 1, 1⟩ h_806 fun s292 h_807 =>
                  (Ld .sl h_807 (p10.add 3) fun (Round183 : Sl) => (.slice Round183.a Round183.n Round183.c : Value) = .slice Round.a Round.n Round.c) ∧
                  (Ld .sl h_807 (p11.add 4) fun (Began254 : Sl) => (.slice Began254.a Began254.n Began254.c : Value) = .slice Began.a Began.n Began.c) ∧
                  (Ld .sl h_807 (p12.add 5) fun (Till343 : Sl) => (.slice Till343.a Till343.n Till343.c : Value) = .slice Till.a Till.n Till.c) ∧
                  App Try.prog 51 51 Round ⟨some b148, 1, 1⟩ h_807 fun s293 h_808 =>
                  (Ld .sl h_808 (p11.add 4) fun (Began255 : Sl) => (.slice Began255.a Began255.n Began255.c : Value) = .slice Began.a Began.n Began.c) ∧
                  (Ld .sl h_808 (p12.add 5) fun (Till344 : Sl) => (.slice Till344.a Till344.n Till344.c : Value) = .slice Till.a Till.n Till.c) ∧
                  App Try.prog 51 51 Began ⟨some b120, 1, 1⟩ h_808 fun s294 h_809 =>
                  (Ld .sl h_809 (p12.add 5) fun (Till345 : Sl) => (.slice Till345.a Till345.n Till345.c : Value) = .slice Till.a Till.n Till.c) ∧
                  App Try.prog 51 51 Till ⟨some b144, 1, 1⟩ h_809 fun s295 h_810 =>
                  Nn (some p) fun p369 =>
                  St h_810 (p369.add 2) (.slice s292.a s292.n s292.c) fun h_811 =>
                  Nn (some p) fun p370 =>
                  St h_811 (p370.add 3) (.slice s293.a s293.n s293.c) fun h_812 =>
                  Nn (some p) fun p371 =>
                  St h_812 (p371.add 4) (.slice s294.a s294.n s294.c) fun h_813 =>
                  Nn (some p) fun p372 =>
                  St h_813 (p372.add 5) (.slice s295.a s295.n s295.c) fun h_814 =>
                  J  h_814
                )
              )
            )
          ) ∧
          (
            Alloc h_1 (.cells #[.int .i64 0] 3) fun b150 h_815 =>
            (Ld .sl h_815 (p9.add 2) fun (Clock146 : Sl) => (.slice Clock146.a Clock146.n Clock146.c : Value) = .slice Clock.a Clock.n Clock.c) ∧
            (Ld .sl h_815 (p10.add 3) fun (Round184 : Sl) => (.slice Round184.a Round184.n Round184.c : Value) = .slice Round.a Round.n Round.c) ∧
            (Ld .sl h_815 (p11.add 4) fun (Began256 : Sl) => (.slice Began256.a Began256.n Began256.c : Value) = .slice Began.a Began.n Began.c) ∧
            (Ld .sl h_815 (p12.add 5) fun (Till346 : Sl) => (.slice Till346.a Till346.n Till346.c : Value) = .slice Till.a Till.n Till.c) ∧
            (
              Alloc h_815 (.cells #[.int .i64 0] 3) fun b151 h_816 =>
              (Ld .sl h_816 (p9.add 2) fun (Clock147 : Sl) => (.slice Clock147.a Clock147.n Clock147.c : Value) = .slice Clock.a Clock.n Clock.c) ∧
              (Ld .sl h_816 (p10.add 3) fun (Round185 : Sl) => (.slice Round185.a Round185.n Round185.c : Value) = .slice Round.a Round.n Round.c) ∧
              (Ld .sl h_816 (p11.add 4) fun (Began257 : Sl) => (.slice Began257.a Began257.n Began257.c : Value) = .slice Began.a Began.n Began.c) ∧
              (Ld .sl h_816 (p12.add 5) fun (Till347 : Sl) => (.slice Till347.a Till347.n Till347.c : Value) = .slice Till.a Till.n Till.c) ∧
              (
                App Try.prog 51 51 Clock ⟨some b151, 1, 1⟩ h_816 fun s296 h_817 =>
                (Ld .sl h_817 (p10.add 3) fun (Round186 : Sl) => (.slice Round186.a Round186.n Round186.c : Value) = .slice Round.a Round.n Round.c) ∧
                (Ld .sl h_817 (p11.add 4) fun (Began258 : Sl) => (.slice Began258.a Began258.n Began258.c : Value) = .slice Began.a Began.n Began.c) ∧
                (Ld .sl h_817 (p12.add 5) fun (Till348 : Sl) => (.slice Till348.a Till348.n Till348.c : Value) = .slice Till.a Till.n Till.c) ∧
                (
                  Alloc h_817 (.cells #[.int .i64 0] 3) fun b152 h_818 =>
                  (Ld .sl h_818 (p9.add 2) fun (Clock148 : Sl) => (.slice Clock148.a Clock148.n Clock148.c : Value) = .slice Clock.a Clock.n Clock.c) ∧
                  (Ld .sl h_818 (p10.add 3) fun (Round187 : Sl) => (.slice Round187.a Round187.n Round187.c : Value) = .slice Round.a Round.n Round.c) ∧
                  (Ld .sl h_818 (p11.add 4) fun (Began259 : Sl) => (.slice Began259.a Began259.n Began259.c : Value) = .slice Began.a Began.n Began.c) ∧
                  (Ld .sl h_818 (p12.add 5) fun (Till349 : Sl) => (.slice Till349.a Till349.n Till349.c : Value) = .slice Till.a Till.n Till.c) ∧
                  (
                    App Try.prog 51 51 Round ⟨some b152, 1, 1⟩ h_818 fun s297 h_819 =>
                    (Ld .sl h_819 (p11.add 4) fun (Began260 : Sl) => (.slice Began260.a Began260.n Began260.c : Value) = .slice Began.a Began.n Began.c) ∧
                    (Ld .sl h_819 (p12.add 5) fun (Till350 : Sl) => (.slice Till350.a Till350.n Till350.c : Value) = .slice Till.a Till.n Till.c) ∧
                    Alloc h_819 (.cells #[.int .i64 0] 3) fun b153 h_820 =>
                    (Ld .sl h_820 (p9.add 2) fun (Clock149 : Sl) => (.slice Clock149.a Clock149.n Clock149.c : Value) = .slice Clock.a Clock.n Clock.c) ∧
                    (Ld .sl h_820 (p10.add 3) fun (Round188 : Sl) => (.slice Round188.a Round188.n Round188.c : Value) = .slice Round.a Round.n Round.c) ∧
                    (Ld .sl h_820 (p11.add 4) fun (Began261 : Sl) => (.slice Began261.a Began261.n Began261.c : Value) = .slice Began.a Began.n Began.c) ∧
                    (Ld .sl h_820 (p12.add 5) fun (Till351 : Sl) => (.slice Till351.a Till351.n Till351.c : Value) = .slice Till.a Till.n Till.c) ∧
                    App Try.prog 51 51 Began ⟨some b153, 1, 1⟩ h_820 fun s298 h_821 =>
                    (Ld .sl h_821 (p12.add 5) fun (Till352 : Sl) => (.slice Till352.a Till352.n Till352.c : Value) = .slice Till.a Till.n Till.c) ∧
                    App Try.prog 51 51 Till ⟨some b150, 1, 1⟩ h_821 fun s299 h_822 =>
                    Nn (some p) fun p373 =>
                    St h_822 (p373.add 2) (.slice s296.a s296.n s296.c) fun h_823 =>
                    Nn (some p) fun p374 =>
                    St h_823 (p374.add 3) (.slice s297.a s297.n s297.c) fun h_824 =>
                    Nn (some p) fun p375 =>
                    St h_824 (p375.add 4) (.slice s298.a s298.n s298.c) fun h_825 =>
                    Nn (some p) fun p376 =>
                    St h_825 (p376.add 5) (.slice s299.a s299.n s299.c) fun h_826 =>
                    J  h_826
                  ) ∧
                  (
                    Alloc h_818 (.cells #[.int .i64 0] 3) fun b154 h_827 =>
                    (Ld .sl h_827 (p9.add 2) fun (Clock150 : Sl) => (.slice Clock150.a Clock150.n Clock150.c : Value) = .slice Clock.a Clock.n Clock.c) ∧
                    (Ld .sl h_827 (p10.add 3) fun (Round189 : Sl) => (.slice Round189.a Round189.n Round189.c : Value) = .slice Round.a Round.n Round.c) ∧
                    (Ld .sl h_827 (p11.add 4) fun (Began262 : Sl) => (.slice Began262.a Began262.n Began262.c : Value) = .slice Began.a Began.n Began.c) ∧
                    (Ld .sl h_827 (p12.add 5) fun (Till353 : Sl) => (.slice Till353.a Till353.n Till353.c : Value) = .slice Till.a Till.n Till.c) ∧
                    App Try.prog 51 51 Round ⟨some b152, 1, 1⟩ h_827 fun s300 h_828 =>
                    (Ld .sl h_828 (p11.add 4) fun (Began263 : Sl) => (.slice Began263.a Began263.n Began263.c : Value) = .slice Began.a Began.n Began.c) ∧
                    (Ld .sl h_828 (p12.add 5) fun (Till354 : Sl) => (.slice Till354.a Till354.n Till354.c : Value) = .slice Till.a Till.n Till.c) ∧
                    App Try.prog 51 51 Began ⟨some b154, 1, 1⟩ h_828 fun s301 h_829 =>
                    (Ld .sl h_829 (p12.add 5) fun (Till355 : Sl) => (.slice Till355.a Till355.n Till355.c : Value) = .slice Till.a Till.n Till.c) ∧
                    App Try.prog 51 51 Till ⟨some b150, 1, 1⟩ h_829 fun s302 h_830 =>
                    Nn (some p) fun p377 =>
                    St h_830 (p377.add 2) (.slice s296.a s296.n s296.c) fun h_831 =>
                    Nn (some p) fun p378 =>
                    St h_831 (p378.add 3) (.slice s300.a s300.n s300.c) fun h_832 =>
                    Nn (some p) fun p379 =>
                    St h_832 (p379.add 4) (.slice s301.a s301.n s301.c) fun h_833 =>
                    Nn (some p) fun p380 =>
                    St h_833 (p380.add 5) (.slice s302.a s302.n s302.c) fun h_834 =>
                    J  h_834
                  )
                ) ∧
                (
                  Alloc h_817 (.cells #[.int .i64 0] 3) fun b155 h_835 =>
                  (Ld .sl h_835 (p9.add 2) fun (Clock151 : Sl) => (.slice Clock151.a Clock151.n Clock151.c : Value) = .slice Clock.a Clock.n Clock.c) ∧
                  (Ld .sl h_835 (p10.add 3) fun (Round190 : Sl) => (.slice Round190.a Round190.n Round190.c : Value) = .slice Round.a Round.n Round.c) ∧
                  (Ld .sl h_835 (p11.add 4) fun (Began264 : Sl) => (.slice Began264.a Began264.n Began264.c : Value) = .slice Began.a Began.n Began.c) ∧
                  (Ld .sl h_835 (p12.add 5) fun (Till356 : Sl) => (.slice Till356.a Till356.n Till356.c : Value) = .slice Till.a Till.n Till.c) ∧
                  Alloc h_835 (.cells #[.int .i64 0] 3) fun b156 h_836 =>
                  (Ld .sl h_836 (p9.add 2) fun (Clock152 : Sl) => (.slice Clock152.a Clock152.n Clock152.c : Value) = .slice Clock.a Clock.n Clock.c) ∧
                  (Ld .sl h_836 (p10.add 3) fun (Round191 : Sl) => (.slice Round191.a Round191.n Round191.c : Value) = .slice Round.a Round.n Round.c) ∧
                  (Ld .sl h_836 (p11.add 4) fun (Began265 : Sl) => (.slice Began265.a Began265.n Began265.c : Value) = .slice Began.a Began.n Began.c) ∧
                  (Ld .sl h_836 (p12.add 5) fun (Till357 : Sl) => (.slice Till357.a Till357.n Till357.c : Value) = .slice Till.a Till.n Till.c) ∧
                  App Try.prog 51 51 Round ⟨some b156, 1, 1⟩ h_836 fun s303 h_837 =>
                  (Ld .sl h_837 (p11.add 4) fun (Began266 : Sl) => (.slice Began266.a Began266.n Began266.c : Value) = .slice Began.a Began.n Began.c) ∧
                  (Ld .sl h_837 (p12.add 5) fun (Till358 : Sl) => (.slice Till358.a Till358.n Till358.c : Value) = .slice Till.a Till.n Till.c) ∧
                  App Try.prog 51 51 Began ⟨some b155, 1, 1⟩ h_837 fun s304 h_838 =>
                  (Ld .sl h_838 (p12.add 5) fun (Till359 : Sl) => (.slice Till359.a Till359.n Till359.c : Value) = .slice Till.a Till.n Till.c) ∧
                  App Try.prog 51 51 Till ⟨some b150, 1, 1⟩ h_838 fun s305 h_839 =>
                  Nn (some p) fun p381 =>
                  St h_839 (p381.add 2) (.slice s296.a s296.n s296.c) fun h_840 =>
                  Nn (some p) fun p382 =>
                  St h_840 (p382.add 3) (.slice s303.a s303.n s303.c) fun h_841 =>
                  Nn (some p) fun p383 =>
                  St h_841 (p383.add 4) (.slice s304.a s304.n s304.c) fun h_842 =>
                  Nn (some p) fun p384 =>
                  St h_842 (p384.add 5) (.slice s305.a s305.n s305.c) fun h_843 =>
                  J  h_843
                )
              ) ∧
              (
                (
                  Alloc h_816 (.cells #[.int .i64 0] 3) fun b157 h_844 =>
                  (Ld .sl h_844 (p9.add 2) fun (Clock153 : Sl) => (.slice Clock153.a Clock153.n Clock153.c : Value) = .slice Clock.a Clock.n Clock.c) ∧
                  (Ld .sl h_844 (p10.add 3) fun (Round192 : Sl) => (.slice Round192.a Round192.n Round192.c : Value) = .slice Round.a Round.n Round.c) ∧
                  (Ld .sl h_844 (p11.add 4) fun (Began267 : Sl) => (.slice Began267.a Began267.n Began267.c : Value) = .slice Began.a Began.n Began.c) ∧
                  (Ld .sl h_844 (p12.add 5) fun (Till360 : Sl) => (.slice Till360.a Till360.n Till360.c : Value) = .slice Till.a Till.n Till.c) ∧
                  (
                    App Try.prog 51 51 Clock ⟨some b151, 1, 1⟩ h_844 fun s306 h_845 =>
                    (Ld .sl h_845 (p10.add 3) fun (Round193 : Sl) => (.slice Round193.a Round193.n Round193.c : Value) = .slice Round.a Round.n Round.c) ∧
                    (Ld .sl h_845 (p11.add 4) fun (Began268 : Sl) => (.slice Began268.a Began268.n Began268.c : Value) = .slice Began.a Began.n Began.c) ∧
                    (Ld .sl h_845 (p12.add 5) fun (Till361 : Sl) => (.slice Till361.a Till361.n Till361.c : Value) = .slice Till.a Till.n Till.c) ∧
                    (
                      App Try.prog 51 51 Round ⟨some b157, 1, 1⟩ h_845 fun s307 h_846 =>
                      (Ld .sl h_846 (p11.add 4) fun (Began269 : Sl) => (.slice Began269.a Began269.n Began269.c : Value) = .slice Began.a Began.n Began.c) ∧
                      (Ld .sl h_846 (p12.add 5) fun (Till362 : Sl) => (.slice Till362.a Till362.n Till362.c : Value) = .slice Till.a Till.n Till.c) ∧
                      Alloc h_846 (.cells #[.int .i64 0] 3) fun b158 h_847 =>
                      (Ld .sl h_847 (p9.add 2) fun (Clock154 : Sl) => (.slice Clock154.a Clock154.n Clock154.c : Value) = .slice Clock.a Clock.n Clock.c) ∧
                      (Ld .sl h_847 (p10.add 3) fun (Round194 : Sl) => (.slice Round194.a Round194.n Round194.c : Value) = .slice Round.a Round.n Round.c) ∧
                      (Ld .sl h_847 (p11.add 4) fun (Began270 : Sl) => (.slice Began270.a Began270.n Began270.c : Value) = .slice Began.a Began.n Began.c) ∧
                      (Ld .sl h_847 (p12.add 5) fun (Till363 : Sl) => (.slice Till363.a Till363.n Till363.c : Value) = .slice Till.a Till.n Till.c) ∧
                      App Try.prog 51 51 Began ⟨some b158, 1, 1⟩ h_847 fun s308 h_848 =>
                      (Ld .sl h_848 (p12.add 5) fun (Till364 : Sl) => (.slice Till364.a Till364.n Till364.c : Value) = .slice Till.a Till.n Till.c) ∧
                      App Try.prog 51 51 Till ⟨some b150, 1, 1⟩ h_848 fun s309 h_849 =>
                      Nn (some p) fun p385 =>
                      St h_849 (p385.add 2) (.slice s306.a s306.n s306.c) fun h_850 =>
                      Nn (some p) fun p386 =>
                      St h_850 (p386.add 3) (.slice s307.a s307.n s307.c) fun h_851 =>
                      Nn (some p) fun p387 =>
                      St h_851 (p387.add 4) (.slice s308.a s308.n s308.c) fun h_852 =>
                      Nn (some p) fun p388 =>
                      St h_852 (p388.add 5) (.slice s309.a s309.n s309.c) fun h_853 =>
                      J  h_853
                    ) ∧
                    (
                      Alloc h_845 (.cells #[.int .i64 0] 3) fun b159 h_854 =>
                      (Ld .sl h_854 (p9.add 2) fun (Clock155 : Sl) => (.slice Clock155.a Clock155.n Clock155.c : Value) = .slice Clock.a Clock.n Clock.c) ∧
                      (Ld .sl h_854 (p10.add 3) fun (Round195 : Sl) => (.slice Round195.a Round195.n Round195.c : Value) = .slice Round.a Round.n Round.c) ∧
                      (Ld .sl h_854 (p11.add 4) fun (Began271 : Sl) => (.slice Began271.a Began271.n Began271.c : Value) = .slice Began.a Began.n Began.c) ∧
                      (Ld .sl h_854 (p12.add 5) fun (Till365 : Sl) => (.slice Till365.a Till365.n Till365.c : Value) = .slice Till.a Till.n Till.c) ∧
                      App Try.prog 51 51 Round ⟨some b157, 1, 1⟩ h_854 fun s310 h_855 =>
                      (Ld .sl h_855 (p11.add 4) fun (Began272 : Sl) => (.slice Began272.a Began272.n Began272.c : Value) = .slice Began.a Began.n Began.c) ∧
                      (Ld .sl h_855 (p12.add 5) fun (Till366 : Sl) => (.slice Till366.a Till366.n Till366.c : Value) = .slice Till.a Till.n Till.c) ∧
                      App Try.prog 51 51 Began ⟨some b159, 1, 1⟩ h_855 fun s311 h_856 =>
                      (Ld .sl h_856 (p12.add 5) fun (Till367 : Sl) => (.slice Till367.a Till367.n Till367.c : Value) = .slice Till.a Till.n Till.c) ∧
                      App Try.prog 51 51 Till ⟨some b150, 1, 1⟩ h_856 fun s312 h_857 =>
                      Nn (some p) fun p389 =>
                      St h_857 (p389.add 2) (.slice s306.a s306.n s306.c) fun h_858 =>
                      Nn (some p) fun p390 =>
                      St h_858 (p390.add 3) (.slice s310.a s310.n s310.c) fun h_859 =>
                      Nn (some p) fun p391 =>
                      St h_859 (p391.add 4) (.slice s311.a s311.n s311.c) fun h_860 =>
                      Nn (some p) fun p392 =>
                      St h_860 (p392.add 5) (.slice s312.a s312.n s312.c) fun h_861 =>
                      J  h_861
                    )
                  ) ∧
                  (
                    Alloc h_844 (.cells #[.int .i64 0] 3) fun b160 h_862 =>
                    (Ld .sl h_862 (p9.add 2) fun (Clock156 : Sl) => (.slice Clock156.a Clock156.n Clock156.c : Value) = .slice Clock.a Clock.n Clock.c) ∧
                    (Ld .sl h_862 (p10.add 3) fun (Round196 : Sl) => (.slice Round196.a Round196.n Round196.c : Value) = .slice Round.a Round.n Round.c) ∧
                    (Ld .sl h_862 (p11.add 4) fun (Began273 : Sl) => (.slice Began273.a Began273.n Began273.c : Value) = .slice Began.a Began.n Began.c) ∧
                    (Ld .sl h_862 (p12.add 5) fun (Till368 : Sl) => (.slice Till368.a Till368.n Till368.c : Value) = .slice Till.a Till.n Till.c) ∧
                    App Try.prog 51 51 Clock ⟨some b151, 1, 1⟩ h_862 fun s313 h_863 =>
                    (Ld .sl h_863 (p10.add 3) fun (Round197 : Sl) => (.slice Round197.a Round197.n Round197.c : Value) = .slice Round.a Round.n Round.c) ∧
                    (Ld .sl h_863 (p11.add 4) fun (Began274 : Sl) => (.slice Began274.a Began274.n Began274.c : Value) = .slice Began.a Began.n Began.c) ∧
                    (Ld .sl h_863 (p12.add 5) fun (Till369 : Sl) => (.slice Till369.a Till369.n Till369.c : Value) = .slice Till.a Till.n Till.c) ∧
                    App Try.prog 51 51 Round ⟨some b157, 1, 1⟩ h_863 fun s314 h_864 =>
                    (Ld .sl h_864 (p11.add 4) fun (Began275 : Sl) => (.slice Began275.a Began275.n Began275.c : Value) = .slice Began.a Began.n Began.c) ∧
                    (Ld .sl h_864 (p12.add 5) fun (Till370 : Sl) => (.slice Till370.a Till370.n Till370.c : Value) = .slice Till.a Till.n Till.c) ∧
                    App Try.prog 51 51 Began ⟨some b160, 1, 1⟩ h_864 fun s315 h_865 =>
                    (Ld .sl h_865 (p12.add 5) fun (Till371 : Sl) => (.slice Till371.a Till371.n Till371.c : Value) = .slice Till.a Till.n Till.c) ∧
                    App Try.prog 51 51 Till ⟨some b150, 1, 1⟩ h_865 fun s316 h_866 =>
                    Nn (some p) fun p393 =>
                    St h_866 (p393.add 2) (.slice s313.a s313.n s313.c) fun h_867 =>
                    Nn (some p) fun p394 =>
                    St h_867 (p394.add 3) (.slice s314.a s314.n s314.c) fun h_868 =>
                    Nn (some p) fun p395 =>
                    St h_868 (p395.add 4) (.slice s315.a s315.n s315.c) fun h_869 =>
                    Nn (some p) fun p396 =>
                    St h_869 (p396.add 5) (.slice s316.a s316.n s316.c) fun h_870 =>
                    J  h_870
                  )
                ) ∧
                (
                  Alloc h_816 (.cells #[.int .i64 0] 3) fun b161 h_871 =>
                  (Ld .sl h_871 (p9.add 2) fun (Clock157 : Sl) => (.slice Clock157.a Clock157.n Clock157.c : Value) = .slice Clock.a Clock.n Clock.c) ∧
                  (Ld .sl h_871 (p10.add 3) fun (Round198 : Sl) => (.slice Round198.a Round198.n Round198.c : Value) = .slice Round.a Round.n Round.c) ∧
                  (Ld .sl h_871 (p11.add 4) fun (Began276 : Sl) => (.slice Began276.a Began276.n Began276.c : Value) = .slice Began.a Began.n Began.c) ∧
                  (Ld .sl h_871 (p12.add 5) fun (Till372 : Sl) => (.slice Till372.a Till372.n Till372.c : Value) = .slice Till.a Till.n Till.c) ∧
                  (
                    App Try.prog 51 51 Clock ⟨some b151, 1, 1⟩ h_871 fun s317 h_872 =>
                    (Ld .sl h_872 (p10.add 3) fun (Round199 : Sl) => (.slice Round199.a Round199.n Round199.c : Value) = .slice Round.a Round.n Round.c) ∧
                    (Ld .sl h_872 (p11.add 4) fun (Began277 : Sl) => (.slice Began277.a Began277.n Began277.c : Value) = .slice Began.a Began.n Began.c) ∧
                    (Ld .sl h_872 (p12.add 5) fun (Till373 : Sl) => (.slice Till373.a Till373.n Till373.c : Value) = .slice Till.a Till.n Till.c) ∧
                    Alloc h_872 (.cells #[.int .i64 0] 3) fun b162 h_873 =>
                    (Ld .sl h_873 (p9.add 2) fun (Clock158 : Sl) => (.slice Clock158.a Clock158.n Clock158.c : Value) = .slice Clock.a Clock.n Clock.c) ∧
                    (Ld .sl h_873 (p10.add 3) fun (Round200 : Sl) => (.slice Round200.a Round200.n Round200.c : Value) = .slice Round.a Round.n Round.c) ∧
                    (Ld .sl h_873 (p11.add 4) fun (Began278 : Sl) => (.slice Began278.a Began278.n Began278.c : Value) = .slice Began.a Began.n Began.c) ∧
                    (Ld .sl h_873 (p12.add 5) fun (Till374 : Sl) => (.slice Till374.a Till374.n Till374.c : Value) = .slice Till.a Till.n Till.c) ∧
                    App Try.prog 51 51 Round ⟨some b162, 1, 1⟩ h_873 fun s318 h_874 =>
                    (Ld .sl h_874 (p11.add 4) fun (Began279 : Sl) => (.slice Began279.a Began279.n Began279.c : Value) = .slice Began.a Began.n Began.c) ∧
                    (Ld .sl h_874 (p12.add 5) fun (Till375 : Sl) => (.slice Till375.a Till375.n Till375.c : Value) = .slice Till.a Till.n Till.c) ∧
                    App Try.prog 51 51 Began ⟨some b161, 1, 1⟩ h_874 fun s319 h_875 =>
                    (Ld .sl h_875 (p12.add 5) fun (Till376 : Sl) => (.slice Till376.a Till376.n Till376.c : Value) = .slice Till.a Till.n Till.c) ∧
                    App Try.prog 51 51 Till ⟨some b150, 1, 1⟩ h_875 fun s320 h_876 =>
                    Nn (some p) fun p397 =>
                    St h_876 (p397.add 2) (.slice s317.a s317.n s317.c) fun h_877 =>
                    Nn (some p) fun p398 =>
                    St h_877 (p398.add 3) (.slice s318.a s318.n s318.c) fun h_878 =>
                    Nn (some p) fun p399 =>
                    St h_878 (p399.add 4) (.slice s319.a s319.n s319.c) fun h_879 =>
                    Nn (some p) fun p400 =>
                    St h_879 (p400.add 5) (.slice s320.a s320.n s320.c) fun h_880 =>
                    J  h_880
                  ) ∧
                  (
                    Alloc h_871 (.cells #[.int .i64 0] 3) fun b163 h_881 =>
                    (Ld .sl h_881 (p9.add 2) fun (Clock159 : Sl) => (.slice Clock159.a Clock159.n Clock159.c : Value) = .slice Clock.a Clock.n Clock.c) ∧
                    (Ld .sl h_881 (p10.add 3) fun (Round201 : Sl) => (.slice Round201.a Round201.n Round201.c : Value) = .slice Round.a Round.n Round.c) ∧
                    (Ld .sl h_881 (p11.add 4) fun (Began280 : Sl) => (.slice Began280.a Began280.n Began280.c : Value) = .slice Began.a Began.n Began.c) ∧
                    (Ld .sl h_881 (p12.add 5) fun (Till377 : Sl) => (.slice Till377.a Till377.n Till377.c : Value) = .slice Till.a Till.n Till.c) ∧
                    App Try.prog 51 51 Clock ⟨some b151, 1, 1⟩ h_881 fun s321 h_882 =>
                    (Ld .sl h_882 (p10.add 3) fun (Round202 : Sl) => (.slice Round202.a Round202.n Round202.c : Value) = .slice Round.a Round.n Round.c) ∧
                    (Ld .sl h_882 (p11.add 4) fun (Began281 : Sl) => (.slice Began281.a Began281.n Began281.c : Value) = .slice Began.a Began.n Began.c) ∧
                    (Ld .sl h_882 (p12.add 5) fun (Till378 : Sl) => (.slice Till378.a Till378.n Till378.c : Value) = .slice Till.a Till.n Till.c) ∧
                    App Try.prog 51 51 Round ⟨some b163, 1, 1⟩ h_882 fun s322 h_883 =>
                    (Ld .sl h_883 (p11.add 4) fun (Began282 : Sl) => (.slice Began282.a Began282.n Began282.c : Value) = .slice Began.a Began.n Began.c) ∧
                    (Ld .sl h_883 (p12.add 5) fun (Till379 : Sl) => (.slice Till379.a Till379.n Till379.c : Value) = .slice Till.a Till.n Till.c) ∧
                    App Try.prog 51 51 Began ⟨some b161, 1, 1⟩ h_883 fun s323 h_884 =>
                    (Ld .sl h_884 (p12.add 5) fun (Till380 : Sl) => (.slice Till380.a Till380.n Till380.c : Value) = .slice Till.a Till.n Till.c) ∧
                    App Try.prog 51 51 Till ⟨some b150, 1, 1⟩ h_884 fun s324 h_885 =>
                    Nn (some p) fun p401 =>
                    St h_885 (p401.add 2) (.slice s321.a s321.n s321.c) fun h_886 =>
                    Nn (some p) fun p402 =>
                    St h_886 (p402.add 3) (.slice s322.a s322.n s322.c) fun h_887 =>
                    Nn (some p) fun p403 =>
                    St h_887 (p403.add 4) (.slice s323.a s323.n s323.c) fun h_888 =>
                    Nn (some p) fun p404 =>
                    St h_888 (p404.add 5) (.slice s324.a s324.n s324.c) fun h_889 =>
                    J  h_889
                  )
                )
              )
            ) ∧
            (
              (
                Alloc h_815 (.cells #[.int .i64 0] 3) fun b164 h_890 =>
                (Ld .sl h_890 (p9.add 2) fun (Clock160 : Sl) => (.slice Clock160.a Clock160.n Clock160.c : Value) = .slice Clock.a Clock.n Clock.c) ∧
                (Ld .sl h_890 (p10.add 3) fun (Round203 : Sl) => (.slice Round203.a Round203.n Round203.c : Value) = .slice Round.a Round.n Round.c) ∧
                (Ld .sl h_890 (p11.add 4) fun (Began283 : Sl) => (.slice Began283.a Began283.n Began283.c : Value) = .slice Began.a Began.n Began.c) ∧
                (Ld .sl h_890 (p12.add 5) fun (Till381 : Sl) => (.slice Till381.a Till381.n Till381.c : Value) = .slice Till.a Till.n Till.c) ∧
                (
                  Alloc h_890 (.cells #[.int .i64 0] 3) fun b165 h_891 =>
                  (Ld .sl h_891 (p9.add 2) fun (Clock161 : Sl) => (.slice Clock161.a Clock161.n Clock161.c : Value) = .slice Clock.a Clock.n Clock.c) ∧
                  (Ld .sl h_891 (p10.add 3) fun (Round204 : Sl) => (.slice Round204.a Round204.n Round204.c : Value) = .slice Round.a Round.n Round.c) ∧
                  (Ld .sl h_891 (p11.add 4) fun (Began284 : Sl) => (.slice Began284.a Began284.n Began284.c : Value) = .slice Began.a Began.n Began.c) ∧
                  (Ld .sl h_891 (p12.add 5) fun (Till382 : Sl) => (.slice Till382.a Till382.n Till382.c : Value) = .slice Till.a Till.n Till.c) ∧
                  (
                    App Try.prog 51 51 Clock ⟨some b165, 1, 1⟩ h_891 fun s325 h_892 =>
                    (Ld .sl h_892 (p10.add 3) fun (Round205 : Sl) => (.slice Round205.a Round205.n Round205.c : Value) = .slice Round.a Round.n Round.c) ∧
                    (Ld .sl h_892 (p11.add 4) fun (Began285 : Sl) => (.slice Began285.a Began285.n Began285.c : Value) = .slice Began.a Began.n Began.c) ∧
                    (Ld .sl h_892 (p12.add 5) fun (Till383 : Sl) => (.slice Till383.a Till383.n Till383.c : Value) = .slice Till.a Till.n Till.c) ∧
                    (
                      App Try.prog 51 51 Round ⟨some b164, 1, 1⟩ h_892 fun s326 h_893 =>
                      (Ld .sl h_893 (p11.add 4) fun (Began286 : Sl) => (.slice Began286.a Began286.n Began286.c : Value) = .slice Began.a Began.n Began.c) ∧
                      (Ld .sl h_893 (p12.add 5) fun (Till384 : Sl) => (.slice Till384.a Till384.n Till384.c : Value) = .slice Till.a Till.n Till.c) ∧
                      Alloc h_893 (.cells #[.int .i64 0] 3) fun b166 h_894 =>
                      (Ld .sl h_894 (p9.add 2) fun (Clock162 : Sl) => (.slice Clock162.a Clock162.n Clock162.c : Value) = .slice Clock.a Clock.n Clock.c) ∧
                      (Ld .sl h_894 (p10.add 3) fun (Round206 : Sl) => (.slice Round206.a Round206.n Round206.c : Value) = .slice Round.a Round.n Round.c) ∧
                      (Ld .sl h_894 (p11.add 4) fun (Began287 : Sl) => (.slice Began287.a Began287.n Began287.c : Value) = .slice Began.a Began.n Began.c) ∧
                      (Ld .sl h_894 (p12.add 5) fun (Till385 : Sl) => (.slice Till385.a Till385.n Till385.c : Value) = .slice Till.a Till.n Till.c) ∧
                      App Try.prog 51 51 Began ⟨some b166, 1, 1⟩ h_894 fun s327 h_895 =>
                      (Ld .sl h_895 (p12.add 5) fun (Till386 : Sl) => (.slice Till386.a Till386.n Till386.c : Value) = .slice Till.a Till.n Till.c) ∧
                      App Try.prog 51 51 Till ⟨some b150, 1, 1⟩ h_895 fun s328 h_896 =>
                      Nn (some p) fun p405 =>
                      St h_896 (p405.add 2) (.slice s325.a s325.n s325.c) fun h_897 =>
                      Nn (some p) fun p406 =>
                      St h_897 (p406.add 3) (.slice s326.a s326.n s326.c) fun h_898 =>
                      Nn (some p) fun p407 =>
                      St h_898 (p407.add 4) (.slice s327.a s327.n s327.c) fun h_899 =>
                      Nn (some p) fun p408 =>
                      St h_899 (p408.add 5) (.slice s328.a s328.n s328.c) fun h_900 =>
                      J  h_900
                    ) ∧
                    (
                      Alloc h_892 (.cells #[.int .i64 0] 3) fun b167 h_901 =>
                      (Ld .sl h_901 (p9.add 2) fun (Clock163 : Sl) => (.slice Clock163.a Clock163.n Clock163.c : Value) = .slice Clock.a Clock.n Clock.c) ∧
                      (Ld .sl h_901 (p10.add 3) fun (Round207 : Sl) => (.slice Round207.a Round207.n Round207.c : Value) = .slice Round.a Round.n Round.c) ∧
                      (Ld .sl h_901 (p11.add 4) fun (Began288 : Sl) => (.slice Began288.a Began288.n Began288.c : Value) = .slice Began.a Began.n Began.c) ∧
                      (Ld .sl h_901 (p12.add 5) fun (Till387 : Sl) => (.slice Till387.a Till387.n Till387.c : Value) = .slice Till.a Till.n Till.c) ∧
                      App Try.prog 51 51 Round ⟨some b164, 1, 1⟩ h_901 fun s329 h_902 =>
                      (Ld .sl h_902 (p11.add 4) fun (Began289 : Sl) => (.slice Began289.a Began289.n Began289.c : Value) = .slice Began.a Began.n Began.c) ∧
                      (Ld .sl h_902 (p12.add 5) fun (Till388 : Sl) => (.slice Till388.a Till388.n Till388.c : Value) = .slice Till.a Till.n Till.c) ∧
                      App Try.prog 51 51 Began ⟨some b167, 1, 1⟩ h_902 fun s330 h_903 =>
                      (Ld .sl h_903 (p12.add 5) fun (Till389 : Sl) => (.slice Till389.a Till389.n Till389.c : Value) = .slice Till.a Till.n Till.c) ∧
                      App Try.prog 51 51 Till ⟨some b150, 1, 1⟩ h_903 fun s331 h_904 =>
                      Nn (some p) fun p409 =>
                      St h_904 (p409.add 2) (.slice s325.a s325.n s325.c) fun h_905 =>
                      Nn (some p) fun p410 =>
                      St h_905 (p410.add 3) (.slice s329.a s329.n s329.c) fun h_906 =>
                      Nn (some p) fun p411 =>
                      St h_906 (p411.add 4) (.slice s330.a s330.n s330.c) fun h_907 =>
                      Nn (some p) fun p412 =>
                      St h_907 (p412.add 5) (.slice s331.a s331.n s331.c) fun h_908 =>
                      J  h_908
                    )
                  ) ∧
                  (
                    Alloc h_891 (.cells #[.int .i64 0] 3) fun b168 h_909 =>
                    (Ld .sl h_909 (p9.add 2) fun (Clock164 : Sl) => (.slice Clock164.a Clock164.n Clock164.c : Value) = .slice Clock.a Clock.n Clock.c) ∧
                    (Ld .sl h_909 (p10.add 3) fun (Round208 : Sl) => (.slice Round208.a Round208.n Round208.c : Value) = .slice Round.a Round.n Round.c) ∧
                    (Ld .sl h_909 (p11.add 4) fun (Began290 : Sl) => (.slice Began290.a Began290.n Began290.c : Value) = .slice Began.a Began.n Began.c) ∧
                    (Ld .sl h_909 (p12.add 5) fun (Till390 : Sl) => (.slice Till390.a Till390.n Till390.c : Value) = .slice Till.a Till.n Till.c) ∧
                    App Try.prog 51 51 Clock ⟨some b165, 1, 1⟩ h_909 fun s332 h_910 =>
                    (Ld .sl h_910 (p10.add 3) fun (Round209 : Sl) => (.slice Round209.a Round209.n Round209.c : Value) = .slice Round.a Round.n Round.c) ∧
                    (Ld .sl h_910 (p11.add 4) fun (Began291 : Sl) => (.slice Began291.a Began291.n Began291.c : Value) = .slice Began.a Began.n Began.c) ∧
                    (Ld .sl h_910 (p12.add 5) fun (Till391 : Sl) => (.slice Till391.a Till391.n Till391.c : Value) = .slice Till.a Till.n Till.c) ∧
                    App Try.prog 51 51 Round ⟨some b164, 1, 1⟩ h_910 fun s333 h_911 =>
                    (Ld .sl h_911 (p11.add 4) fun (Began292 : Sl) => (.slice Began292.a Began292.n Began292.c : Value) = .slice Began.a Began.n Began.c) ∧
                    (Ld .sl h_911 (p12.add 5) fun (Till392 : Sl) => (.slice Till392.a Till392.n Till392.c : Value) = .slice Till.a Till.n Till.c) ∧
                    App Try.prog 51 51 Began ⟨some b168, 1, 1⟩ h_911 fun s334 h_912 =>
                    (Ld .sl h_912 (p12.add 5) fun (Till393 : Sl) => (.slice Till393.a Till393.n Till393.c : Value) = .slice Till.a Till.n Till.c) ∧
                    App Try.prog 51 51 Till ⟨some b150, 1, 1⟩ h_912 fun s335 h_913 =>
                    Nn (some p) fun p413 =>
                    St h_913 (p413.add 2) (.slice s332.a s332.n s332.c) fun h_914 =>
                    Nn (some p) fun p414 =>
                    St h_914 (p414.add 3) (.slice s333.a s333.n s333.c) fun h_915 =>
                    Nn (some p) fun p415 =>
                    St h_915 (p415.add 4) (.slice s334.a s334.n s334.c) fun h_916 =>
                    Nn (some p) fun p416 =>
                    St h_916 (p416.add 5) (.slice s335.a s335.n s335.c) fun h_917 =>
                    J  h_917
                  )
                ) ∧
                (
                  Alloc h_890 (.cells #[.int .i64 0] 3) fun b169 h_918 =>
                  (Ld .sl h_918 (p9.add 2) fun (Clock165 : Sl) => (.slice Clock165.a Clock165.n Clock165.c : Value) = .slice Clock.a Clock.n Clock.c) ∧
                  (Ld .sl h_918 (p10.add 3) fun (Round210 : Sl) => (.slice Round210.a Round210.n Round210.c : Value) = .slice Round.a Round.n Round.c) ∧
                  (Ld .sl h_918 (p11.add 4) fun (Began293 : Sl) => (.slice Began293.a Began293.n Began293.c : Value) = .slice Began.a Began.n Began.c) ∧
                  (Ld .sl h_918 (p12.add 5) fun (Till394 : Sl) => (.slice Till394.a Till394.n Till394.c : Value) = .slice Till.a Till.n Till.c) ∧
                  Alloc h_918 (.cells #[.int .i64 0] 3) fun b170 h_919 =>
                  (Ld .sl h_919 (p9.add 2) fun (Clock166 : Sl) => (.slice Clock166.a Clock166.n Clock166.c : Value) = .slice Clock.a Clock.n Clock.c) ∧
                  (Ld .sl h_919 (p10.add 3) fun (Round211 : Sl) => (.slice Round211.a Round211.n Round211.c : Value) = .slice Round.a Round.n Round.c) ∧
                  (Ld .sl h_919 (p11.add 4) fun (Began294 : Sl) => (.slice Began294.a Began294.n Began294.c : Value) = .slice Began.a Began.n Began.c) ∧
                  (Ld .sl h_919 (p12.add 5) fun (Till395 : Sl) => (.slice Till395.a Till395.n Till395.c : Value) = .slice Till.a Till.n Till.c) ∧
                  App Try.prog 51 51 Clock ⟨some b170, 1, 1⟩ h_919 fun s336 h_920 =>
                  (Ld .sl h_920 (p10.add 3) fun (Round212 : Sl) => (.slice Round212.a Round212.n Round212.c : Value) = .slice Round.a Round.n Round.c) ∧
                  (Ld .sl h_920 (p11.add 4) fun (Began295 : Sl) => (.slice Began295.a Began295.n Began295.c : Value) = .slice Began.a Began.n Began.c) ∧
                  (Ld .sl h_920 (p12.add 5) fun (Till396 : Sl) => (.slice Till396.a Till396.n Till396.c : Value) = .slice Till.a Till.n Till.c) ∧
                  App Try.prog 51 51 Round ⟨some b164, 1, 1⟩ h_920 fun s337 h_921 =>
                  (Ld .sl h_921 (p11.add 4) fun (Began296 : Sl) => (.slice Began296.a Began296.n Began296.c : Value) = .slice Began.a Began.n Began.c) ∧
                  (Ld .sl h_921 (p12.add 5) fun (Till397 : Sl) => (.slice Till397.a Till397.n Till397.c : Value) = .slice Till.a Till.n Till.c) ∧
                  App Try.prog 51 51 Began ⟨some b169, 1, 1⟩ h_921 fun s338 h_922 =>
                  (Ld .sl h_922 (p12.add 5) fun (Till398 : Sl) => (.slice Till398.a Till398.n Till398.c : Value) = .slice Till.a Till.n Till.c) ∧
                  App Try.prog 51 51 Till ⟨some b150, 1, 1⟩ h_922 fun s339 h_923 =>
                  Nn (some p) fun p417 =>
                  St h_923 (p417.add 2) (.slice s336.a s336.n s336.c) fun h_924 =>
                  Nn (some p) fun p418 =>
                  St h_924 (p418.add 3) (.slice s337.a s337.n s337.c) fun h_925 =>
                  Nn (some p) fun p419 =>
                  St h_925 (p419.add 4) (.slice s338.a s338.n s338.c) fun h_926 =>
                  Nn (some p) fun p420 =>
                  St h_926 (p420.add 5) (.slice s339.a s339.n s339.c) fun h_927 =>
                  J  h_927
                )
              ) ∧
              (
                Alloc h_815 (.cells #[.int .i64 0] 3) fun b171 h_928 =>
                (Ld .sl h_928 (p9.add 2) fun (Clock167 : Sl) => (.slice Clock167.a Clock167.n Clock167.c : Value) = .slice Clock.a Clock.n Clock.c) ∧
                (Ld .sl h_928 (p10.add 3) fun (Round213 : Sl) => (.slice Round213.a Round213.n Round213.c : Value) = .slice Round.a Round.n Round.c) ∧
                (Ld .sl h_928 (p11.add 4) fun (Began297 : Sl) => (.slice Began297.a Began297.n Began297.c : Value) = .slice Began.a Began.n Began.c) ∧
                (Ld .sl h_928 (p12.add 5) fun (Till399 : Sl) => (.slice Till399.a Till399.n Till399.c : Value) = .slice Till.a Till.n Till.c) ∧
                (
                  Alloc h_928 (.cells #[.int .i64 0] 3) fun b172 h_929 =>
                  (Ld .sl h_929 (p9.add 2) fun (Clock168 : Sl) => (.slice Clock168.a Clock168.n Clock168.c : Value) = .slice Clock.a Clock.n Clock.c) ∧
                  (Ld .sl h_929 (p10.add 3) fun (Round214 : Sl) => (.slice Round214.a Round214.n Round214.c : Value) = .slice Round.a Round.n Round.c) ∧
                  (Ld .sl h_929 (p11.add 4) fun (Began298 : Sl) => (.slice Began298.a Began298.n Began298.c : Value) = .slice Began.a Began.n Began.c) ∧
                  (Ld .sl h_929 (p12.add 5) fun (Till400 : Sl) => (.slice Till400.a Till400.n Till400.c : Value) = .slice Till.a Till.n Till.c) ∧
                  (
                    App Try.prog 51 51 Clock ⟨some b172, 1, 1⟩ h_929 fun s340 h_930 =>
                    (Ld .sl h_930 (p10.add 3) fun (Round215 : Sl) => (.slice Round215.a Round215.n Round215.c : Value) = .slice Round.a Round.n Round.c) ∧
                    (Ld .sl h_930 (p11.add 4) fun (Began299 : Sl) => (.slice Began299.a Began299.n Began299.c : Value) = .slice Began.a Began.n Began.c) ∧
                    (Ld .sl h_930 (p12.add 5) fun (Till401 : Sl) => (.slice Till401.a Till401.n Till401.c : Value) = .slice Till.a Till.n Till.c) ∧
                    Alloc h_930 (.cells #[.int .i64 0] 3) fun b173 h_931 =>
                    (Ld .sl h_931 (p9.add 2) fun (Clock169 : Sl) => (.slice Clock169.a Clock169.n Clock169.c : Value) = .slice Clock.a Clock.n Clock.c) ∧
                    (Ld .sl h_931 (p10.add 3) fun (Round216 : Sl) => (.slice Round216.a Round216.n Round216.c : Value) = .slice Round.a Round.n Round.c) ∧
                    (Ld .sl h_931 (p11.add 4) fun (Began300 : Sl) => (.slice Began300.a Began300.n Began300.c : Value) = .slice Began.a Began.n Began.c) ∧
                    (Ld .sl h_931 (p12.add 5) fun (Till402 : Sl) => (.slice Till402.a Till402.n Till402.c : Value) = .slice Till.a Till.n Till.c) ∧
                    App Try.prog 51 51 Round ⟨some b173, 1, 1⟩ h_931 fun s341 h_932 =>
                    (Ld .sl h_932 (p11.add 4) fun (Began301 : Sl) => (.slice Began301.a Began301.n Began301.c : Value) = .slice Began.a Began.n Began.c) ∧
                    (Ld .sl h_932 (p12.add 5) fun (Till403 : Sl) => (.slice Till403.a Till403.n Till403.c : Value) = .slice Till.a Till.n Till.c) ∧
                    App Try.prog 51 51 Began ⟨some b171, 1, 1⟩ h_932 fun s342 h_933 =>
                    (Ld .sl h_933 (p12.add 5) fun (Till404 : Sl) => (.slice Till404.a Till404.n Till404.c : Value) = .slice Till.a Till.n Till.c) ∧
                    App Try.prog 51 51 Till ⟨some b150, 1, 1⟩ h_933 fun s343 h_934 =>
                    Nn (some p) fun p421 =>
                    St h_934 (p421.add 2) (.slice s340.a s340.n s340.c) fun h_935 =>
                    Nn (some p) fun p422 =>
                    St h_935 (p422.add 3) (.slice s341.a s341.n s341.c) fun h_936 =>
                    Nn (some p) fun p423 =>
                    St h_936 (p423.add 4) (.slice s342.a s342.n s342.c) fun h_937 =>
                    Nn (some p) fun p424 =>
                    St h_937 (p424.add 5) (.slice s343.a s343.n s343.c) fun h_938 =>
                    J  h_938
                  ) ∧
                  (
                    Alloc h_929 (.cells #[.int .i64 0] 3) fun b174 h_939 =>
                    (Ld .sl h_939 (p9.add 2) fun (Clock170 : Sl) => (.slice Clock170.a Clock170.n Clock170.c : Value) = .slice Clock.a Clock.n Clock.c) ∧
                    (Ld .sl h_939 (p10.add 3) fun (Round217 : Sl) => (.slice Round217.a Round217.n Round217.c : Value) = .slice Round.a Round.n Round.c) ∧
                    (Ld .sl h_939 (p11.add 4) fun (Began302 : Sl) => (.slice Began302.a Began302.n Began302.c : Value) = .slice Began.a Began.n Began.c) ∧
                    (Ld .sl h_939 (p12.add 5) fun (Till405 : Sl) => (.slice Till405.a Till405.n Till405.c : Value) = .slice Till.a Till.n Till.c) ∧
                    App Try.prog 51 51 Clock ⟨some b172, 1, 1⟩ h_939 fun s344 h_940 =>
                    (Ld .sl h_940 (p10.add 3) fun (Round218 : Sl) => (.slice Round218.a Round218.n Round218.c : Value) = .slice Round.a Round.n Round.c) ∧
                    (Ld .sl h_940 (p11.add 4) fun (Began303 : Sl) => (.slice Began303.a Began303.n Began303.c : Value) = .slice Began.a Began.n Began.c) ∧
                    (Ld .sl h_940 (p12.add 5) fun (Till406 : Sl) => (.slice Till406.a Till406.n Till406.c : Value) = .slice Till.a Till.n Till.c) ∧
                    App Try.prog 51 51 Round ⟨some b174, 1, 1⟩ h_940 fun s345 h_941 =>
                    (Ld .sl h_941 (p11.add 4) fun (Began304 : Sl) => (.slice Began304.a Began304.n Began304.c : Value) = .slice Began.a Began.n Began.c) ∧
                    (Ld .sl h_941 (p12.add 5) fun (Till407 : Sl) => (.slice Till407.a Till407.n Till407.c : Value) = .slice Till.a Till.n Till.c) ∧
                    App Try.prog 51 51 Began ⟨some b171, 1, 1⟩ h_941 fun s346 h_942 =>
                    (Ld .sl h_942 (p12.add 5) fun (Till408 : Sl) => (.slice Till408.a Till408.n Till408.c : Value) = .slice Till.a Till.n Till.c) ∧
                    App Try.prog 51 51 Till ⟨some b150, 1, 1⟩ h_942 fun s347 h_943 =>
                    Nn (some p) fun p425 =>
                    St h_943 (p425.add 2) (.slice s344.a s344.n s344.c) fun h_944 =>
                    Nn (some p) fun p426 =>
                    St h_944 (p426.add 3) (.slice s345.a s345.n s345.c) fun h_945 =>
                    Nn (some p) fun p427 =>
                    St h_945 (p427.add 4) (.slice s346.a s346.n s346.c) fun h_946 =>
                    Nn (some p) fun p428 =>
                    St h_946 (p428.add 5) (.slice s347.a s347.n s347.c) fun h_947 =>
                    J  h_947
                  )
                ) ∧
                (
                  Alloc h_928 (.cells #[.int .i64 0] 3) fun b175 h_948 =>
                  (Ld .sl h_948 (p9.add 2) fun (Clock171 : Sl) => (.slice Clock171.a Clock171.n Clock171.c : Value) = .slice Clock.a Clock.n Clock.c) ∧
                  (Ld .sl h_948 (p10.add 3) fun (Round219 : Sl) => (.slice Round219.a Round219.n Round219.c : Value) = .slice Round.a Round.n Round.c) ∧
                  (Ld .sl h_948 (p11.add 4) fun (Began305 : Sl) => (.slice Began305.a Began305.n Began305.c : Value) = .slice Began.a Began.n Began.c) ∧
                  (Ld .sl h_948 (p12.add 5) fun (Till409 : Sl) => (.slice Till409.a Till409.n Till409.c : Value) = .slice Till.a Till.n Till.c) ∧
                  Alloc h_948 (.cells #[.int .i64 0] 3) fun b176 h_949 =>
                  (Ld .sl h_949 (p9.add 2) fun (Clock172 : Sl) => (.slice Clock172.a Clock172.n Clock172.c : Value) = .slice Clock.a Clock.n Clock.c) ∧
                  (Ld .sl h_949 (p10.add 3) fun (Round220 : Sl) => (.slice Round220.a Round220.n Round220.c : Value) = .slice Round.a Round.n Round.c) ∧
                  (Ld .sl h_949 (p11.add 4) fun (Began306 : Sl) => (.slice Began306.a Began306.n Began306.c : Value) = .slice Began.a Began.n Began.c) ∧
                  (Ld .sl h_949 (p12.add 5) fun (Till410 : Sl) => (.slice Till410.a Till410.n Till410.c : Value) = .slice Till.a Till.n Till.c) ∧
                  App Try.prog 51 51 Clock ⟨some b176, 1, 1⟩ h_949 fun s348 h_950 =>
                  (Ld .sl h_950 (p10.add 3) fun (Round221 : Sl) => (.slice Round221.a Round221.n Round221.c : Value) = .slice Round.a Round.n Round.c) ∧
                  (Ld .sl h_950 (p11.add 4) fun (Began307 : Sl) => (.slice Began307.a Began307.n Began307.c : Value) = .slice Began.a Began.n Began.c) ∧
                  (Ld .sl h_950 (p12.add 5) fun (Till411 : Sl) => (.slice Till411.a Till411.n Till411.c : Value) = .slice Till.a Till.n Till.c) ∧
                  App Try.prog 51 51 Round ⟨some b175, 1, 1⟩ h_950 fun s349 h_951 =>
                  (Ld .sl h_951 (p11.add 4) fun (Began308 : Sl) => (.slice Began308.a Began308.n Began308.c : Value) = .slice Began.a Began.n Began.c) ∧
                  (Ld .sl h_951 (p12.add 5) fun (Till412 : Sl) => (.slice Till412.a Till412.n Till412.c : Value) = .slice Till.a Till.n Till.c) ∧
                  App Try.prog 51 51 Began ⟨some b171, 1, 1⟩ h_951 fun s350 h_952 =>
                  (Ld .sl h_952 (p12.add 5) fun (Till413 : Sl) => (.slice Till413.a Till413.n Till413.c : Value) = .slice Till.a Till.n Till.c) ∧
                  App Try.prog 51 51 Till ⟨some b150, 1, 1⟩ h_952 fun s351 h_953 =>
                  Nn (some p) fun p429 =>
                  St h_953 (p429.add 2) (.slice s348.a s348.n s348.c) fun h_954 =>
                  Nn (some p) fun p430 =>
                  St h_954 (p430.add 3) (.slice s349.a s349.n s349.c) fun h_955 =>
                  Nn (some p) fun p431 =>
                  St h_955 (p431.add 4) (.slice s350.a s350.n s350.c) fun h_956 =>
                  Nn (some p) fun p432 =>
                  St h_956 (p432.add 5) (.slice s351.a s351.n s351.c) fun h_957 =>
                  J  h_957
                )
              )
            )
          )
        )
      )
    else
      R (some p) h_1
    )
    ) (0, ()) h_
theorem E_ref30_New (n : Int) (length : Int) (skew : Int) (h : Heap) (R : Option Addr → Heap → Prop) :
    VF Try.prog [(58, [(8, .one (.int .i64))]), (1864, [])] Try.f25 [.int .i64 n, .int .i64 length, .int .i64 skew] h [.one .ptr] R = S_ref30_New n length skew h R := by kernel_rfl
theorem A_ref30_New {n : Int} {length : Int} {skew : Int} {h : Heap} {R : Option Addr → Heap → Prop} (hs : S_ref30_New n length skew h R) : C_ref30_New n length skew h R :=
  use_ Try.func25 (by kernel_rfl) (E_ref30_New n length skew h R) hs

end Go.Proofs.Ytegbnmaglkpkjaa
