/- Eq13, Eq13w, Eq13x, Eq13c. -/
import Derived.Test.YtpopildnbgbhlaaGreatDoorPU
import Derived.Test.YtpopildnbgbhlaaGreatDoorFD
namespace Go.Proofs.Zz
open Go Go.Sy
set_option linter.unusedVariables false
set_option maxHeartbeats 0
set_option maxRecDepth 100000
abbrev _root_.Go.Sy.Ty.i : Go.Sy.Ty := .int .i64
abbrev _root_.Go.Sy.SK.i : Go.Sy.SK := .int .i64
abbrev n0 : Nat := 18446761807629516800
abbrev n1 : Nat := 18446761945068470288
abbrev n2 : Nat := 18446761945068470272
abbrev n3 : Nat := 18446761738910040064
abbrev n4 : Nat := 79228238976018540853555363840
abbrev n5 : Nat := 18446761876348993536
abbrev n6 : Nat := 18447060874792271872
abbrev n7 : Nat := 18447114201106219008
abbrev n8 : Nat := 340288210869433754576934048087100358656
abbrev n9 : Nat := 340289194566299531682949609528787730432
abbrev n10 : Nat := 79228767881064622257819297952
abbrev n11 : Nat := 18446955252956532784
abbrev n12 : Nat := 18446955256956528864
abbrev n13 : Nat := 18446955256956528865
abbrev n14 : Nat := 18446955256956528866
abbrev n15 : Nat := 18446955256956528867
abbrev n16 : Nat := 18446955256956528868
abbrev n17 : Nat := 18446955256956528869
abbrev n18 : Nat := 18446955256956528870
abbrev n19 : Nat := 18446955256956528871
abbrev n20 : Nat := 18446973051301003264
abbrev n21 : Nat := 18446973051301011600
abbrev n22 : Nat := 18446990437328617472
abbrev n23 : Nat := 79229220637951167591212591554
abbrev n24 : Nat := 79229220637951167591212591552
abbrev n25 : Nat := 79229220637951167591212591553
abbrev n26 : Nat := 79229220637951167591212591586
abbrev n27 : Nat := 79229220637951167591212591584
abbrev n28 : Nat := 79229220637951167591212591585
abbrev n29 : Nat := 79229220637951167591212591555
abbrev n30 : Nat := 79229220637951167591212591587
abbrev n31 : Nat := 79229220637951167591212591556
abbrev n32 : Nat := 79229220637951167591212591588
abbrev n33 : Nat := 79229220637951167591212591557
abbrev n34 : Nat := 79229220637951167591212591589
abbrev n35 : Nat := 79229220637951167591212591558
abbrev n36 : Nat := 79229220637951167591212591590
abbrev n37 : Nat := 79229220637951167591212591559
abbrev n38 : Nat := 79229220637951167591212591591
abbrev n39 : Nat := 79229220637951167591212591560
abbrev n40 : Nat := 79229220637951167591212591592
abbrev n41 : Nat := 79229220637951167587212591104
abbrev n42 : Nat := 18446849699840266288
abbrev n43 : Nat := 18446849703840262368
abbrev n44 : Nat := 18446849703840262369
abbrev n45 : Nat := 18446849703840262370
abbrev n46 : Nat := 18446849703840262371
abbrev n47 : Nat := 18446849703840262372
abbrev n48 : Nat := 18446849703840262373
abbrev n49 : Nat := 18446849703840262374
abbrev n50 : Nat := 18446849703840262375
abbrev n51 : Nat := 18446849703840262376
abbrev n52 : Nat := 18446885025651304896
abbrev n53 : Nat := 18446885025651304897
abbrev n54 : Nat := 18446885025651304928
abbrev n55 : Nat := 18446885025651304929
abbrev n56 : Nat := 18446885025651304898
abbrev n57 : Nat := 18446885025651304930
abbrev n58 : Nat := 18446885025651304899
abbrev n59 : Nat := 18446885025651304931
abbrev n60 : Nat := 18446885025651304900
abbrev n61 : Nat := 18446885025651304932
abbrev n62 : Nat := 18446885025651304901
abbrev n63 : Nat := 18446885025651304933
abbrev n64 : Nat := 18446885025651304902
abbrev n65 : Nat := 18446885025651304934
abbrev n66 : Nat := 18446885025651304903
abbrev n67 : Nat := 18446885025651304935
abbrev n68 : Nat := 18446885025651304936
abbrev n69 : Nat := 18446902476398395392
abbrev n70 : Nat := 79228842848632538019595495874
abbrev n71 : Nat := 79228842848632538019595495872
abbrev n72 : Nat := 79228842848632538019595495873
abbrev n73 : Nat := 79228842848632538019595495906
abbrev n74 : Nat := 79228842848632538019595495904
abbrev n75 : Nat := 79228842848632538019595495905
abbrev n76 : Nat := 79228842848632538019595495875
abbrev n77 : Nat := 79228842848632538019595495907
abbrev n78 : Nat := 79228842848632538019595495876
abbrev n79 : Nat := 79228842848632538019595495908
abbrev n80 : Nat := 79228842848632538019595495877
abbrev n81 : Nat := 79228842848632538019595495909
abbrev n82 : Nat := 79228842848632538019595495878
abbrev n83 : Nat := 79228842848632538019595495910
abbrev n84 : Nat := 79228842848632538019595495879
abbrev n85 : Nat := 79228842848632538019595495911
abbrev n86 : Nat := 79228842848632538019595495880
abbrev n87 : Nat := 79228842848632538019595495912
abbrev n88 : Nat := 18446885021651304448
abbrev n89 : Nat := 79228842848632538015595495424
abbrev n90 : Nat := 18446832382532124816
abbrev n91 : Nat := 18446832382532124672
abbrev kN0 : Nat := 4294967296
abbrev kN1 : Nat := 4294967312
abbrev kN2 : Nat := 4294967328
abbrev kN3 : Nat := 4294983744
abbrev kN4 : Nat := 4294967344
abbrev kN5 : Nat := 4294983697
abbrev kN6 : Nat := 4294983696
abbrev kN7 : Nat := 4294983698
abbrev eT0 : Ty := .pair .i .i
abbrev eT3 : Ty := .pair .i eT0
abbrev eT5 : Ty := .pair eT0 (.pair eT0 (.pair .i eT3))
abbrev eT10 : Ty := .pair .i (.pair .i (.pair .i .bool))
abbrev eT6 : Ty := .row eT3
abbrev eT4 : Ty := .pair .i (.pair .i eT3)
abbrev eT9 : Ty := .row eT4
abbrev eT1 : Ty := .pair eT5 (.pair eT10 (.pair .i (.pair eT6 (.pair eT9 eT6))))
abbrev eT2 : Ty := .pair .i (.pair .i (.pair .i (.pair .i (.pair .i eT10))))
abbrev eT7 : Ty := .pair .i (.row eT0)
abbrev eT8 : Ty := .pair .i (.pair .i (.pair .i (.pair eT3 (.row .i))))
abbrev kK0 : Nat × SK := (1, .fix (.fn (.func 136) [] []))
abbrev kK1 : Nat × SK := (0, .fix (.ptr n42 0))
abbrev kK2 : Nat × SK := (20, .i)
abbrev kK3 : Nat × SK := (21, .i)
abbrev kK4 : Nat × SK := (0, .fix (.ptr n11 0))
abbrev kK5 : Nat × SK := (14, .fix (.agg [(.sl n12 1), (.sl n13 1), (.sl n14 1), (.sl n15 1), (.sl n16 1), (.sl n17 1), (.sl n18 1), (.sl n19 1)]))
abbrev kK6 : Nat × SK := (1, .fix (.fn (.func 112) [(.ptr n42 0)] []))
abbrev kK7 : Nat × SK := (14, .fix (.agg [(.sl n44 0), (.sl n45 0), (.sl n46 0), (.sl n47 0), (.sl n48 0), (.sl n49 0), (.sl n50 0), (.sl n51 0)]))
abbrev kK8 : Nat × SK := (14, .fix (.agg [(.sl n57 0), (.sl n59 0), (.sl n61 0), (.sl n63 0), (.sl n65 0), (.sl n67 0), (.sl n68 0), (.sl n55 0)]))
abbrev kK9 : Nat × SK := (0, .cont eT3)
abbrev kK10 : Nat × SK := (8, .fix (.ptr kN1 0))
abbrev kK11 : Nat × SK := (9, .fix (.ptr 4294971488 0))
abbrev kK12 : Nat × SK := (0, .fix (.sl 4294971408 0))
abbrev kK13 : Nat × SK := (6, .fix (.lit (.int .i64 0)))
abbrev kK14 : Nat × SK := (15, .fix (.lit (.int .i64 0)))
abbrev kK15 : Nat × SK := (6, .fix (.lit (.int .i64 1)))
abbrev kK16 : Nat × SK := (15, .fix (.lit (.int .i64 1)))
abbrev kK17 : Nat × SK := (6, .fix (.lit (.int .i64 2)))
abbrev kK18 : Nat × SK := (15, .fix (.lit (.int .i64 2)))
abbrev kK19 : Nat × SK := (6, .fix (.lit (.int .i64 3)))
abbrev kK20 : Nat × SK := (15, .fix (.lit (.int .i64 3)))
abbrev kK21 : Nat × SK := (6, .fix (.lit (.int .i64 4)))
abbrev kK22 : Nat × SK := (15, .fix (.lit (.int .i64 4)))
abbrev kK23 : Nat × SK := (6, .fix (.lit (.int .i64 5)))
abbrev kK24 : Nat × SK := (15, .fix (.lit (.int .i64 5)))
abbrev kK25 : Nat × SK := (6, .fix (.lit (.int .i64 6)))
abbrev kK26 : Nat × SK := (15, .fix (.lit (.int .i64 6)))
abbrev kK27 : Nat × SK := (6, .fix (.lit (.int .i64 7)))
abbrev kK28 : Nat × SK := (15, .fix (.lit (.int .i64 7)))
abbrev kK29 : Nat × SK := (0, .fix (.ptr kN3 0))
abbrev kK30 : Nat × SK := (1, .fix (.ptr kN0 0))
abbrev kK31 : Nat × SK := (1, .cont eT3)
abbrev kK32 : Nat × SK := (0, .cont eT4)
abbrev kK33 : Nat × SK := (1, .fix (.fn (.func 128) [] [(.ptr kN0 0)]))
abbrev kK34 : Nat × SK := (1, .fix (.fn (.func 114) [] [(.ptr kN0 0)]))
abbrev kO0 : Nat × OS := (kN0, .box 111 [.i, .cont eT0])
abbrev kO1 : Nat × OS := (kN1, .box 111 [.i, .fix (.sl n43 0)])
abbrev kO2 : Nat × OS := (n43, .row 119 eT0 0)
abbrev kO3 : Nat × OS := (n44, .row 119 eT0 0)
abbrev kO4 : Nat × OS := (n45, .row 119 eT0 0)
abbrev kO5 : Nat × OS := (n46, .row 119 eT0 0)
abbrev kO6 : Nat × OS := (n47, .row 119 eT0 0)
abbrev kO7 : Nat × OS := (n48, .row 119 eT0 0)
abbrev kO8 : Nat × OS := (n49, .row 119 eT0 0)
abbrev kO9 : Nat × OS := (n50, .row 119 eT0 0)
abbrev kO10 : Nat × OS := (n51, .row 119 eT0 0)
abbrev kO11 : Nat × OS := (kN0, .gone)
abbrev kO12 : Nat × OS := (kN1, .gone)
abbrev kO13 : Nat × OS := (kN1, .box 3 [.i])
abbrev kO14 : Nat × OS := (kN2, .box 111 [.i, .fix (.sl n10 0)])
abbrev kO15 : Nat × OS := (n10, .row 119 eT0 0)
abbrev kO16 : Nat × OS := (n12, .row 119 eT0 1)
abbrev kO17 : Nat × OS := (n13, .row 119 eT0 1)
abbrev kO18 : Nat × OS := (n14, .row 119 eT0 1)
abbrev kO19 : Nat × OS := (n15, .row 119 eT0 1)
abbrev kO20 : Nat × OS := (n16, .row 119 eT0 1)
abbrev kO21 : Nat × OS := (n17, .row 119 eT0 1)
abbrev kO22 : Nat × OS := (n18, .row 119 eT0 1)
abbrev kO23 : Nat × OS := (n19, .row 119 eT0 1)
abbrev kO24 : Nat × OS := (n20, .box 119 [.i, .i])
abbrev kO25 : Nat × OS := (n21, .row 119 eT0 0)
abbrev kO26 : Nat × OS := (n42, .gone)
abbrev kO27 : Nat × OS := (n43, .gone)
abbrev kO28 : Nat × OS := (n44, .gone)
abbrev kO29 : Nat × OS := (n45, .gone)
abbrev kO30 : Nat × OS := (n46, .gone)
abbrev kO31 : Nat × OS := (n47, .gone)
abbrev kO32 : Nat × OS := (n48, .gone)
abbrev kO33 : Nat × OS := (n49, .gone)
abbrev kO34 : Nat × OS := (n50, .gone)
abbrev kO35 : Nat × OS := (n51, .gone)
abbrev kO36 : Nat × OS := (n54, .row 119 eT0 0)
abbrev kO37 : Nat × OS := (n55, .row 119 eT0 0)
abbrev kO38 : Nat × OS := (n57, .row 119 eT0 0)
abbrev kO39 : Nat × OS := (n59, .row 119 eT0 0)
abbrev kO40 : Nat × OS := (n61, .row 119 eT0 0)
abbrev kO41 : Nat × OS := (n63, .row 119 eT0 0)
abbrev kO42 : Nat × OS := (n65, .row 119 eT0 0)
abbrev kO43 : Nat × OS := (n67, .row 119 eT0 0)
abbrev kO44 : Nat × OS := (n68, .row 119 eT0 0)
abbrev kO45 : Nat × OS := (4294971408, .row 68 eT3 0)
abbrev kO46 : Nat × OS := (kN2, .gone)
abbrev kO47 : Nat × OS := (kN0, .box 32 [.i, .i, .i, .i, .i, .i, .i, .i, .i, .i, .i, .bool, .i, .cont eT3, .cont eT4, .cont eT3])
abbrev kO48 : Nat × OS := (kN0, .box 3 [.i])
abbrev kO49 : Nat × OS := (n10, .gone)
abbrev kO50 : Nat × OS := (n11, .gone)
abbrev kO51 : Nat × OS := (n12, .gone)
abbrev kO52 : Nat × OS := (n13, .gone)
abbrev kO53 : Nat × OS := (n14, .gone)
abbrev kO54 : Nat × OS := (n15, .gone)
abbrev kO55 : Nat × OS := (n16, .gone)
abbrev kO56 : Nat × OS := (n17, .gone)
abbrev kO57 : Nat × OS := (n18, .gone)
abbrev kO58 : Nat × OS := (n19, .gone)
abbrev kO59 : Nat × OS := (n20, .gone)
abbrev kO60 : Nat × OS := (n21, .gone)
abbrev kO61 : Nat × OS := (n22, .gone)
abbrev kO62 : Nat × OS := (n54, .gone)
abbrev kO63 : Nat × OS := (n55, .gone)
abbrev kO64 : Nat × OS := (n57, .gone)
abbrev kO65 : Nat × OS := (n59, .gone)
abbrev kO66 : Nat × OS := (n61, .gone)
abbrev kO67 : Nat × OS := (n63, .gone)
abbrev kO68 : Nat × OS := (n65, .gone)
abbrev kO69 : Nat × OS := (n67, .gone)
abbrev kO70 : Nat × OS := (n68, .gone)
abbrev kO71 : Nat × OS := (n69, .gone)
abbrev kO72 : Nat × OS := (kN1, .box 146 [.i, .i])
abbrev kO73 : Nat × OS := (4294971488, .box 146 [.i, .i])
abbrev kO74 : Nat × OS := (kN0, .box 100 [.i, .i])
abbrev kO75 : Nat × OS := (kN0, .box 68 [.i, .i, .i])
abbrev kO76 : Nat × OS := (kN0, .box 165 [.i, .i, .i, .i, .i, .i, .cont .i])
abbrev kO77 : Nat × OS := (kN1, .box 28 [.cont eT3])
abbrev kO78 : Nat × OS := (kN1, .box 34 [.i, .i, .i, .i, .i, .i, .i, .i, .bool])
abbrev kO79 : Nat × OS := (4294967360, .box 40 [.i, .i, .i])
abbrev kO80 : Nat × OS := (4294971408, .box 80 [.fix (.fn (.func 30) [] []), .fix (.fn (.func 31) [] []), .fix (.fn (.func 32) [] []), .fix (.fn (.func 33) [] []), .fix (.fn (.func 34) [] []), .fix (.fn (.func 35) [] []), .fix (.fn (.func 36) [] []), .fix (.fn (.func 37) [] []), .fix (.fn (.func 38) [] [])])
abbrev kO81 : Nat × OS := (kN6, .row 95 eT3 0)
abbrev kO82 : Nat × OS := (kN5, .row 55 eT4 0)
abbrev kO83 : Nat × OS := (kN7, .row 68 eT3 0)
abbrev kO84 : Nat × OS := (4294987824, .box 95 [.i, .i, .i])
abbrev kO85 : Nat × OS := (n1, .box 101 [.fix (.fn (.func 57) [] [])])
abbrev kO86 : Nat × OS := (kN0, .box 146 [.i, .i])
abbrev kO87 : Nat × OS := (kN1, .box 101 [.fix (.fn (.func 57) [] [])])
abbrev kO88 : Nat × OS := (kN1, .box 183 [.fix (.fn (.func 129) [] [])])
abbrev kO89 : Nat × OS := (4295020624, .box 95 [.i, .i, .i])
abbrev kO90 : Nat × OS := (n6, .box 95 [.i, .i, .i])
abbrev kO91 : Nat × OS := (n7, .box 95 [.i, .i, .i])
abbrev kO92 : Nat × OS := (n42, .box 160 [.i, .fix (.sl n44 0), .fix (.sl n45 0), .fix (.sl n46 0), .fix (.sl n47 0), .fix (.sl n48 0), .fix (.sl n49 0), .fix (.sl n50 0), .fix (.sl n51 0)])
abbrev kO93 : Nat × OS := (4294979584, .loop 99 3 .ready [.fix .junk, .fix .junk, .fix (.ptr kN1 0), .fix (.lit (.tuple #[])), .fix .junk, .fix .junk, .fix (.lit (.tuple #[])), .fix (.lit (.tuple #[]))])
abbrev kO94 : Nat × OS := (n11, .box 160 [.i, .fix (.sl n12 1), .fix (.sl n13 1), .fix (.sl n14 1), .fix (.sl n15 1), .fix (.sl n16 1), .fix (.sl n17 1), .fix (.sl n18 1), .fix (.sl n19 1)])
abbrev kO95 : Nat × OS := (n42, .box 160 [.i, .fix (.sl n57 0), .fix (.sl n59 0), .fix (.sl n61 0), .fix (.sl n63 0), .fix (.sl n65 0), .fix (.sl n67 0), .fix (.sl n68 0), .fix (.sl n55 0)])
abbrev kO96 : Nat × OS := (kN6, .row 95 eT3 1)
abbrev kO97 : Nat × OS := (kN5, .row 55 eT4 1)
abbrev kO98 : Nat × OS := (kN7, .row 68 eT3 1)
abbrev kR0 : RowH := ⟨.t 5, n24, 119, eT0⟩
abbrev kR1 : RowH := ⟨.t 8, n25, 119, eT0⟩
abbrev kR2 : RowH := ⟨.t 5, n27, 119, eT0⟩
abbrev kR3 : RowH := ⟨.t 8, n28, 119, eT0⟩
abbrev kR4 : RowH := ⟨.t 5, n52, 119, eT0⟩
abbrev kR5 : RowH := ⟨.t 8, n53, 119, eT0⟩
abbrev kR6 : RowH := ⟨.t 5, n54, 119, eT0⟩
abbrev kR7 : RowH := ⟨.t 8, n55, 119, eT0⟩
abbrev kR8 : RowH := ⟨.t 5, n71, 119, eT0⟩
abbrev kR9 : RowH := ⟨.t 8, n72, 119, eT0⟩
abbrev kR10 : RowH := ⟨.t 5, n74, 119, eT0⟩
abbrev kR11 : RowH := ⟨.t 8, n75, 119, eT0⟩
abbrev kR12 : RowH := ⟨.c n11 1, n23, 119, eT0⟩
abbrev kR13 : RowH := ⟨.c n11 1, n26, 119, eT0⟩
abbrev kR14 : RowH := ⟨.c n42 1, n56, 119, eT0⟩
abbrev kR15 : RowH := ⟨.c n42 1, n57, 119, eT0⟩
abbrev kR16 : RowH := ⟨.c n42 1, n70, 119, eT0⟩
abbrev kR17 : RowH := ⟨.c n42 1, n73, 119, eT0⟩
abbrev kR18 : RowH := ⟨.c n11 2, n29, 119, eT0⟩
abbrev kR19 : RowH := ⟨.c n11 2, n30, 119, eT0⟩
abbrev kR20 : RowH := ⟨.c n42 2, n58, 119, eT0⟩
abbrev kR21 : RowH := ⟨.c n42 2, n59, 119, eT0⟩
abbrev kR22 : RowH := ⟨.c n42 2, n76, 119, eT0⟩
abbrev kR23 : RowH := ⟨.c n42 2, n77, 119, eT0⟩
abbrev kR24 : RowH := ⟨.c n11 3, n31, 119, eT0⟩
abbrev kR25 : RowH := ⟨.c n11 3, n32, 119, eT0⟩
abbrev kR26 : RowH := ⟨.c n42 3, n60, 119, eT0⟩
abbrev kR27 : RowH := ⟨.c n42 3, n61, 119, eT0⟩
abbrev kR28 : RowH := ⟨.c n42 3, n78, 119, eT0⟩
abbrev kR29 : RowH := ⟨.c n42 3, n79, 119, eT0⟩
abbrev kR30 : RowH := ⟨.c n11 4, n33, 119, eT0⟩
abbrev kR31 : RowH := ⟨.c n11 4, n34, 119, eT0⟩
abbrev kR32 : RowH := ⟨.c n42 4, n62, 119, eT0⟩
abbrev kR33 : RowH := ⟨.c n42 4, n63, 119, eT0⟩
abbrev kR34 : RowH := ⟨.c n42 4, n80, 119, eT0⟩
abbrev kR35 : RowH := ⟨.c n42 4, n81, 119, eT0⟩
abbrev kR36 : RowH := ⟨.c n11 5, n35, 119, eT0⟩
abbrev kR37 : RowH := ⟨.c n11 5, n36, 119, eT0⟩
abbrev kR38 : RowH := ⟨.c n42 5, n64, 119, eT0⟩
abbrev kR39 : RowH := ⟨.c n42 5, n65, 119, eT0⟩
abbrev kR40 : RowH := ⟨.c n42 5, n82, 119, eT0⟩
abbrev kR41 : RowH := ⟨.c n42 5, n83, 119, eT0⟩
abbrev kL0 : List (Nat × OS) := [kO11, kO12, kO46, kO49, kO50, kO51, kO52, kO53, kO54, kO55, kO56, kO57, kO58, kO59, kO60, kO61]
abbrev kL1 : List (Nat × OS) := [kO11, kO12, kO26, kO27, kO28, kO29, kO30, kO31, kO32, kO33, kO34, kO35]
abbrev kL2 : List (Nat × OS) := [kO11, kO12, kO26, kO27, kO28, kO29, kO30, kO31, kO32, kO33, kO34, kO35, kO62, kO63, kO64, kO65, kO66, kO67, kO68, kO69, kO70, kO71]
abbrev kL3 : List (Nat × OS) := [(n2, .box 100 [.i, .i]), kO85]
abbrev kL4 : List (Nat × OS) := [kO11, kO12, kO46, (kN4, .gone), (4294967360, .gone), (4294971408, .gone), (kN6, .gone), (kN5, .gone), (kN7, .gone), (kN3, .gone)]
abbrev kL5 : List (Nat × OS) := [kO0, kO1, kO92, kO2, kO3, kO4, kO5, kO6, kO7, kO8, kO9, kO10]
noncomputable def con44 : Con := ⟨[.i, .i, .i], [.val .bool], fun x => f44 x.1 x.2.1 x.2.2.1⟩
theorem k44 : con44.OK Tryz.prog 44 := con_of_tree (n := 10) (lf := big) (lookC_ok (l := []) (u := []) trivial trivial) (rounds_of (l := []) trivial) fun x => by kernel_rfl
noncomputable def con28 : Con := ⟨[eT10], [.val .bool], fun x => f28 x.1.1 x.1.2.1 x.1.2.2.1 x.1.2.2.2⟩
theorem k28 : con28.OK Tryz.prog 28 := con_of_tree (n := 10) (lf := big) (lookC_ok (l := [(44, con44)]) (u := []) ⟨k44, trivial⟩ trivial) (rounds_of (l := []) trivial) fun x => by kernel_rfl
noncomputable def con80 : Con := ⟨[.i, .i, .i], [.val .bool], fun x => f80 x.1 x.2.1 x.2.2.1⟩
theorem k80 : con80.OK Tryz.prog 80 := con_of_tree (n := 10) (lf := big) (lookC_ok (l := []) (u := []) trivial trivial) (rounds_of (l := []) trivial) fun x => by kernel_rfl
noncomputable def con95 : Con := ⟨[eT0], [.val .bool], fun x => f95 x.1.1 x.1.2⟩
theorem k95 : con95.OK Tryz.prog 95 := con_of_tree (n := 10) (lf := big) (lookC_ok (l := []) (u := []) trivial trivial) (rounds_of (l := []) trivial) fun x => by kernel_rfl
noncomputable def con49 : Con := ⟨[eT0], [.val .i], fun x => f49 x.1.1 x.1.2⟩
theorem k49 : con49.OK Tryz.prog 49 := con_of_tree (n := 10) (lf := big) (lookC_ok (l := [(95, con95)]) (u := []) ⟨k95, trivial⟩ trivial) (rounds_of (l := []) trivial) fun x => by kernel_rfl
noncomputable def con118 : Con := ⟨[eT0, .i], [.val .i], fun x => f118 x.1.1 x.1.2 x.2.1⟩
theorem k118 : con118.OK Tryz.prog 118 := con_of_tree (n := 10) (lf := big) (lookC_ok (l := [(95, con95)]) (u := []) ⟨k95, trivial⟩ trivial) (rounds_of (l := []) trivial) fun x => by kernel_rfl
noncomputable def con83 : Con := ⟨[eT0, eT0], [.val .bool], fun x => f83 x.1.1 x.1.2 x.2.1.1 x.2.1.2⟩
theorem k83 : con83.OK Tryz.prog 83 := con_of_tree (n := 10) (lf := big) (lookC_ok (l := [(95, con95), (118, con118)]) (u := []) ⟨k95, k118, trivial⟩ trivial) (rounds_of (l := []) trivial) fun x => by kernel_rfl
noncomputable def con51 : Con := ⟨[eT5], [.val .i], fun x => f51 x.1.1.1 x.1.1.2 x.1.2.1.1 x.1.2.1.2 x.1.2.2.1 x.1.2.2.2.1 x.1.2.2.2.2.1 x.1.2.2.2.2.2⟩
theorem k51 : con51.OK Tryz.prog 51 := con_of_tree (n := 10) (lf := big) (lookC_ok (l := [(49, con49)]) (u := []) ⟨k49, trivial⟩ trivial) (rounds_of (l := []) trivial) fun x => by kernel_rfl
noncomputable def con87 : Con := ⟨[eT5], [.val .i], fun x => f87 x.1.1.1 x.1.1.2 x.1.2.1.1 x.1.2.1.2 x.1.2.2.1 x.1.2.2.2.1 x.1.2.2.2.2.1 x.1.2.2.2.2.2⟩
theorem k87 : con87.OK Tryz.prog 87 := con_of_tree (n := 10) (lf := big) (lookC_ok (l := []) (u := []) trivial trivial) (rounds_of (l := []) trivial) fun x => by kernel_rfl
noncomputable def con43 : Con := ⟨[eT5], [.val .bool], fun x => f43 x.1.1.1 x.1.1.2 x.1.2.1.1 x.1.2.1.2 x.1.2.2.1 x.1.2.2.2.1 x.1.2.2.2.2.1 x.1.2.2.2.2.2⟩
theorem k43 : con43.OK Tryz.prog 43 := con_of_tree (n := 10) (lf := big) (lookC_ok (l := [(49, con49), (51, con51), (80, con80), (83, con83), (87, con87)]) (u := []) ⟨k49, k51, k80, k83, k87, trivial⟩ trivial) (rounds_of (l := []) trivial) fun x => by kernel_rfl
noncomputable def con91 : Con := ⟨[eT3, eT3], [.val .bool], fun x => f91 x.1.1 x.1.2.1 x.1.2.2 x.2.1.1 x.2.1.2.1 x.2.1.2.2⟩
theorem k91 : con91.OK Tryz.prog 91 := con_of_tree (n := 10) (lf := big) (lookC_ok (l := []) (u := []) trivial trivial) (rounds_of (l := []) trivial) fun x => by kernel_rfl
noncomputable def con92 : Con := ⟨[eT3, .i], [.val .bool], fun x => f92 x.1.1 x.1.2.1 x.1.2.2 x.2.1⟩
theorem k92 : con92.OK Tryz.prog 92 := con_of_tree (n := 10) (lf := big) (lookC_ok (l := []) (u := []) trivial trivial) (rounds_of (l := []) trivial) fun x => by kernel_rfl
abbrev s45_4 : LShape := ⟨39, [kK9, (1, .i), (19, .cont eT3), kK2, kK3], [], [], []⟩
abbrev s45_53_2_0 : LShape := ⟨19, [kK9, (1, .fix (.fn (.func 90) [] [(.ptr 4294987824 0)])), (7, .i), (8, .i)], [kO84], [], []⟩
abbrev o45_53_2_0 : LShape := ⟨19, [], [kO84], [], []⟩
abbrev q45_53_2_0 : LShape := ⟨19, [(4, .i)], [kO84], [], []⟩
noncomputable def l45_53_2_0 : LSum := ⟨7, 53, s45_53_2_0, 0, o45_53_2_0, q45_53_2_0, u45_53_2_0, false, none, none, []⟩
abbrev o45_4 : LShape := ⟨39, [], [], [], []⟩
abbrev q45_4 : LShape := ⟨39, [(4, .bool)], [], [], []⟩
noncomputable def l45_4 : LSum := ⟨9, 45, s45_4, 0, o45_4, q45_4, u45_4, false, none, none, []⟩
noncomputable def con45 : Con := ⟨[eT6, .i], [.val .bool], fun x => f45 x.1 x.2.1⟩
theorem k45 : con45.OK Tryz.prog 45 := con_of_tree (n := 10) (lf := big) (lookC_ok (l := [(91, con91), (92, con92)]) (u := []) ⟨k91, k92, trivial⟩ trivial) (rounds_of (l := [(79228694094088327415612833792, 2, l45_53_2_0), (kN0, 4, l45_4)]) ⟨⟨by kernel_rfl, fun z => by kernel_rfl⟩, ⟨by kernel_rfl, fun z => by kernel_rfl⟩, trivial⟩) fun x => by kernel_rfl
noncomputable def con46 : Con := ⟨[eT1], [.val .i], fun x => f46 x.1.1.1.1 x.1.1.1.2 x.1.1.2.1.1 x.1.1.2.1.2 x.1.1.2.2.1 x.1.1.2.2.2.1 x.1.1.2.2.2.2.1 x.1.1.2.2.2.2.2 x.1.2.1.1 x.1.2.1.2.1 x.1.2.1.2.2.1 x.1.2.1.2.2.2 x.1.2.2.1 x.1.2.2.2.1 x.1.2.2.2.2.1 x.1.2.2.2.2.2⟩
theorem k46 : con46.OK Tryz.prog 46 := con_of_tree (n := 10) (lf := big) (lookC_ok (l := [(49, con49)]) (u := []) ⟨k49, trivial⟩ trivial) (rounds_of (l := []) trivial) fun x => by kernel_rfl
noncomputable def con50 : Con := ⟨[eT5], [.val .i], fun x => f50 x.1.1.1 x.1.1.2 x.1.2.1.1 x.1.2.1.2 x.1.2.2.1 x.1.2.2.2.1 x.1.2.2.2.2.1 x.1.2.2.2.2.2⟩
theorem k50 : con50.OK Tryz.prog 50 := con_of_tree (n := 10) (lf := big) (lookC_ok (l := [(43, con43)]) (u := []) ⟨k43, trivial⟩ trivial) (rounds_of (l := []) trivial) fun x => by kernel_rfl
noncomputable def con18 : Con := ⟨[eT5, .i, .i], [.val eT3, .val .bool], fun x => f18 x.1.1.1 x.1.1.2 x.1.2.1.1 x.1.2.1.2 x.1.2.2.1 x.1.2.2.2.1 x.1.2.2.2.2.1 x.1.2.2.2.2.2 x.2.1 x.2.2.1⟩
theorem k18 : con18.OK Tryz.prog 18 := con_of_tree (n := 10) (lf := big) (lookC_ok (l := [(49, con49), (50, con50)]) (u := []) ⟨k49, k50, trivial⟩ trivial) (rounds_of (l := []) trivial) fun x => by kernel_rfl
noncomputable def con52 : Con := ⟨[eT5], [.val .i], fun x => f52 x.1.1.1 x.1.1.2 x.1.2.1.1 x.1.2.1.2 x.1.2.2.1 x.1.2.2.2.1 x.1.2.2.2.2.1 x.1.2.2.2.2.2⟩
theorem k52 : con52.OK Tryz.prog 52 := con_of_tree (n := 10) (lf := big) (lookC_ok (l := [(43, con43), (51, con51), (87, con87)]) (u := []) ⟨k43, k51, k87, trivial⟩ trivial) (rounds_of (l := []) trivial) fun x => by kernel_rfl
noncomputable def con19 : Con := ⟨[eT5, .i], [.val eT3, .val .bool], fun x => f19 x.1.1.1 x.1.1.2 x.1.2.1.1 x.1.2.1.2 x.1.2.2.1 x.1.2.2.2.1 x.1.2.2.2.2.1 x.1.2.2.2.2.2 x.2.1⟩
theorem k19 : con19.OK Tryz.prog 19 := con_of_tree (n := 10) (lf := big) (lookC_ok (l := [(43, con43), (49, con49), (51, con51), (52, con52)]) (u := []) ⟨k43, k49, k51, k52, trivial⟩ trivial) (rounds_of (l := []) trivial) fun x => by kernel_rfl
noncomputable def con55 : Con := ⟨[eT3, .i], [.val .bool], fun x => f55 x.1.1 x.1.2.1 x.1.2.2 x.2.1⟩
theorem k55 : con55.OK Tryz.prog 55 := con_of_tree (n := 10) (lf := big) (lookC_ok (l := []) (u := []) trivial trivial) (rounds_of (l := []) trivial) fun x => by kernel_rfl
abbrev s20_53_2_0 : LShape := ⟨19, [kK9, (1, .fix (.fn (.func 54) [] [(.ptr kN0 0)])), (7, .i), (8, .i)], [kO48], [], []⟩
abbrev o20_53_2_0 : LShape := ⟨19, [], [kO48], [], []⟩
abbrev q20_53_2_0 : LShape := ⟨19, [(4, .i)], [kO48], [], []⟩
noncomputable def l20_53_2_0 : LSum := ⟨8, 53, s20_53_2_0, 0, o20_53_2_0, q20_53_2_0, u20_53_2_0, false, none, none, []⟩
noncomputable def con20 : Con := ⟨[eT6, .i], [.val .i], fun x => f20 x.1 x.2.1⟩
theorem k20 : con20.OK Tryz.prog 20 := con_of_tree (n := 10) (lf := big) (lookC_ok (l := [(55, con55)]) (u := []) ⟨k55, trivial⟩ trivial) (rounds_of (l := [(n0, 2, l20_53_2_0)]) ⟨⟨by kernel_rfl, fun z => by kernel_rfl⟩, trivial⟩) fun x => by kernel_rfl
noncomputable def con94 : Con := ⟨[.i, .i, .i, .i], [.val .bool], fun x => f94 x.1 x.2.1 x.2.2.1 x.2.2.2.1⟩
theorem k94 : con94.OK Tryz.prog 94 := con_of_tree (n := 10) (lf := big) (lookC_ok (l := []) (u := []) trivial trivial) (rounds_of (l := []) trivial) fun x => by kernel_rfl
abbrev s47_3 : LShape := ⟨124, [kK30, (3, .fix (.mp 4294971392)), (12, .cont eT4), (13, .i), (14, .i)], [], [kO47, (4294971392, .map)], []⟩
abbrev o47_3 : LShape := ⟨124, [kK30], [], [kO47], []⟩
abbrev q47_3 : LShape := ⟨124, [(2, .bool)], [], [], []⟩
noncomputable def l47_3 : LSum := ⟨9, 47, s47_3, 0, o47_3, q47_3, u47_3, false, none, none, []⟩
noncomputable def con47 : Con := ⟨[eT1], [.val .bool], fun x => f47 x.1.1.1.1 x.1.1.1.2 x.1.1.2.1.1 x.1.1.2.1.2 x.1.1.2.2.1 x.1.1.2.2.2.1 x.1.1.2.2.2.2.1 x.1.1.2.2.2.2.2 x.1.2.1.1 x.1.2.1.2.1 x.1.2.1.2.2.1 x.1.2.1.2.2.2 x.1.2.2.1 x.1.2.2.2.1 x.1.2.2.2.2.1 x.1.2.2.2.2.2⟩
theorem k47 : con47.OK Tryz.prog 47 := con_of_tree (n := 10) (lf := big) (lookC_ok (l := [(18, con18), (19, con19), (20, con20), (94, con94)]) (u := []) ⟨k18, k19, k20, k94, trivial⟩ trivial) (rounds_of (l := [(kN0, 3, l47_3)]) ⟨⟨by kernel_rfl, fun z => by kernel_rfl⟩, trivial⟩) fun x => by kernel_rfl
noncomputable def con98 : Con := ⟨[eT4], [.val (.pair eT0 eT4)], fun x => f98 x.1.1 x.1.2.1 x.1.2.2.1 x.1.2.2.2.1 x.1.2.2.2.2⟩
theorem k98 : con98.OK Tryz.prog 98 := con_of_tree (n := 10) (lf := big) (lookC_ok (l := []) (u := []) trivial trivial) (rounds_of (l := []) trivial) fun x => by kernel_rfl
noncomputable def con57 : Con := ⟨[eT4], [.val eT0], fun x => f57 x.1.1 x.1.2.1 x.1.2.2.1 x.1.2.2.2.1 x.1.2.2.2.2⟩
theorem k57 : con57.OK Tryz.prog 57 := con_of_tree (n := 10) (lf := big) (lookC_ok (l := [(98, con98)]) (u := []) ⟨k98, trivial⟩ trivial) (rounds_of (l := []) trivial) fun x => by kernel_rfl
abbrev s22_96_2_0 : LShape := ⟨19, [kK32, (1, .fix (.fn (.func 97) [] [(.ptr n1 0), (.ptr n2 0)])), (7, .i), (8, .i)], kL3, [], []⟩
abbrev o22_96_2_0 : LShape := ⟨19, [], kL3, [], []⟩
abbrev q22_96_2_0 : LShape := ⟨19, [(4, .i)], kL3, [], []⟩
noncomputable def l22_96_2_0 : LSum := ⟨7, 96, s22_96_2_0, 0, o22_96_2_0, q22_96_2_0, u22_96_2_0, false, none, none, []⟩
noncomputable def con22 : Con := ⟨[eT9, .i, .i], [.val .i], fun x => f22 x.1 x.2.1 x.2.2.1⟩
theorem k22 : con22.OK Tryz.prog 22 := con_of_tree (n := 10) (lf := big) (lookC_ok (l := [(57, con57)]) (u := []) ⟨k57, trivial⟩ trivial) (rounds_of (l := [(79228239271166446032908189696, 2, l22_96_2_0)]) ⟨⟨by kernel_rfl, fun z => by kernel_rfl⟩, trivial⟩) fun x => by kernel_rfl
abbrev s48_2 : LShape := ⟨74, [kK30, (8, .cont eT3), (9, .i), (10, .i)], [], [kO47], []⟩
abbrev o48_2 : LShape := ⟨74, [], [], [], []⟩
abbrev q48_2 : LShape := ⟨74, [(2, .bool)], [], [], []⟩
noncomputable def l48_2 : LSum := ⟨9, 48, s48_2, 0, o48_2, q48_2, u48_2, false, none, none, []⟩
noncomputable def con48 : Con := ⟨[eT1], [.val .bool], fun x => f48 x.1.1.1.1 x.1.1.1.2 x.1.1.2.1.1 x.1.1.2.1.2 x.1.1.2.2.1 x.1.1.2.2.2.1 x.1.1.2.2.2.2.1 x.1.1.2.2.2.2.2 x.1.2.1.1 x.1.2.1.2.1 x.1.2.1.2.2.1 x.1.2.1.2.2.2 x.1.2.2.1 x.1.2.2.2.1 x.1.2.2.2.2.1 x.1.2.2.2.2.2⟩
theorem k48 : con48.OK Tryz.prog 48 := con_of_tree (n := 10) (lf := big) (lookC_ok (l := [(18, con18), (22, con22), (44, con44), (94, con94)]) (u := []) ⟨k18, k22, k44, k94, trivial⟩ trivial) (rounds_of (l := [(kN0, 2, l48_2)]) ⟨⟨by kernel_rfl, fun z => by kernel_rfl⟩, trivial⟩) fun x => by kernel_rfl
noncomputable def con15 : Con := ⟨[eT1], [.val .bool], fun x => f15 x.1.1.1.1 x.1.1.1.2 x.1.1.2.1.1 x.1.1.2.1.2 x.1.1.2.2.1 x.1.1.2.2.2.1 x.1.1.2.2.2.2.1 x.1.1.2.2.2.2.2 x.1.2.1.1 x.1.2.1.2.1 x.1.2.1.2.2.1 x.1.2.1.2.2.2 x.1.2.2.1 x.1.2.2.2.1 x.1.2.2.2.2.1 x.1.2.2.2.2.2⟩
theorem k15 : con15.OK Tryz.prog 15 := con_of_tree (n := 10) (lf := big) (lookC_ok (l := [(28, con28), (43, con43), (44, con44), (45, con45), (46, con46), (47, con47), (48, con48)]) (u := []) ⟨k28, k43, k44, k45, k46, k47, k48, trivial⟩ trivial) (rounds_of (l := []) trivial) fun x => by kernel_rfl
abbrev s21_3 : LShape := ⟨25, [(1, .i), (8, .cont eT4), (9, .i), (10, .i)], [], [], [⟨.t 5, 8294967488, 3, .i⟩]⟩
abbrev o21_3 : LShape := ⟨25, [], [], [], [⟨.t 5, 8294967520, 3, .i⟩]⟩
abbrev q21_3 : LShape := ⟨25, [], [], [], []⟩
noncomputable def l21_3 : LSum := ⟨9, 21, s21_3, 0, o21_3, q21_3, u21_3, false, none, none, []⟩
noncomputable def con21 : Con := ⟨[eT9, .i], [.own 3 .i], fun x => f21 x.1 x.2.1⟩
theorem k21 : con21.OK Tryz.prog 21 := con_of_tree (n := 10) (lf := big) (lookC_ok (l := []) (u := []) trivial trivial) (rounds_of (l := [(kN0, 3, l21_3)]) ⟨⟨by kernel_rfl, fun z => by kernel_rfl⟩, trivial⟩) fun x => by kernel_rfl
noncomputable def con23 : Con := ⟨[eT6, .i], [.val .bool], fun x => f23 x.1 x.2.1⟩
theorem k23 : con23.OK Tryz.prog 23 := con_of_tree (n := 10) (lf := big) (lookC_ok (l := [(20, con20)]) (u := []) ⟨k20, trivial⟩ trivial) (rounds_of (l := []) trivial) fun x => by kernel_rfl
noncomputable def con144 : Con := ⟨[eT0], [.val .bool], fun x => f144 x.1.1 x.1.2⟩
theorem k144 : con144.OK Tryz.prog 144 := con_of_tree (n := 10) (lf := big) (lookC_ok (l := []) (u := []) trivial trivial) (rounds_of (l := []) trivial) fun x => by kernel_rfl
abbrev s99_143_2_0 : LShape := ⟨26, [(0, .fix (.yld 4294979584)), (3, .int .u64)], [kO86, kO13, (n3, .box 146 [.i, .i]), kO93], [], []⟩
abbrev o99_143_2_0 : LShape := ⟨26, [], [kO86, kO13, (n3, .box 146 [.i, .i]), kO93], [], []⟩
abbrev q99_143_2_0 : LShape := ⟨26, [], [kO86, kO13, (n3, .box 146 [.i, .i]), (4294979584, .loop 99 3 (.done .ret) [.fix .junk, .fix .junk, .fix (.ptr kN1 0), .fix (.lit (.tuple #[])), .fix .junk, .fix .junk, .fix (.lit (.tuple #[])), .fix (.lit (.tuple #[]))])], [], []⟩
noncomputable def l99_143_2_0 : LSum := ⟨8, 143, s99_143_2_0, 0, o99_143_2_0, q99_143_2_0, u99_143_2_0, false, none, none, []⟩
noncomputable def con99 : Con := ⟨[eT0], [.val .i], fun x => f99 x.1.1 x.1.2⟩
theorem k99 : con99.OK Tryz.prog 99 := con_of_tree (n := 10) (lf := big) (lookC_ok (l := [(144, con144), (145, conTz)]) (u := []) ⟨k144, okTz, trivial⟩ trivial) (rounds_of (l := [(18446796858857619456, 2, l99_143_2_0)]) ⟨⟨by kernel_rfl, fun z => by kernel_rfl⟩, trivial⟩) fun x => by kernel_rfl
noncomputable def con121 : Con := ⟨[.i], [.val eT0, .val .bool], fun x => f121 x.1⟩
theorem k121 : con121.OK Tryz.prog 121 := con_of_tree (n := 10) (lf := big) (lookC_ok (l := [(144, con144)]) (u := []) ⟨k144, trivial⟩ trivial) (rounds_of (l := []) trivial) fun x => by kernel_rfl
noncomputable def con122 : Con := ⟨[eT3], [.val (.pair eT0 eT3)], fun x => f122 x.1.1 x.1.2.1 x.1.2.2⟩
theorem k122 : con122.OK Tryz.prog 122 := con_of_tree (n := 10) (lf := big) (lookC_ok (l := []) (u := []) trivial trivial) (rounds_of (l := []) trivial) fun x => by kernel_rfl
noncomputable def con171 : Con := ⟨[eT0, .i], [.val .bool], fun x => f171 x.1.1 x.1.2 x.2.1⟩
theorem k171 : con171.OK Tryz.prog 171 := con_of_tree (n := 10) (lf := big) (lookC_ok (l := [(144, con144)]) (u := []) ⟨k144, trivial⟩ trivial) (rounds_of (l := []) trivial) fun x => by kernel_rfl
noncomputable def con172 : Con := ⟨[eT0, .i], [.val .bool], fun x => f172 x.1.1 x.1.2 x.2.1⟩
theorem k172 : con172.OK Tryz.prog 172 := con_of_tree (n := 10) (lf := big) (lookC_ok (l := [(171, con171)]) (u := []) ⟨k171, trivial⟩ trivial) (rounds_of (l := []) trivial) fun x => by kernel_rfl
noncomputable def con146 : Con := ⟨[eT0, .i, .bool], [.val eT0, .val .bool], fun x => f146 x.1.1 x.1.2 x.2.1 x.2.2.1⟩
theorem k146 : con146.OK Tryz.prog 146 := con_of_tree (n := 10) (lf := big) (lookC_ok (l := [(171, con171), (172, con172)]) (u := []) ⟨k171, k172, trivial⟩ trivial) (rounds_of (l := []) trivial) fun x => by kernel_rfl
noncomputable def con123 : Con := ⟨[eT0, .i], [.val eT0, .val .bool], fun x => f123 x.1.1 x.1.2 x.2.1⟩
theorem k123 : con123.OK Tryz.prog 123 := con_of_tree (n := 10) (lf := big) (lookC_ok (l := [(146, con146)]) (u := []) ⟨k146, trivial⟩ trivial) (rounds_of (l := []) trivial) fun x => by kernel_rfl
abbrev s100_4 : LShape := ⟨69, [(2, .cont eT3), (3, .i), kK10, kK11, (24, .cont eT4), (25, .i), (26, .i)], [], [kO72, kO73], [⟨.t 11, 8294967552, 100, eT0⟩]⟩
abbrev o100_4 : LShape := ⟨69, [(2, .cont eT3), (3, .i), kK10, kK11], [], [kO72, kO73], [⟨.t 11, 8294967584, 100, eT0⟩]⟩
abbrev q100_4 : LShape := ⟨69, [], [], [], []⟩
noncomputable def l100_4 : LSum := ⟨9, 100, s100_4, 0, o100_4, q100_4, u100_4, false, none, none, []⟩
abbrev s100_9 : LShape := ⟨69, [(3, .i), kK10, kK11, (37, .cont eT3), (38, .i), (39, .i)], [], [kO72, kO73], [⟨.t 11, 8294967872, 100, eT0⟩]⟩
abbrev o100_9 : LShape := ⟨69, [(3, .i), kK10, kK11], [], [kO72, kO73], [⟨.t 11, 8294967904, 100, eT0⟩]⟩
abbrev q100_9 : LShape := ⟨69, [], [], [], []⟩
noncomputable def l100_9 : LSum := ⟨9, 100, s100_9, 2, o100_9, q100_9, u100_9, false, none, none, []⟩
abbrev s100_14 : LShape := ⟨69, [(3, .i), kK10, kK11, (51, .i), (52, .i)], [], [kO72, kO73], [⟨.t 50, 8294968192, 100, eT0⟩]⟩
abbrev o100_14 : LShape := ⟨69, [kK10, kK11], [], [kO72, kO73], []⟩
abbrev q100_14 : LShape := ⟨69, [], [], [], []⟩
noncomputable def l100_14 : LSum := ⟨9, 100, s100_14, 4, o100_14, q100_14, u100_14, false, none, none, []⟩
noncomputable def con100 : Con := ⟨[eT5, eT9, eT6, .i], [.val eT0], fun x => f100 x.1.1.1 x.1.1.2 x.1.2.1.1 x.1.2.1.2 x.1.2.2.1 x.1.2.2.2.1 x.1.2.2.2.2.1 x.1.2.2.2.2.2 x.2.1 x.2.2.1 x.2.2.2.1⟩
theorem k100 : con100.OK Tryz.prog 100 := con_of_tree (n := 10) (lf := big) (lookC_ok (l := [(50, con50), (98, con98), (121, con121), (122, con122), (123, con123)]) (u := []) ⟨k50, k98, k121, k122, k123, trivial⟩ trivial) (rounds_of (l := [(kN0, 4, l100_4), (kN0, 9, l100_9), (kN0, 14, l100_14)]) ⟨⟨by kernel_rfl, fun z => by kernel_rfl⟩, ⟨by kernel_rfl, fun z => by kernel_rfl⟩, ⟨by kernel_rfl, fun z => by kernel_rfl⟩, trivial⟩) fun x => by kernel_rfl
abbrev s148_3 : LShape := ⟨18, [(3, .i), (6, .cont .i), (7, .i), (8, .i)], [], [], []⟩
abbrev o148_3 : LShape := ⟨18, [(3, .i)], [], [], []⟩
abbrev q148_3 : LShape := ⟨18, [(2, .i)], [], [], []⟩
noncomputable def l148_3 : LSum := ⟨9, 148, s148_3, 0, o148_3, q148_3, u148_3, false, none, none, []⟩
noncomputable def con148 : Con := ⟨[(.row .i)], [.val .i], fun x => f148 x.1⟩
theorem k148 : con148.OK Tryz.prog 148 := con_of_tree (n := 10) (lf := big) (lookC_ok (l := []) (u := []) trivial trivial) (rounds_of (l := [(kN0, 3, l148_3)]) ⟨⟨by kernel_rfl, fun z => by kernel_rfl⟩, trivial⟩) fun x => by kernel_rfl
noncomputable def con174 : Con := ⟨[.i], [.val .bool], fun x => f174 x.1⟩
theorem k174 : con174.OK Tryz.prog 174 := con_of_tree (n := 10) (lf := big) (lookC_ok (l := []) (u := []) trivial trivial) (rounds_of (l := []) trivial) fun x => by kernel_rfl
noncomputable def con149 : Con := ⟨[.i, .i], [.val .i], fun x => f149 x.1 x.2.1⟩
theorem k149 : con149.OK Tryz.prog 149 := con_of_tree (n := 10) (lf := big) (lookC_ok (l := [(174, con174)]) (u := []) ⟨k174, trivial⟩ trivial) (rounds_of (l := []) trivial) fun x => by kernel_rfl
noncomputable def con127 : Con := ⟨[eT0, eT0], [.val .i], fun x => f127 x.1.1 x.1.2 x.2.1.1 x.2.1.2⟩
theorem k127 : con127.OK Tryz.prog 127 := con_of_tree (n := 10) (lf := big) (lookC_ok (l := [(148, con148), (149, con149)]) (u := []) ⟨k148, k149, trivial⟩ trivial) (rounds_of (l := []) trivial) fun x => by kernel_rfl
abbrev s102_96_2_0 : LShape := ⟨19, [kK32, (1, .fix (.fn (.func 126) [] [(.ptr kN1 0), (.ptr kN0 0)])), (7, .i), (8, .i)], [kO74, kO87], [], []⟩
abbrev o102_96_2_0 : LShape := ⟨19, [], [kO74, kO87], [], []⟩
abbrev q102_96_2_0 : LShape := ⟨19, [(4, .i)], [kO74, kO87], [], []⟩
noncomputable def l102_96_2_0 : LSum := ⟨8, 96, s102_96_2_0, 0, o102_96_2_0, q102_96_2_0, u102_96_2_0, false, none, none, []⟩
noncomputable def con102 : Con := ⟨[eT9, eT0, (.fnc 57)], [.val .i], fun x => f102 x.1 x.2.1.1 x.2.1.2⟩
theorem k102 : con102.OK Tryz.prog 102 := con_of_tree (n := 10) (lf := big) (lookC_ok (l := [(57, con57), (127, con127)]) (u := []) ⟨k57, k127, trivial⟩ trivial) (rounds_of (l := [(n0, 2, l102_96_2_0)]) ⟨⟨by kernel_rfl, fun z => by kernel_rfl⟩, trivial⟩) fun x => by kernel_rfl
noncomputable def con63 : Con := ⟨[eT9, eT4], [.own 55 eT4, .val .bool], fun x => f63 x.1 x.2.1.1 x.2.1.2.1 x.2.1.2.2.1 x.2.1.2.2.2.1 x.2.1.2.2.2.2⟩
theorem k63 : con63.OK Tryz.prog 63 := con_of_tree (n := 10) (lf := big) (lookC_ok (l := [(22, con22), (57, con57), (58, conCLease), (102, con102)]) (u := [(101, uILease)]) ⟨k22, k57, okCLease, k102, trivial⟩ ⟨okILease, trivial⟩) (rounds_of (l := []) trivial) fun x => by kernel_rfl
noncomputable def con24 : Con := ⟨[eT9, .i, .i], [.own 55 eT4, .val .bool], fun x => f24 x.1 x.2.1 x.2.2.1⟩
theorem k24 : con24.OK Tryz.prog 24 := con_of_tree (n := 10) (lf := big) (lookC_ok (l := [(22, con22), (58, conCLease)]) (u := []) ⟨k22, okCLease, trivial⟩ trivial) (rounds_of (l := []) trivial) fun x => by kernel_rfl
noncomputable def con129 : Con := ⟨[eT3], [.val eT0], fun x => f129 x.1.1 x.1.2.1 x.1.2.2⟩
theorem k129 : con129.OK Tryz.prog 129 := con_of_tree (n := 10) (lf := big) (lookC_ok (l := [(122, con122)]) (u := []) ⟨k122, trivial⟩ trivial) (rounds_of (l := []) trivial) fun x => by kernel_rfl
abbrev s131_138_2_0 : LShape := ⟨19, [kK9, (1, .fix (.fn (.func 152) [] [(.ptr kN1 0), (.ptr kN0 0)])), (7, .i), (8, .i)], [kO74, kO88], [], []⟩
abbrev o131_138_2_0 : LShape := ⟨19, [], [kO74, kO88], [], []⟩
abbrev q131_138_2_0 : LShape := ⟨19, [(4, .i)], [kO74, kO88], [], []⟩
noncomputable def l131_138_2_0 : LSum := ⟨8, 138, s131_138_2_0, 0, o131_138_2_0, q131_138_2_0, u131_138_2_0, false, none, none, []⟩
noncomputable def con131 : Con := ⟨[eT6, eT0, (.fnc 129)], [.val .i], fun x => f131 x.1 x.2.1.1 x.2.1.2⟩
theorem k131 : con131.OK Tryz.prog 131 := con_of_tree (n := 10) (lf := big) (lookC_ok (l := [(129, con129), (127, con127)]) (u := []) ⟨k129, k127, trivial⟩ trivial) (rounds_of (l := [(n0, 2, l131_138_2_0)]) ⟨⟨by kernel_rfl, fun z => by kernel_rfl⟩, trivial⟩) fun x => by kernel_rfl
abbrev s103_138_2_0 : LShape := ⟨19, [kK12, kK33, (7, .i), (8, .i)], [kO75, kO45], [], []⟩
abbrev o103_138_2_0 : LShape := ⟨19, [], [kO75, kO45], [], []⟩
abbrev q103_138_2_0 : LShape := ⟨19, [(4, .i)], [kO75, kO45], [], []⟩
noncomputable def l103_138_2_0 : LSum := ⟨7, 138, s103_138_2_0, 0, o103_138_2_0, q103_138_2_0, u103_138_2_0, false, none, none, []⟩
abbrev s103_113_5_0 : LShape := ⟨42, [kK12, kK33, (5, .i), (6, .i)], [kO75, kO45], [], []⟩
abbrev o103_113_5_0 : LShape := ⟨42, [kK12, (5, .i)], [kO75, kO45], [], []⟩
abbrev q103_113_5_0 : LShape := ⟨42, [], [kO75, kO45], [], []⟩
noncomputable def l103_113_5_0 : LSum := ⟨8, 113, s103_113_5_0, 0, o103_113_5_0, q103_113_5_0, u103_113_5_0, false, none, none, []⟩
noncomputable def con103 : Con := ⟨[eT6, eT3], [.own 68 eT3], fun x => f103 x.1 x.2.1.1 x.2.1.2.1 x.2.1.2.2⟩
theorem k103 : con103.OK Tryz.prog 103 := con_of_tree (n := 10) (lf := big) (lookC_ok (l := [(78, conCHeld), (129, con129), (131, con131)]) (u := [(130, uIHeld)]) ⟨okCHeld, k129, k131, trivial⟩ ⟨okIHeld, trivial⟩) (rounds_of (l := [(n4, 2, l103_138_2_0), (n5, 5, l103_113_5_0)]) ⟨⟨by kernel_rfl, fun z => by kernel_rfl⟩, ⟨by kernel_rfl, fun z => by kernel_rfl⟩, trivial⟩) fun x => by kernel_rfl
noncomputable def con132 : Con := ⟨[eT0, eT0], [.val .i], fun x => f132 x.1.1 x.1.2 x.2.1.1 x.2.1.2⟩
theorem k132 : con132.OK Tryz.prog 132 := con_of_tree (n := 10) (lf := big) (lookC_ok (l := [(148, con148), (149, con149)]) (u := []) ⟨k148, k149, trivial⟩ trivial) (rounds_of (l := []) trivial) fun x => by kernel_rfl
abbrev s104_4 : LShape := ⟨72, [kK30, (3, .fix (.mp 4294971392)), (4, .fix (.ptr 4294975536 0)), (12, .cont eT0), (13, .i), (14, .i)], [], [kO0, (4294971392, .map), (4294975536, .box 119 [.i, .i])], []⟩
abbrev o104_4 : LShape := ⟨72, [kK30], [], [kO0], []⟩
abbrev q104_4 : LShape := ⟨72, [(2, .bool)], [], [], []⟩
noncomputable def l104_4 : LSum := ⟨9, 104, s104_4, 0, o104_4, q104_4, u104_4, false, none, none, []⟩
noncomputable def con104 : Con := ⟨[eT7], [.val .bool], fun x => f104 x.1.1 x.1.2⟩
theorem k104 : con104.OK Tryz.prog 104 := con_of_tree (n := 10) (lf := big) (lookC_ok (l := [(132, con132)]) (u := []) ⟨k132, trivial⟩ trivial) (rounds_of (l := [(kN0, 4, l104_4)]) ⟨⟨by kernel_rfl, fun z => by kernel_rfl⟩, trivial⟩) fun x => by kernel_rfl
noncomputable def con67 : Con := ⟨[.i], [.val eT7, .val .bool], fun x => f67 x.1⟩
theorem k67 : con67.OK Tryz.prog 67 := con_of_tree (n := 10) (lf := big) (lookC_ok (l := [(104, con104)]) (u := []) ⟨k104, trivial⟩ trivial) (rounds_of (l := []) trivial) fun x => by kernel_rfl
noncomputable def con106 : Con := ⟨[eT7], [.val eT7], fun x => f106 x.1.1 x.1.2⟩
theorem k106 : con106.OK Tryz.prog 106 := con_of_tree (n := 10) (lf := big) (lookC_ok (l := [(133, conCTimer)]) (u := []) ⟨okCTimer, trivial⟩ trivial) (rounds_of (l := []) trivial) fun x => by kernel_rfl
noncomputable def con135 : Con := ⟨[.i], [.val .i], fun x => f135 x.1⟩
theorem k135 : con135.OK Tryz.prog 135 := con_of_tree (n := 10) (lf := big) (lookC_ok (l := []) (u := []) trivial trivial) (rounds_of (l := []) trivial) fun x => by kernel_rfl
noncomputable def con136 : Con := ⟨[eT0], [.val .bool], fun x => f136 x.1.1 x.1.2⟩
theorem k136 : con136.OK Tryz.prog 136 := con_of_tree (n := 10) (lf := big) (lookC_ok (l := []) (u := []) trivial trivial) (rounds_of (l := []) trivial) fun x => by kernel_rfl
abbrev s70_138_2_0 : LShape := ⟨19, [kK12, kK34, (7, .i), (8, .i)], [kO48, kO45], [], []⟩
abbrev o70_138_2_0 : LShape := ⟨19, [], [kO48, kO45], [], []⟩
abbrev q70_138_2_0 : LShape := ⟨19, [(4, .i)], [kO48, kO45], [], []⟩
noncomputable def l70_138_2_0 : LSum := ⟨7, 138, s70_138_2_0, 0, o70_138_2_0, q70_138_2_0, u70_138_2_0, false, none, none, []⟩
abbrev s70_113_5_0 : LShape := ⟨42, [kK12, kK34, (5, .i), (6, .i)], [kO48, kO45], [], []⟩
abbrev o70_113_5_0 : LShape := ⟨42, [kK12, (5, .i)], [kO48, kO45], [], []⟩
abbrev q70_113_5_0 : LShape := ⟨42, [], [kO48, kO45], [], []⟩
noncomputable def l70_113_5_0 : LSum := ⟨8, 113, s70_113_5_0, 0, o70_113_5_0, q70_113_5_0, u70_113_5_0, false, none, none, []⟩
noncomputable def con70 : Con := ⟨[eT6, .i], [.own 68 eT3], fun x => f70 x.1 x.2.1⟩
theorem k70 : con70.OK Tryz.prog 70 := con_of_tree (n := 10) (lf := big) (lookC_ok (l := [(78, conCHeld)]) (u := []) ⟨okCHeld, trivial⟩ trivial) (rounds_of (l := [(n4, 2, l70_138_2_0), (n5, 5, l70_113_5_0)]) ⟨⟨by kernel_rfl, fun z => by kernel_rfl⟩, ⟨by kernel_rfl, fun z => by kernel_rfl⟩, trivial⟩) fun x => by kernel_rfl
abbrev s157_4 : LShape := ⟨37, [kK31, (2, .i), (7, .fix (.ptr kN1 0)), (16, .cont eT3), (17, .i), (18, .i)], [], [(kN1, .box 95 [.i, .i, .i])], []⟩
abbrev o157_4 : LShape := ⟨37, [kK31, (2, .i)], [], [], []⟩
abbrev q157_4 : LShape := ⟨37, [(8, .i)], [], [], []⟩
noncomputable def l157_4 : LSum := ⟨9, 157, s157_4, 0, o157_4, q157_4, u157_4, false, none, none, []⟩
noncomputable def con157 : Con := ⟨[eT8, eT6, .i, eT3], [.val .i], fun x => f157 x.1.1 x.1.2.1 x.1.2.2.1 x.1.2.2.2.1.1 x.1.2.2.2.1.2.1 x.1.2.2.2.1.2.2 x.1.2.2.2.2 x.2.1 x.2.2.1 x.2.2.2.1.1 x.2.2.2.1.2.1 x.2.2.2.1.2.2⟩
theorem k157 : con157.OK Tryz.prog 157 := con_of_tree (n := 10) (lf := big) (lookC_ok (l := [(91, con91), (92, con92)]) (u := []) ⟨k91, k92, trivial⟩ trivial) (rounds_of (l := [(kN0, 4, l157_4)]) ⟨⟨by kernel_rfl, fun z => by kernel_rfl⟩, trivial⟩) fun x => by kernel_rfl
abbrev s139_184_2_0 : LShape := ⟨19, [(0, .cont .i), (1, .fix (.fn (.func 156) [] [(.ptr kN1 0), (.ptr kN0 0), (.ptr n6 0)])), (7, .i), (8, .i)], [kO76, kO77, kO89, kO90], [], []⟩
abbrev o139_184_2_0 : LShape := ⟨19, [], [kO76, kO77, kO89, kO90], [], []⟩
abbrev q139_184_2_0 : LShape := ⟨19, [(4, .i)], [kO76, kO77, kO89, kO90], [], []⟩
noncomputable def l139_184_2_0 : LSum := ⟨6, 184, s139_184_2_0, 0, o139_184_2_0, q139_184_2_0, u139_184_2_0, false, none, none, []⟩
abbrev s139_184_2_1 : LShape := ⟨19, [(0, .cont .i), (1, .fix (.fn (.func 156) [] [(.ptr kN1 0), (.ptr kN0 0), (.ptr n7 0)])), (7, .i), (8, .i)], [kO76, kO77, kO91], [], []⟩
abbrev o139_184_2_1 : LShape := ⟨19, [], [kO76, kO77, kO91], [], []⟩
abbrev q139_184_2_1 : LShape := ⟨19, [(4, .i)], [kO76, kO77, kO91], [], []⟩
noncomputable def l139_184_2_1 : LSum := ⟨6, 184, s139_184_2_1, 0, o139_184_2_1, q139_184_2_1, u139_184_2_1, false, none, none, []⟩
noncomputable def con139 : Con := ⟨[eT8, eT6], [.val .i], fun x => f139 x.1.1 x.1.2.1 x.1.2.2.1 x.1.2.2.2.1.1 x.1.2.2.2.1.2.1 x.1.2.2.2.1.2.2 x.1.2.2.2.2 x.2.1⟩
theorem k139 : con139.OK Tryz.prog 139 := con_of_tree (n := 10) (lf := big) (lookC_ok (l := [(45, con45), (55, con55), (157, con157)]) (u := []) ⟨k45, k55, k157, trivial⟩ trivial) (rounds_of (l := [(n8, 2, l139_184_2_0), (n9, 2, l139_184_2_1)]) ⟨⟨by kernel_rfl, fun z => by kernel_rfl⟩, ⟨by kernel_rfl, fun z => by kernel_rfl⟩, trivial⟩) fun x => by kernel_rfl
noncomputable def con115 : Con := ⟨[eT8, eT6], [.own 95 eT3, .val .i], fun x => f115 x.1.1 x.1.2.1 x.1.2.2.1 x.1.2.2.2.1.1 x.1.2.2.2.1.2.1 x.1.2.2.2.1.2.2 x.1.2.2.2.2 x.2.1⟩
theorem k115 : con115.OK Tryz.prog 115 := con_of_tree (n := 10) (lf := big) (lookC_ok (l := [(77, conCPool), (139, con139)]) (u := []) ⟨okCPool, k139, trivial⟩ trivial) (rounds_of (l := []) trivial) fun x => by kernel_rfl
noncomputable def con72 : Con := ⟨[eT6, .i, .i, .i], [.own 95 eT3, .val .i], fun x => f72 x.1 x.2.1 x.2.2.1 x.2.2.2.1⟩
theorem k72 : con72.OK Tryz.prog 72 := con_of_tree (n := 10) (lf := big) (lookC_ok (l := [(115, con115)]) (u := []) ⟨k115, trivial⟩ trivial) (rounds_of (l := []) trivial) fun x => by kernel_rfl
noncomputable def con73 : Con := ⟨[eT6, .i, .i], [.own 95 eT3, .val .i], fun x => f73 x.1 x.2.1 x.2.2.1⟩
theorem k73 : con73.OK Tryz.prog 73 := con_of_tree (n := 10) (lf := big) (lookC_ok (l := [(115, con115)]) (u := []) ⟨k115, trivial⟩ trivial) (rounds_of (l := []) trivial) fun x => by kernel_rfl
noncomputable def con74 : Con := ⟨[eT6, .i, .i, .i, (.row .i)], [.own 95 eT3, .val .i], fun x => f74 x.1 x.2.1 x.2.2.1 x.2.2.2.1 x.2.2.2.2.1⟩
theorem k74 : con74.OK Tryz.prog 74 := con_of_tree (n := 10) (lf := big) (lookC_ok (l := [(115, con115)]) (u := []) ⟨k115, trivial⟩ trivial) (rounds_of (l := []) trivial) fun x => by kernel_rfl
abbrev s75_3 : LShape := ⟨24, [(6, .cont eT4), (7, .i), (8, .i)], [], [], [⟨.t 3, 8294967488, 3, .i⟩]⟩
abbrev o75_3 : LShape := ⟨24, [], [], [], [⟨.t 3, 8294967520, 3, .i⟩]⟩
abbrev q75_3 : LShape := ⟨24, [], [], [], []⟩
noncomputable def l75_3 : LSum := ⟨9, 75, s75_3, 0, o75_3, q75_3, u75_3, false, none, none, []⟩
noncomputable def con75 : Con := ⟨[eT9], [.own 3 .i], fun x => f75 x.1⟩
theorem k75 : con75.OK Tryz.prog 75 := con_of_tree (n := 10) (lf := big) (lookC_ok (l := [(98, con98)]) (u := [(116, uSort), (117, uCompact)]) ⟨k98, trivial⟩ ⟨okSort, okCompact, trivial⟩) (rounds_of (l := [(kN0, 3, l75_3)]) ⟨⟨by kernel_rfl, fun z => by kernel_rfl⟩, trivial⟩) fun x => by kernel_rfl
noncomputable def con76 : Con := ⟨[eT6, .i, .i, (.row .i)], [.own 95 eT3, .val .i], fun x => f76 x.1 x.2.1 x.2.2.1 x.2.2.2.1⟩
theorem k76 : con76.OK Tryz.prog 76 := con_of_tree (n := 10) (lf := big) (lookC_ok (l := [(115, con115)]) (u := []) ⟨k115, trivial⟩ trivial) (rounds_of (l := []) trivial) fun x => by kernel_rfl
noncomputable def con40 : Con := ⟨[eT1], [.pair (.val eT5) (.pair (.val eT10) (.pair (.val .i) (.pair (.own 95 eT3) (.pair (.own 55 eT4) (.own 68 eT3)))))], fun x => f40 x.1.1.1.1 x.1.1.1.2 x.1.1.2.1.1 x.1.1.2.1.2 x.1.1.2.2.1 x.1.1.2.2.2.1 x.1.1.2.2.2.2.1 x.1.1.2.2.2.2.2 x.1.2.1.1 x.1.2.1.2.1 x.1.2.1.2.2.1 x.1.2.1.2.2.2 x.1.2.2.1 x.1.2.2.2.1 x.1.2.2.2.2.1 x.1.2.2.2.2.2⟩
theorem k40 : con40.OK Tryz.prog 40 := con_of_tree (n := 10) (lf := big) (lookC_ok (l := [(58, conCLease), (77, conCPool), (78, conCHeld)]) (u := []) ⟨okCLease, okCPool, okCHeld, trivial⟩ trivial) (rounds_of (l := []) trivial) fun x => by kernel_rfl
abbrev s60_4 : LShape := ⟨26, [kK32, (1, .cont eT4), (12, .i), (13, .i)], [], [], []⟩
abbrev o60_4 : LShape := ⟨26, [], [], [], []⟩
abbrev q60_4 : LShape := ⟨26, [(4, .bool)], [], [], []⟩
noncomputable def l60_4 : LSum := ⟨9, 60, s60_4, 0, o60_4, q60_4, u60_4, false, none, none, []⟩
noncomputable def con60 : Con := ⟨[eT9, eT9], [.val .bool], fun x => f60 x.1 x.2.1⟩
theorem k60 : con60.OK Tryz.prog 60 := con_of_tree (n := 10) (lf := big) (lookC_ok (l := []) (u := []) trivial trivial) (rounds_of (l := [(kN0, 4, l60_4)]) ⟨⟨by kernel_rfl, fun z => by kernel_rfl⟩, trivial⟩) fun x => by kernel_rfl
noncomputable def con25 : Con := ⟨[eT9, eT9], [.val .bool], fun x => f25 x.1 x.2.1⟩
theorem k25 : con25.OK Tryz.prog 25 := con_of_tree (n := 10) (lf := big) (lookC_ok (l := [(60, con60)]) (u := []) ⟨k60, trivial⟩ trivial) (rounds_of (l := []) trivial) fun x => by kernel_rfl
abbrev s61_4 : LShape := ⟨26, [kK9, kK31, (12, .i), (13, .i)], [], [], []⟩
abbrev o61_4 : LShape := ⟨26, [], [], [], []⟩
abbrev q61_4 : LShape := ⟨26, [(4, .bool)], [], [], []⟩
noncomputable def l61_4 : LSum := ⟨9, 61, s61_4, 0, o61_4, q61_4, u61_4, false, none, none, []⟩
noncomputable def con61 : Con := ⟨[eT6, eT6], [.val .bool], fun x => f61 x.1 x.2.1⟩
theorem k61 : con61.OK Tryz.prog 61 := con_of_tree (n := 10) (lf := big) (lookC_ok (l := []) (u := []) trivial trivial) (rounds_of (l := [(kN0, 4, l61_4)]) ⟨⟨by kernel_rfl, fun z => by kernel_rfl⟩, trivial⟩) fun x => by kernel_rfl
noncomputable def con26 : Con := ⟨[eT6, eT6], [.val .bool], fun x => f26 x.1 x.2.1⟩
theorem k26 : con26.OK Tryz.prog 26 := con_of_tree (n := 10) (lf := big) (lookC_ok (l := [(61, con61)]) (u := []) ⟨k61, trivial⟩ trivial) (rounds_of (l := []) trivial) fun x => by kernel_rfl
abbrev s79_4 : LShape := ⟨26, [kK9, kK31, (12, .i), (13, .i)], [], [], []⟩
abbrev o79_4 : LShape := ⟨26, [], [], [], []⟩
abbrev q79_4 : LShape := ⟨26, [(4, .bool)], [], [], []⟩
noncomputable def l79_4 : LSum := ⟨9, 79, s79_4, 0, o79_4, q79_4, u79_4, false, none, none, []⟩
noncomputable def con79 : Con := ⟨[eT6, eT6], [.val .bool], fun x => f79 x.1 x.2.1⟩
theorem k79 : con79.OK Tryz.prog 79 := con_of_tree (n := 10) (lf := big) (lookC_ok (l := []) (u := []) trivial trivial) (rounds_of (l := [(kN0, 4, l79_4)]) ⟨⟨by kernel_rfl, fun z => by kernel_rfl⟩, trivial⟩) fun x => by kernel_rfl
noncomputable def con42 : Con := ⟨[eT6, eT6], [.val .bool], fun x => f42 x.1 x.2.1⟩
theorem k42 : con42.OK Tryz.prog 42 := con_of_tree (n := 10) (lf := big) (lookC_ok (l := [(79, con79)]) (u := []) ⟨k79, trivial⟩ trivial) (rounds_of (l := []) trivial) fun x => by kernel_rfl
noncomputable def con14 : Con := ⟨[eT1, eT1], [.val .bool], fun x => f14 x.1.1.1.1 x.1.1.1.2 x.1.1.2.1.1 x.1.1.2.1.2 x.1.1.2.2.1 x.1.1.2.2.2.1 x.1.1.2.2.2.2.1 x.1.1.2.2.2.2.2 x.1.2.1.1 x.1.2.1.2.1 x.1.2.1.2.2.1 x.1.2.1.2.2.2 x.1.2.2.1 x.1.2.2.2.1 x.1.2.2.2.2.1 x.1.2.2.2.2.2 x.2.1.1.1.1 x.2.1.1.1.2 x.2.1.1.2.1.1 x.2.1.1.2.1.2 x.2.1.1.2.2.1 x.2.1.1.2.2.2.1 x.2.1.1.2.2.2.2.1 x.2.1.1.2.2.2.2.2 x.2.1.2.1.1 x.2.1.2.1.2.1 x.2.1.2.1.2.2.1 x.2.1.2.1.2.2.2 x.2.1.2.2.1 x.2.1.2.2.2.1 x.2.1.2.2.2.2.1 x.2.1.2.2.2.2.2⟩
theorem k14 : con14.OK Tryz.prog 14 := con_of_tree (n := 10) (lf := big) (lookC_ok (l := [(25, con25), (26, con26), (42, con42)]) (u := []) ⟨k25, k26, k42, trivial⟩ trivial) (rounds_of (l := []) trivial) fun x => by kernel_rfl
noncomputable def con16 : Con := ⟨[eT5, eT10], [.val eT1, .val .bool], fun x => f16 x.1.1.1 x.1.1.2 x.1.2.1.1 x.1.2.1.2 x.1.2.2.1 x.1.2.2.2.1 x.1.2.2.2.2.1 x.1.2.2.2.2.2 x.2.1.1 x.2.1.2.1 x.2.1.2.2.1 x.2.1.2.2.2⟩
theorem k16 : con16.OK Tryz.prog 16 := con_of_tree (n := 10) (lf := big) (lookC_ok (l := [(15, con15)]) (u := []) ⟨k15, trivial⟩ trivial) (rounds_of (l := []) trivial) fun x => by kernel_rfl
noncomputable def con27 : Con := ⟨[], [.val eT5], fun x => f27 ⟩
theorem k27 : con27.OK Tryz.prog 27 := con_of_tree (n := 10) (lf := big) (lookC_ok (l := []) (u := []) trivial trivial) (rounds_of (l := []) trivial) fun x => by kernel_rfl
abbrev s68_134_2_0 : LShape := ⟨19, [(0, .cont eT0), (1, .fix (.fn (.func 105) [] [(.ptr kN1 0)])), (7, .i), (8, .i)], [kO0, kO13, (kN2, .box 111 [.i, .fix (.sl 79228767881064622257819297920 0)])], [], [⟨.c kN2 1, 79228767881064622257819297920, 119, eT0⟩]⟩
abbrev o68_134_2_0 : LShape := ⟨19, [], [kO0, kO13, kO14], [], [⟨.c kN2 1, n10, 119, eT0⟩]⟩
abbrev q68_134_2_0 : LShape := ⟨19, [(4, .i)], [kO0, kO13, (kN2, .box 111 [.i, .fix (.sl 79228767881064622257819297968 0)])], [], [⟨.c kN2 1, 79228767881064622257819297968, 119, eT0⟩]⟩
noncomputable def l68_134_2_0 : LSum := ⟨7, 134, s68_134_2_0, 0, o68_134_2_0, q68_134_2_0, u68_134_2_0, false, none, none, []⟩
abbrev s68_108_3_0 : LShape := ⟨22, [(3, .fix (.ptr n11 0)), (11, .cont eT0), (12, .i), (13, .i)], [kO0, kO13, kO14, kO15], [(n11, .box 160 [.i, .fix (.sl 18446955256956528832 0), .fix (.sl 18446955256956528833 0), .fix (.sl 18446955256956528834 0), .fix (.sl 18446955256956528835 0), .fix (.sl 18446955256956528836 0), .fix (.sl 18446955256956528837 0), .fix (.sl 18446955256956528838 0), .fix (.sl 18446955256956528839 0)])], [⟨.c n11 1, 18446955256956528832, 119, eT0⟩, ⟨.c n11 2, 18446955256956528833, 119, eT0⟩, ⟨.c n11 3, 18446955256956528834, 119, eT0⟩, ⟨.c n11 4, 18446955256956528835, 119, eT0⟩, ⟨.c n11 5, 18446955256956528836, 119, eT0⟩, ⟨.c n11 6, 18446955256956528837, 119, eT0⟩, ⟨.c n11 7, 18446955256956528838, 119, eT0⟩, ⟨.c n11 8, 18446955256956528839, 119, eT0⟩]⟩
abbrev o68_108_3_0 : LShape := ⟨22, [(3, .fix (.ptr n11 0))], [kO0, kO13, kO14, kO15], [(n11, .box 160 [.i, .fix (.sl n12 0), .fix (.sl n13 0), .fix (.sl n14 0), .fix (.sl n15 0), .fix (.sl n16 0), .fix (.sl n17 0), .fix (.sl n18 0), .fix (.sl n19 0)])], [⟨.c n11 1, n12, 119, eT0⟩, ⟨.c n11 2, n13, 119, eT0⟩, ⟨.c n11 3, n14, 119, eT0⟩, ⟨.c n11 4, n15, 119, eT0⟩, ⟨.c n11 5, n16, 119, eT0⟩, ⟨.c n11 6, n17, 119, eT0⟩, ⟨.c n11 7, n18, 119, eT0⟩, ⟨.c n11 8, n19, 119, eT0⟩]⟩
abbrev q68_108_3_0 : LShape := ⟨22, [], [kO11, kO12, kO46, kO49], [], []⟩
noncomputable def l68_108_3_0 : LSum := ⟨8, 108, s68_108_3_0, 0, o68_108_3_0, q68_108_3_0, u68_108_3_0, false, none, none, []⟩
abbrev s68_111_7_0 : LShape := ⟨47, [kK4, kK0, kK13, kK5, kK14, (19, .fix (.sl n12 1)), kK2, kK3], [kO0, kO13, kO14, kO15, kO94, kO16, kO17, kO18, kO19, kO20, kO21, kO22, kO23, kO24, kO25, (n22, .box 111 [.i, .fix (.sl n23 0)])], [], [kR0, kR1, ⟨.c n22 1, n23, 119, eT0⟩]⟩
abbrev o68_111_7_0 : LShape := ⟨47, [kK4, kK0, kK13, kK5, kK14], [kO0, kO13, kO14, kO15, kO94, kO16, kO17, kO18, kO19, kO20, kO21, kO22, kO23, kO24, kO25, (n22, .box 111 [.i, .fix (.sl n26 0)])], [], [kR2, kR3, ⟨.c n22 1, n26, 119, eT0⟩]⟩
abbrev q68_111_7_0 : LShape := ⟨47, [], kL0, [], []⟩
noncomputable def l68_111_7_0 : LSum := ⟨7, 111, s68_111_7_0, 2, o68_111_7_0, q68_111_7_0, u68_111_7_0, false, none, some (15, 0), []⟩
abbrev s68_111_7_1 : LShape := ⟨47, [kK4, kK0, kK15, kK5, kK16, (19, .fix (.sl n13 1)), kK2, kK3], [kO0, kO13, kO14, kO15, (n11, .box 160 [.i, .fix (.sl n23 0), .fix (.sl n13 1), .fix (.sl n14 1), .fix (.sl n15 1), .fix (.sl n16 1), .fix (.sl n17 1), .fix (.sl n18 1), .fix (.sl n19 1)]), kO16, kO17, kO18, kO19, kO20, kO21, kO22, kO23, kO24, kO25, (n22, .box 111 [.i, .fix (.sl n29 0)])], [], [kR0, kR1, kR12, ⟨.c n22 1, n29, 119, eT0⟩]⟩
abbrev o68_111_7_1 : LShape := ⟨47, [kK4, kK0, kK15, kK5, kK16], [kO0, kO13, kO14, kO15, (n11, .box 160 [.i, .fix (.sl n26 0), .fix (.sl n13 1), .fix (.sl n14 1), .fix (.sl n15 1), .fix (.sl n16 1), .fix (.sl n17 1), .fix (.sl n18 1), .fix (.sl n19 1)]), kO16, kO17, kO18, kO19, kO20, kO21, kO22, kO23, kO24, kO25, (n22, .box 111 [.i, .fix (.sl n30 0)])], [], [kR2, kR3, kR13, ⟨.c n22 1, n30, 119, eT0⟩]⟩
abbrev q68_111_7_1 : LShape := ⟨47, [], kL0, [], []⟩
noncomputable def l68_111_7_1 : LSum := ⟨7, 111, s68_111_7_1, 2, o68_111_7_1, q68_111_7_1, u68_111_7_1, false, none, some (15, 1), []⟩
abbrev s68_111_7_2 : LShape := ⟨47, [kK4, kK0, kK17, kK5, kK18, (19, .fix (.sl n14 1)), kK2, kK3], [kO0, kO13, kO14, kO15, (n11, .box 160 [.i, .fix (.sl n23 0), .fix (.sl n29 0), .fix (.sl n14 1), .fix (.sl n15 1), .fix (.sl n16 1), .fix (.sl n17 1), .fix (.sl n18 1), .fix (.sl n19 1)]), kO16, kO17, kO18, kO19, kO20, kO21, kO22, kO23, kO24, kO25, (n22, .box 111 [.i, .fix (.sl n31 0)])], [], [kR0, kR1, kR12, kR18, ⟨.c n22 1, n31, 119, eT0⟩]⟩
abbrev o68_111_7_2 : LShape := ⟨47, [kK4, kK0, kK17, kK5, kK18], [kO0, kO13, kO14, kO15, (n11, .box 160 [.i, .fix (.sl n26 0), .fix (.sl n30 0), .fix (.sl n14 1), .fix (.sl n15 1), .fix (.sl n16 1), .fix (.sl n17 1), .fix (.sl n18 1), .fix (.sl n19 1)]), kO16, kO17, kO18, kO19, kO20, kO21, kO22, kO23, kO24, kO25, (n22, .box 111 [.i, .fix (.sl n32 0)])], [], [kR2, kR3, kR13, kR19, ⟨.c n22 1, n32, 119, eT0⟩]⟩
abbrev q68_111_7_2 : LShape := ⟨47, [], kL0, [], []⟩
noncomputable def l68_111_7_2 : LSum := ⟨7, 111, s68_111_7_2, 2, o68_111_7_2, q68_111_7_2, u68_111_7_2, false, none, some (15, 2), []⟩
abbrev s68_111_7_3 : LShape := ⟨47, [kK4, kK0, kK19, kK5, kK20, (19, .fix (.sl n15 1)), kK2, kK3], [kO0, kO13, kO14, kO15, (n11, .box 160 [.i, .fix (.sl n23 0), .fix (.sl n29 0), .fix (.sl n31 0), .fix (.sl n15 1), .fix (.sl n16 1), .fix (.sl n17 1), .fix (.sl n18 1), .fix (.sl n19 1)]), kO16, kO17, kO18, kO19, kO20, kO21, kO22, kO23, kO24, kO25, (n22, .box 111 [.i, .fix (.sl n33 0)])], [], [kR0, kR1, kR12, kR18, kR24, ⟨.c n22 1, n33, 119, eT0⟩]⟩
abbrev o68_111_7_3 : LShape := ⟨47, [kK4, kK0, kK19, kK5, kK20], [kO0, kO13, kO14, kO15, (n11, .box 160 [.i, .fix (.sl n26 0), .fix (.sl n30 0), .fix (.sl n32 0), .fix (.sl n15 1), .fix (.sl n16 1), .fix (.sl n17 1), .fix (.sl n18 1), .fix (.sl n19 1)]), kO16, kO17, kO18, kO19, kO20, kO21, kO22, kO23, kO24, kO25, (n22, .box 111 [.i, .fix (.sl n34 0)])], [], [kR2, kR3, kR13, kR19, kR25, ⟨.c n22 1, n34, 119, eT0⟩]⟩
abbrev q68_111_7_3 : LShape := ⟨47, [], kL0, [], []⟩
noncomputable def l68_111_7_3 : LSum := ⟨7, 111, s68_111_7_3, 2, o68_111_7_3, q68_111_7_3, u68_111_7_3, false, none, some (15, 3), []⟩
abbrev s68_111_7_4 : LShape := ⟨47, [kK4, kK0, kK21, kK5, kK22, (19, .fix (.sl n16 1)), kK2, kK3], [kO0, kO13, kO14, kO15, (n11, .box 160 [.i, .fix (.sl n23 0), .fix (.sl n29 0), .fix (.sl n31 0), .fix (.sl n33 0), .fix (.sl n16 1), .fix (.sl n17 1), .fix (.sl n18 1), .fix (.sl n19 1)]), kO16, kO17, kO18, kO19, kO20, kO21, kO22, kO23, kO24, kO25, (n22, .box 111 [.i, .fix (.sl n35 0)])], [], [kR0, kR1, kR12, kR18, kR24, kR30, ⟨.c n22 1, n35, 119, eT0⟩]⟩
abbrev o68_111_7_4 : LShape := ⟨47, [kK4, kK0, kK21, kK5, kK22], [kO0, kO13, kO14, kO15, (n11, .box 160 [.i, .fix (.sl n26 0), .fix (.sl n30 0), .fix (.sl n32 0), .fix (.sl n34 0), .fix (.sl n16 1), .fix (.sl n17 1), .fix (.sl n18 1), .fix (.sl n19 1)]), kO16, kO17, kO18, kO19, kO20, kO21, kO22, kO23, kO24, kO25, (n22, .box 111 [.i, .fix (.sl n36 0)])], [], [kR2, kR3, kR13, kR19, kR25, kR31, ⟨.c n22 1, n36, 119, eT0⟩]⟩
abbrev q68_111_7_4 : LShape := ⟨47, [], kL0, [], []⟩
noncomputable def l68_111_7_4 : LSum := ⟨7, 111, s68_111_7_4, 2, o68_111_7_4, q68_111_7_4, u68_111_7_4, false, none, some (15, 4), []⟩
abbrev s68_111_7_5 : LShape := ⟨47, [kK4, kK0, kK23, kK5, kK24, (19, .fix (.sl n17 1)), kK2, kK3], [kO0, kO13, kO14, kO15, (n11, .box 160 [.i, .fix (.sl n23 0), .fix (.sl n29 0), .fix (.sl n31 0), .fix (.sl n33 0), .fix (.sl n35 0), .fix (.sl n17 1), .fix (.sl n18 1), .fix (.sl n19 1)]), kO16, kO17, kO18, kO19, kO20, kO21, kO22, kO23, kO24, kO25, (n22, .box 111 [.i, .fix (.sl n37 0)])], [], [kR0, kR1, kR12, kR18, kR24, kR30, kR36, ⟨.c n22 1, n37, 119, eT0⟩]⟩
abbrev o68_111_7_5 : LShape := ⟨47, [kK4, kK0, kK23, kK5, kK24], [kO0, kO13, kO14, kO15, (n11, .box 160 [.i, .fix (.sl n26 0), .fix (.sl n30 0), .fix (.sl n32 0), .fix (.sl n34 0), .fix (.sl n36 0), .fix (.sl n17 1), .fix (.sl n18 1), .fix (.sl n19 1)]), kO16, kO17, kO18, kO19, kO20, kO21, kO22, kO23, kO24, kO25, (n22, .box 111 [.i, .fix (.sl n38 0)])], [], [kR2, kR3, kR13, kR19, kR25, kR31, kR37, ⟨.c n22 1, n38, 119, eT0⟩]⟩
abbrev q68_111_7_5 : LShape := ⟨47, [], kL0, [], []⟩
noncomputable def l68_111_7_5 : LSum := ⟨7, 111, s68_111_7_5, 2, o68_111_7_5, q68_111_7_5, u68_111_7_5, false, none, some (15, 5), []⟩
abbrev s68_111_7_6 : LShape := ⟨47, [kK4, kK0, kK25, kK5, kK26, (19, .fix (.sl n18 1)), kK2, kK3], [kO0, kO13, kO14, kO15, (n11, .box 160 [.i, .fix (.sl n23 0), .fix (.sl n29 0), .fix (.sl n31 0), .fix (.sl n33 0), .fix (.sl n35 0), .fix (.sl n37 0), .fix (.sl n18 1), .fix (.sl n19 1)]), kO16, kO17, kO18, kO19, kO20, kO21, kO22, kO23, kO24, kO25, (n22, .box 111 [.i, .fix (.sl n39 0)])], [], [kR0, kR1, kR12, kR18, kR24, kR30, kR36, ⟨.c n11 6, n37, 119, eT0⟩, ⟨.c n22 1, n39, 119, eT0⟩]⟩
abbrev o68_111_7_6 : LShape := ⟨47, [kK4, kK0, kK25, kK5, kK26], [kO0, kO13, kO14, kO15, (n11, .box 160 [.i, .fix (.sl n26 0), .fix (.sl n30 0), .fix (.sl n32 0), .fix (.sl n34 0), .fix (.sl n36 0), .fix (.sl n38 0), .fix (.sl n18 1), .fix (.sl n19 1)]), kO16, kO17, kO18, kO19, kO20, kO21, kO22, kO23, kO24, kO25, (n22, .box 111 [.i, .fix (.sl n40 0)])], [], [kR2, kR3, kR13, kR19, kR25, kR31, kR37, ⟨.c n11 6, n38, 119, eT0⟩, ⟨.c n22 1, n40, 119, eT0⟩]⟩
abbrev q68_111_7_6 : LShape := ⟨47, [], kL0, [], []⟩
noncomputable def l68_111_7_6 : LSum := ⟨7, 111, s68_111_7_6, 2, o68_111_7_6, q68_111_7_6, u68_111_7_6, false, none, some (15, 6), []⟩
abbrev s68_111_7_7 : LShape := ⟨47, [kK4, kK0, kK27, kK5, kK28, (19, .fix (.sl n19 1)), kK2, kK3], [kO0, kO13, kO14, kO15, (n11, .box 160 [.i, .fix (.sl n23 0), .fix (.sl n29 0), .fix (.sl n31 0), .fix (.sl n33 0), .fix (.sl n35 0), .fix (.sl n37 0), .fix (.sl n39 0), .fix (.sl n19 1)]), kO16, kO17, kO18, kO19, kO20, kO21, kO22, kO23, kO24, kO25, (n22, .box 111 [.i, .fix (.sl 79229220637951167591212591561 0)])], [], [kR0, kR1, kR12, kR18, kR24, kR30, kR36, ⟨.c n11 6, n37, 119, eT0⟩, ⟨.c n11 7, n39, 119, eT0⟩, ⟨.c n22 1, 79229220637951167591212591561, 119, eT0⟩]⟩
abbrev o68_111_7_7 : LShape := ⟨47, [kK4, kK0, kK27, kK5, kK28], [kO0, kO13, kO14, kO15, (n11, .box 160 [.i, .fix (.sl n26 0), .fix (.sl n30 0), .fix (.sl n32 0), .fix (.sl n34 0), .fix (.sl n36 0), .fix (.sl n38 0), .fix (.sl n40 0), .fix (.sl n19 1)]), kO16, kO17, kO18, kO19, kO20, kO21, kO22, kO23, kO24, kO25, (n22, .box 111 [.i, .fix (.sl 79229220637951167591212591593 0)])], [], [kR2, kR3, kR13, kR19, kR25, kR31, kR37, ⟨.c n11 6, n38, 119, eT0⟩, ⟨.c n11 7, n40, 119, eT0⟩, ⟨.c n22 1, 79229220637951167591212591593, 119, eT0⟩]⟩
abbrev q68_111_7_7 : LShape := ⟨47, [], kL0, [], []⟩
noncomputable def l68_111_7_7 : LSum := ⟨7, 111, s68_111_7_7, 2, o68_111_7_7, q68_111_7_7, u68_111_7_7, false, none, some (15, 7), []⟩
noncomputable def con68 : Con := ⟨[eT7, .i, .i], [.val eT7, .val .i], fun x => f68 x.1.1 x.1.2 x.2.1 x.2.2.1⟩
theorem k68 : con68.OK Tryz.prog 68 := con_of_tree (n := 10) (lf := big) (lookC_ok (l := [(104, con104), (106, con106), (132, con132), (135, con135), (136, con136)]) (u := [(137, uSortT)]) ⟨k104, k106, k132, k135, k136, trivial⟩ ⟨okSortT, trivial⟩) (rounds_of (l := [(79228767881064622253819297792, 2, l68_134_2_0), (18446955252956528640, 3, l68_108_3_0), (n41, 7, l68_111_7_0), (n41, 7, l68_111_7_1), (n41, 7, l68_111_7_2), (n41, 7, l68_111_7_3), (n41, 7, l68_111_7_4), (n41, 7, l68_111_7_5), (n41, 7, l68_111_7_6), (n41, 7, l68_111_7_7)]) ⟨⟨by kernel_rfl, fun z => by kernel_rfl⟩, ⟨by kernel_rfl, fun z => by kernel_rfl⟩, ⟨by kernel_rfl, fun z => by kernel_rfl⟩, ⟨by kernel_rfl, fun z => by kernel_rfl⟩, ⟨by kernel_rfl, fun z => by kernel_rfl⟩, ⟨by kernel_rfl, fun z => by kernel_rfl⟩, ⟨by kernel_rfl, fun z => by kernel_rfl⟩, ⟨by kernel_rfl, fun z => by kernel_rfl⟩, ⟨by kernel_rfl, fun z => by kernel_rfl⟩, ⟨by kernel_rfl, fun z => by kernel_rfl⟩, trivial⟩) fun x => by kernel_rfl
abbrev s69_108_3_0 : LShape := ⟨22, [(3, .fix (.ptr n42 0)), (11, .cont eT0), (12, .i), (13, .i)], [kO0, (kN1, .box 111 [.i, .fix (.sl 18446849703840262336 0)])], [(n42, .box 160 [.i, .fix (.sl 18446849703840262337 0), .fix (.sl 18446849703840262338 0), .fix (.sl 18446849703840262339 0), .fix (.sl 18446849703840262340 0), .fix (.sl 18446849703840262341 0), .fix (.sl 18446849703840262342 0), .fix (.sl 18446849703840262343 0), .fix (.sl 18446849703840262344 0)])], [⟨.c kN1 1, 18446849703840262336, 119, eT0⟩, ⟨.c n42 1, 18446849703840262337, 119, eT0⟩, ⟨.c n42 2, 18446849703840262338, 119, eT0⟩, ⟨.c n42 3, 18446849703840262339, 119, eT0⟩, ⟨.c n42 4, 18446849703840262340, 119, eT0⟩, ⟨.c n42 5, 18446849703840262341, 119, eT0⟩, ⟨.c n42 6, 18446849703840262342, 119, eT0⟩, ⟨.c n42 7, 18446849703840262343, 119, eT0⟩, ⟨.c n42 8, 18446849703840262344, 119, eT0⟩]⟩
abbrev o69_108_3_0 : LShape := ⟨22, [(3, .fix (.ptr n42 0))], [kO0, kO1], [kO92], [⟨.c kN1 1, n43, 119, eT0⟩, ⟨.c n42 1, n44, 119, eT0⟩, ⟨.c n42 2, n45, 119, eT0⟩, ⟨.c n42 3, n46, 119, eT0⟩, ⟨.c n42 4, n47, 119, eT0⟩, ⟨.c n42 5, n48, 119, eT0⟩, ⟨.c n42 6, n49, 119, eT0⟩, ⟨.c n42 7, n50, 119, eT0⟩, ⟨.c n42 8, n51, 119, eT0⟩]⟩
abbrev q69_108_3_0 : LShape := ⟨22, [], [kO11, kO12], [], []⟩
noncomputable def l69_108_3_0 : LSum := ⟨8, 108, s69_108_3_0, 0, o69_108_3_0, q69_108_3_0, u69_108_3_0, false, none, none, []⟩
abbrev s69_111_7_0 : LShape := ⟨47, [kK1, kK6, kK13, kK7, kK14, (19, .fix (.sl n44 0)), kK2, kK3], kL5, [], [kR4, kR5]⟩
abbrev o69_111_7_0 : LShape := ⟨47, [kK1, kK6, kK13, kK7, kK14], kL5, [], [kR6, kR7]⟩
abbrev q69_111_7_0 : LShape := ⟨47, [], kL1, [], []⟩
noncomputable def l69_111_7_0 : LSum := ⟨8, 111, s69_111_7_0, 2, o69_111_7_0, q69_111_7_0, u69_111_7_0, false, none, some (15, 0), []⟩
abbrev s69_111_7_1 : LShape := ⟨47, [kK1, kK6, kK15, kK7, kK16, (19, .fix (.sl n45 0)), kK2, kK3], [kO0, kO1, (n42, .box 160 [.i, .fix (.sl n56 0), .fix (.sl n45 0), .fix (.sl n46 0), .fix (.sl n47 0), .fix (.sl n48 0), .fix (.sl n49 0), .fix (.sl n50 0), .fix (.sl n51 0)]), kO2, kO3, kO4, kO5, kO6, kO7, kO8, kO9, kO10], [], [kR4, kR5, kR14]⟩
abbrev o69_111_7_1 : LShape := ⟨47, [kK1, kK6, kK15, kK7, kK16], [kO0, kO1, (n42, .box 160 [.i, .fix (.sl n57 0), .fix (.sl n45 0), .fix (.sl n46 0), .fix (.sl n47 0), .fix (.sl n48 0), .fix (.sl n49 0), .fix (.sl n50 0), .fix (.sl n51 0)]), kO2, kO3, kO4, kO5, kO6, kO7, kO8, kO9, kO10], [], [kR6, kR7, kR15]⟩
abbrev q69_111_7_1 : LShape := ⟨47, [], kL1, [], []⟩
noncomputable def l69_111_7_1 : LSum := ⟨8, 111, s69_111_7_1, 2, o69_111_7_1, q69_111_7_1, u69_111_7_1, false, none, some (15, 1), []⟩
abbrev s69_111_7_2 : LShape := ⟨47, [kK1, kK6, kK17, kK7, kK18, (19, .fix (.sl n46 0)), kK2, kK3], [kO0, kO1, (n42, .box 160 [.i, .fix (.sl n56 0), .fix (.sl n58 0), .fix (.sl n46 0), .fix (.sl n47 0), .fix (.sl n48 0), .fix (.sl n49 0), .fix (.sl n50 0), .fix (.sl n51 0)]), kO2, kO3, kO4, kO5, kO6, kO7, kO8, kO9, kO10], [], [kR4, kR5, kR14, kR20]⟩
abbrev o69_111_7_2 : LShape := ⟨47, [kK1, kK6, kK17, kK7, kK18], [kO0, kO1, (n42, .box 160 [.i, .fix (.sl n57 0), .fix (.sl n59 0), .fix (.sl n46 0), .fix (.sl n47 0), .fix (.sl n48 0), .fix (.sl n49 0), .fix (.sl n50 0), .fix (.sl n51 0)]), kO2, kO3, kO4, kO5, kO6, kO7, kO8, kO9, kO10], [], [kR6, kR7, kR15, kR21]⟩
abbrev q69_111_7_2 : LShape := ⟨47, [], kL1, [], []⟩
noncomputable def l69_111_7_2 : LSum := ⟨8, 111, s69_111_7_2, 2, o69_111_7_2, q69_111_7_2, u69_111_7_2, false, none, some (15, 2), []⟩
abbrev s69_111_7_3 : LShape := ⟨47, [kK1, kK6, kK19, kK7, kK20, (19, .fix (.sl n47 0)), kK2, kK3], [kO0, kO1, (n42, .box 160 [.i, .fix (.sl n56 0), .fix (.sl n58 0), .fix (.sl n60 0), .fix (.sl n47 0), .fix (.sl n48 0), .fix (.sl n49 0), .fix (.sl n50 0), .fix (.sl n51 0)]), kO2, kO3, kO4, kO5, kO6, kO7, kO8, kO9, kO10], [], [kR4, kR5, kR14, kR20, kR26]⟩
abbrev o69_111_7_3 : LShape := ⟨47, [kK1, kK6, kK19, kK7, kK20], [kO0, kO1, (n42, .box 160 [.i, .fix (.sl n57 0), .fix (.sl n59 0), .fix (.sl n61 0), .fix (.sl n47 0), .fix (.sl n48 0), .fix (.sl n49 0), .fix (.sl n50 0), .fix (.sl n51 0)]), kO2, kO3, kO4, kO5, kO6, kO7, kO8, kO9, kO10], [], [kR6, kR7, kR15, kR21, kR27]⟩
abbrev q69_111_7_3 : LShape := ⟨47, [], kL1, [], []⟩
noncomputable def l69_111_7_3 : LSum := ⟨8, 111, s69_111_7_3, 2, o69_111_7_3, q69_111_7_3, u69_111_7_3, false, none, some (15, 3), []⟩
abbrev s69_111_7_4 : LShape := ⟨47, [kK1, kK6, kK21, kK7, kK22, (19, .fix (.sl n48 0)), kK2, kK3], [kO0, kO1, (n42, .box 160 [.i, .fix (.sl n56 0), .fix (.sl n58 0), .fix (.sl n60 0), .fix (.sl n62 0), .fix (.sl n48 0), .fix (.sl n49 0), .fix (.sl n50 0), .fix (.sl n51 0)]), kO2, kO3, kO4, kO5, kO6, kO7, kO8, kO9, kO10], [], [kR4, kR5, kR14, kR20, kR26, kR32]⟩
abbrev o69_111_7_4 : LShape := ⟨47, [kK1, kK6, kK21, kK7, kK22], [kO0, kO1, (n42, .box 160 [.i, .fix (.sl n57 0), .fix (.sl n59 0), .fix (.sl n61 0), .fix (.sl n63 0), .fix (.sl n48 0), .fix (.sl n49 0), .fix (.sl n50 0), .fix (.sl n51 0)]), kO2, kO3, kO4, kO5, kO6, kO7, kO8, kO9, kO10], [], [kR6, kR7, kR15, kR21, kR27, kR33]⟩
abbrev q69_111_7_4 : LShape := ⟨47, [], kL1, [], []⟩
noncomputable def l69_111_7_4 : LSum := ⟨8, 111, s69_111_7_4, 2, o69_111_7_4, q69_111_7_4, u69_111_7_4, false, none, some (15, 4), []⟩
abbrev s69_111_7_5 : LShape := ⟨47, [kK1, kK6, kK23, kK7, kK24, (19, .fix (.sl n49 0)), kK2, kK3], [kO0, kO1, (n42, .box 160 [.i, .fix (.sl n56 0), .fix (.sl n58 0), .fix (.sl n60 0), .fix (.sl n62 0), .fix (.sl n64 0), .fix (.sl n49 0), .fix (.sl n50 0), .fix (.sl n51 0)]), kO2, kO3, kO4, kO5, kO6, kO7, kO8, kO9, kO10], [], [kR4, kR5, kR14, kR20, kR26, kR32, kR38]⟩
abbrev o69_111_7_5 : LShape := ⟨47, [kK1, kK6, kK23, kK7, kK24], [kO0, kO1, (n42, .box 160 [.i, .fix (.sl n57 0), .fix (.sl n59 0), .fix (.sl n61 0), .fix (.sl n63 0), .fix (.sl n65 0), .fix (.sl n49 0), .fix (.sl n50 0), .fix (.sl n51 0)]), kO2, kO3, kO4, kO5, kO6, kO7, kO8, kO9, kO10], [], [kR6, kR7, kR15, kR21, kR27, kR33, kR39]⟩
abbrev q69_111_7_5 : LShape := ⟨47, [], kL1, [], []⟩
noncomputable def l69_111_7_5 : LSum := ⟨8, 111, s69_111_7_5, 2, o69_111_7_5, q69_111_7_5, u69_111_7_5, false, none, some (15, 5), []⟩
abbrev s69_111_7_6 : LShape := ⟨47, [kK1, kK6, kK25, kK7, kK26, (19, .fix (.sl n50 0)), kK2, kK3], [kO0, kO1, (n42, .box 160 [.i, .fix (.sl n56 0), .fix (.sl n58 0), .fix (.sl n60 0), .fix (.sl n62 0), .fix (.sl n64 0), .fix (.sl n66 0), .fix (.sl n50 0), .fix (.sl n51 0)]), kO2, kO3, kO4, kO5, kO6, kO7, kO8, kO9, kO10], [], [kR4, kR5, kR14, kR20, kR26, kR32, kR38, ⟨.c n42 6, n66, 119, eT0⟩]⟩
abbrev o69_111_7_6 : LShape := ⟨47, [kK1, kK6, kK25, kK7, kK26], [kO0, kO1, (n42, .box 160 [.i, .fix (.sl n57 0), .fix (.sl n59 0), .fix (.sl n61 0), .fix (.sl n63 0), .fix (.sl n65 0), .fix (.sl n67 0), .fix (.sl n50 0), .fix (.sl n51 0)]), kO2, kO3, kO4, kO5, kO6, kO7, kO8, kO9, kO10], [], [kR6, kR7, kR15, kR21, kR27, kR33, kR39, ⟨.c n42 6, n67, 119, eT0⟩]⟩
abbrev q69_111_7_6 : LShape := ⟨47, [], kL1, [], []⟩
noncomputable def l69_111_7_6 : LSum := ⟨8, 111, s69_111_7_6, 2, o69_111_7_6, q69_111_7_6, u69_111_7_6, false, none, some (15, 6), []⟩
abbrev s69_111_7_7 : LShape := ⟨47, [kK1, kK6, kK27, kK7, kK28, (19, .fix (.sl n51 0)), kK2, kK3], [kO0, kO1, (n42, .box 160 [.i, .fix (.sl n56 0), .fix (.sl n58 0), .fix (.sl n60 0), .fix (.sl n62 0), .fix (.sl n64 0), .fix (.sl n66 0), .fix (.sl 18446885025651304904 0), .fix (.sl n51 0)]), kO2, kO3, kO4, kO5, kO6, kO7, kO8, kO9, kO10], [], [kR4, kR5, kR14, kR20, kR26, kR32, kR38, ⟨.c n42 6, n66, 119, eT0⟩, ⟨.c n42 7, 18446885025651304904, 119, eT0⟩]⟩
abbrev o69_111_7_7 : LShape := ⟨47, [kK1, kK6, kK27, kK7, kK28], [kO0, kO1, (n42, .box 160 [.i, .fix (.sl n57 0), .fix (.sl n59 0), .fix (.sl n61 0), .fix (.sl n63 0), .fix (.sl n65 0), .fix (.sl n67 0), .fix (.sl n68 0), .fix (.sl n51 0)]), kO2, kO3, kO4, kO5, kO6, kO7, kO8, kO9, kO10], [], [kR6, kR7, kR15, kR21, kR27, kR33, kR39, ⟨.c n42 6, n67, 119, eT0⟩, ⟨.c n42 7, n68, 119, eT0⟩]⟩
abbrev q69_111_7_7 : LShape := ⟨47, [], kL1, [], []⟩
noncomputable def l69_111_7_7 : LSum := ⟨8, 111, s69_111_7_7, 2, o69_111_7_7, q69_111_7_7, u69_111_7_7, false, none, some (15, 7), []⟩
abbrev s69_111_7_8 : LShape := ⟨47, [kK1, kK0, kK13, kK8, kK14, (19, .fix (.sl n57 0)), kK2, kK3], [kO0, kO1, kO95, kO2, kO3, kO4, kO5, kO6, kO7, kO8, kO9, kO10, kO36, kO37, kO38, kO39, kO40, kO41, kO42, kO43, kO44, (n69, .box 111 [.i, .fix (.sl n70 0)])], [], [kR8, kR9, ⟨.c n69 1, n70, 119, eT0⟩]⟩
abbrev o69_111_7_8 : LShape := ⟨47, [kK1, kK0, kK13, kK8, kK14], [kO0, kO1, kO95, kO2, kO3, kO4, kO5, kO6, kO7, kO8, kO9, kO10, kO36, kO37, kO38, kO39, kO40, kO41, kO42, kO43, kO44, (n69, .box 111 [.i, .fix (.sl n73 0)])], [], [kR10, kR11, ⟨.c n69 1, n73, 119, eT0⟩]⟩
abbrev q69_111_7_8 : LShape := ⟨47, [], kL2, [], []⟩
noncomputable def l69_111_7_8 : LSum := ⟨7, 111, s69_111_7_8, 2, o69_111_7_8, q69_111_7_8, u69_111_7_8, false, none, some (15, 0), []⟩
abbrev s69_111_7_9 : LShape := ⟨47, [kK1, kK0, kK15, kK8, kK16, (19, .fix (.sl n59 0)), kK2, kK3], [kO0, kO1, (n42, .box 160 [.i, .fix (.sl n70 0), .fix (.sl n59 0), .fix (.sl n61 0), .fix (.sl n63 0), .fix (.sl n65 0), .fix (.sl n67 0), .fix (.sl n68 0), .fix (.sl n55 0)]), kO2, kO3, kO4, kO5, kO6, kO7, kO8, kO9, kO10, kO36, kO37, kO38, kO39, kO40, kO41, kO42, kO43, kO44, (n69, .box 111 [.i, .fix (.sl n76 0)])], [], [kR8, kR9, kR16, ⟨.c n69 1, n76, 119, eT0⟩]⟩
abbrev o69_111_7_9 : LShape := ⟨47, [kK1, kK0, kK15, kK8, kK16], [kO0, kO1, (n42, .box 160 [.i, .fix (.sl n73 0), .fix (.sl n59 0), .fix (.sl n61 0), .fix (.sl n63 0), .fix (.sl n65 0), .fix (.sl n67 0), .fix (.sl n68 0), .fix (.sl n55 0)]), kO2, kO3, kO4, kO5, kO6, kO7, kO8, kO9, kO10, kO36, kO37, kO38, kO39, kO40, kO41, kO42, kO43, kO44, (n69, .box 111 [.i, .fix (.sl n77 0)])], [], [kR10, kR11, kR17, ⟨.c n69 1, n77, 119, eT0⟩]⟩
abbrev q69_111_7_9 : LShape := ⟨47, [], kL2, [], []⟩
noncomputable def l69_111_7_9 : LSum := ⟨7, 111, s69_111_7_9, 2, o69_111_7_9, q69_111_7_9, u69_111_7_9, false, none, some (15, 1), []⟩
abbrev s69_111_7_10 : LShape := ⟨47, [kK1, kK0, kK17, kK8, kK18, (19, .fix (.sl n61 0)), kK2, kK3], [kO0, kO1, (n42, .box 160 [.i, .fix (.sl n70 0), .fix (.sl n76 0), .fix (.sl n61 0), .fix (.sl n63 0), .fix (.sl n65 0), .fix (.sl n67 0), .fix (.sl n68 0), .fix (.sl n55 0)]), kO2, kO3, kO4, kO5, kO6, kO7, kO8, kO9, kO10, kO36, kO37, kO38, kO39, kO40, kO41, kO42, kO43, kO44, (n69, .box 111 [.i, .fix (.sl n78 0)])], [], [kR8, kR9, kR16, kR22, ⟨.c n69 1, n78, 119, eT0⟩]⟩
abbrev o69_111_7_10 : LShape := ⟨47, [kK1, kK0, kK17, kK8, kK18], [kO0, kO1, (n42, .box 160 [.i, .fix (.sl n73 0), .fix (.sl n77 0), .fix (.sl n61 0), .fix (.sl n63 0), .fix (.sl n65 0), .fix (.sl n67 0), .fix (.sl n68 0), .fix (.sl n55 0)]), kO2, kO3, kO4, kO5, kO6, kO7, kO8, kO9, kO10, kO36, kO37, kO38, kO39, kO40, kO41, kO42, kO43, kO44, (n69, .box 111 [.i, .fix (.sl n79 0)])], [], [kR10, kR11, kR17, kR23, ⟨.c n69 1, n79, 119, eT0⟩]⟩
abbrev q69_111_7_10 : LShape := ⟨47, [], kL2, [], []⟩
noncomputable def l69_111_7_10 : LSum := ⟨7, 111, s69_111_7_10, 2, o69_111_7_10, q69_111_7_10, u69_111_7_10, false, none, some (15, 2), []⟩
abbrev s69_111_7_11 : LShape := ⟨47, [kK1, kK0, kK19, kK8, kK20, (19, .fix (.sl n63 0)), kK2, kK3], [kO0, kO1, (n42, .box 160 [.i, .fix (.sl n70 0), .fix (.sl n76 0), .fix (.sl n78 0), .fix (.sl n63 0), .fix (.sl n65 0), .fix (.sl n67 0), .fix (.sl n68 0), .fix (.sl n55 0)]), kO2, kO3, kO4, kO5, kO6, kO7, kO8, kO9, kO10, kO36, kO37, kO38, kO39, kO40, kO41, kO42, kO43, kO44, (n69, .box 111 [.i, .fix (.sl n80 0)])], [], [kR8, kR9, kR16, kR22, kR28, ⟨.c n69 1, n80, 119, eT0⟩]⟩
abbrev o69_111_7_11 : LShape := ⟨47, [kK1, kK0, kK19, kK8, kK20], [kO0, kO1, (n42, .box 160 [.i, .fix (.sl n73 0), .fix (.sl n77 0), .fix (.sl n79 0), .fix (.sl n63 0), .fix (.sl n65 0), .fix (.sl n67 0), .fix (.sl n68 0), .fix (.sl n55 0)]), kO2, kO3, kO4, kO5, kO6, kO7, kO8, kO9, kO10, kO36, kO37, kO38, kO39, kO40, kO41, kO42, kO43, kO44, (n69, .box 111 [.i, .fix (.sl n81 0)])], [], [kR10, kR11, kR17, kR23, kR29, ⟨.c n69 1, n81, 119, eT0⟩]⟩
abbrev q69_111_7_11 : LShape := ⟨47, [], kL2, [], []⟩
noncomputable def l69_111_7_11 : LSum := ⟨7, 111, s69_111_7_11, 2, o69_111_7_11, q69_111_7_11, u69_111_7_11, false, none, some (15, 3), []⟩
abbrev s69_111_7_12 : LShape := ⟨47, [kK1, kK0, kK21, kK8, kK22, (19, .fix (.sl n65 0)), kK2, kK3], [kO0, kO1, (n42, .box 160 [.i, .fix (.sl n70 0), .fix (.sl n76 0), .fix (.sl n78 0), .fix (.sl n80 0), .fix (.sl n65 0), .fix (.sl n67 0), .fix (.sl n68 0), .fix (.sl n55 0)]), kO2, kO3, kO4, kO5, kO6, kO7, kO8, kO9, kO10, kO36, kO37, kO38, kO39, kO40, kO41, kO42, kO43, kO44, (n69, .box 111 [.i, .fix (.sl n82 0)])], [], [kR8, kR9, kR16, kR22, kR28, kR34, ⟨.c n69 1, n82, 119, eT0⟩]⟩
abbrev o69_111_7_12 : LShape := ⟨47, [kK1, kK0, kK21, kK8, kK22], [kO0, kO1, (n42, .box 160 [.i, .fix (.sl n73 0), .fix (.sl n77 0), .fix (.sl n79 0), .fix (.sl n81 0), .fix (.sl n65 0), .fix (.sl n67 0), .fix (.sl n68 0), .fix (.sl n55 0)]), kO2, kO3, kO4, kO5, kO6, kO7, kO8, kO9, kO10, kO36, kO37, kO38, kO39, kO40, kO41, kO42, kO43, kO44, (n69, .box 111 [.i, .fix (.sl n83 0)])], [], [kR10, kR11, kR17, kR23, kR29, kR35, ⟨.c n69 1, n83, 119, eT0⟩]⟩
abbrev q69_111_7_12 : LShape := ⟨47, [], kL2, [], []⟩
noncomputable def l69_111_7_12 : LSum := ⟨7, 111, s69_111_7_12, 2, o69_111_7_12, q69_111_7_12, u69_111_7_12, false, none, some (15, 4), []⟩
abbrev s69_111_7_13 : LShape := ⟨47, [kK1, kK0, kK23, kK8, kK24, (19, .fix (.sl n67 0)), kK2, kK3], [kO0, kO1, (n42, .box 160 [.i, .fix (.sl n70 0), .fix (.sl n76 0), .fix (.sl n78 0), .fix (.sl n80 0), .fix (.sl n82 0), .fix (.sl n67 0), .fix (.sl n68 0), .fix (.sl n55 0)]), kO2, kO3, kO4, kO5, kO6, kO7, kO8, kO9, kO10, kO36, kO37, kO38, kO39, kO40, kO41, kO42, kO43, kO44, (n69, .box 111 [.i, .fix (.sl n84 0)])], [], [kR8, kR9, kR16, kR22, kR28, kR34, kR40, ⟨.c n69 1, n84, 119, eT0⟩]⟩
abbrev o69_111_7_13 : LShape := ⟨47, [kK1, kK0, kK23, kK8, kK24], [kO0, kO1, (n42, .box 160 [.i, .fix (.sl n73 0), .fix (.sl n77 0), .fix (.sl n79 0), .fix (.sl n81 0), .fix (.sl n83 0), .fix (.sl n67 0), .fix (.sl n68 0), .fix (.sl n55 0)]), kO2, kO3, kO4, kO5, kO6, kO7, kO8, kO9, kO10, kO36, kO37, kO38, kO39, kO40, kO41, kO42, kO43, kO44, (n69, .box 111 [.i, .fix (.sl n85 0)])], [], [kR10, kR11, kR17, kR23, kR29, kR35, kR41, ⟨.c n69 1, n85, 119, eT0⟩]⟩
abbrev q69_111_7_13 : LShape := ⟨47, [], kL2, [], []⟩
noncomputable def l69_111_7_13 : LSum := ⟨7, 111, s69_111_7_13, 2, o69_111_7_13, q69_111_7_13, u69_111_7_13, false, none, some (15, 5), []⟩
abbrev s69_111_7_14 : LShape := ⟨47, [kK1, kK0, kK25, kK8, kK26, (19, .fix (.sl n68 0)), kK2, kK3], [kO0, kO1, (n42, .box 160 [.i, .fix (.sl n70 0), .fix (.sl n76 0), .fix (.sl n78 0), .fix (.sl n80 0), .fix (.sl n82 0), .fix (.sl n84 0), .fix (.sl n68 0), .fix (.sl n55 0)]), kO2, kO3, kO4, kO5, kO6, kO7, kO8, kO9, kO10, kO36, kO37, kO38, kO39, kO40, kO41, kO42, kO43, kO44, (n69, .box 111 [.i, .fix (.sl n86 0)])], [], [kR8, kR9, kR16, kR22, kR28, kR34, kR40, ⟨.c n42 6, n84, 119, eT0⟩, ⟨.c n69 1, n86, 119, eT0⟩]⟩
abbrev o69_111_7_14 : LShape := ⟨47, [kK1, kK0, kK25, kK8, kK26], [kO0, kO1, (n42, .box 160 [.i, .fix (.sl n73 0), .fix (.sl n77 0), .fix (.sl n79 0), .fix (.sl n81 0), .fix (.sl n83 0), .fix (.sl n85 0), .fix (.sl n68 0), .fix (.sl n55 0)]), kO2, kO3, kO4, kO5, kO6, kO7, kO8, kO9, kO10, kO36, kO37, kO38, kO39, kO40, kO41, kO42, kO43, kO44, (n69, .box 111 [.i, .fix (.sl n87 0)])], [], [kR10, kR11, kR17, kR23, kR29, kR35, kR41, ⟨.c n42 6, n85, 119, eT0⟩, ⟨.c n69 1, n87, 119, eT0⟩]⟩
abbrev q69_111_7_14 : LShape := ⟨47, [], kL2, [], []⟩
noncomputable def l69_111_7_14 : LSum := ⟨7, 111, s69_111_7_14, 2, o69_111_7_14, q69_111_7_14, u69_111_7_14, false, none, some (15, 6), []⟩
abbrev s69_111_7_15 : LShape := ⟨47, [kK1, kK0, kK27, kK8, kK28, (19, .fix (.sl n55 0)), kK2, kK3], [kO0, kO1, (n42, .box 160 [.i, .fix (.sl n70 0), .fix (.sl n76 0), .fix (.sl n78 0), .fix (.sl n80 0), .fix (.sl n82 0), .fix (.sl n84 0), .fix (.sl n86 0), .fix (.sl n55 0)]), kO2, kO3, kO4, kO5, kO6, kO7, kO8, kO9, kO10, kO36, kO37, kO38, kO39, kO40, kO41, kO42, kO43, kO44, (n69, .box 111 [.i, .fix (.sl 79228842848632538019595495881 0)])], [], [kR8, kR9, kR16, kR22, kR28, kR34, kR40, ⟨.c n42 6, n84, 119, eT0⟩, ⟨.c n42 7, n86, 119, eT0⟩, ⟨.c n69 1, 79228842848632538019595495881, 119, eT0⟩]⟩
abbrev o69_111_7_15 : LShape := ⟨47, [kK1, kK0, kK27, kK8, kK28], [kO0, kO1, (n42, .box 160 [.i, .fix (.sl n73 0), .fix (.sl n77 0), .fix (.sl n79 0), .fix (.sl n81 0), .fix (.sl n83 0), .fix (.sl n85 0), .fix (.sl n87 0), .fix (.sl n55 0)]), kO2, kO3, kO4, kO5, kO6, kO7, kO8, kO9, kO10, kO36, kO37, kO38, kO39, kO40, kO41, kO42, kO43, kO44, (n69, .box 111 [.i, .fix (.sl 79228842848632538019595495913 0)])], [], [kR10, kR11, kR17, kR23, kR29, kR35, kR41, ⟨.c n42 6, n85, 119, eT0⟩, ⟨.c n42 7, n87, 119, eT0⟩, ⟨.c n69 1, 79228842848632538019595495913, 119, eT0⟩]⟩
abbrev q69_111_7_15 : LShape := ⟨47, [], kL2, [], []⟩
noncomputable def l69_111_7_15 : LSum := ⟨7, 111, s69_111_7_15, 2, o69_111_7_15, q69_111_7_15, u69_111_7_15, false, none, some (15, 7), []⟩
noncomputable def con69 : Con := ⟨[eT7, .i], [.val eT7, .val (.row eT0), .val .i], fun x => f69 x.1.1 x.1.2 x.2.1⟩
theorem k69 : con69.OK Tryz.prog 69 := con_of_tree (n := 10) (lf := big) (lookC_ok (l := [(104, con104), (106, con106), (132, con132), (135, con135), (136, con136)]) (u := [(137, uSortT)]) ⟨k104, k106, k132, k135, k136, trivial⟩ ⟨okSortT, trivial⟩) (rounds_of (l := [(18446849699840262144, 3, l69_108_3_0), (n88, 7, l69_111_7_0), (n88, 7, l69_111_7_1), (n88, 7, l69_111_7_2), (n88, 7, l69_111_7_3), (n88, 7, l69_111_7_4), (n88, 7, l69_111_7_5), (n88, 7, l69_111_7_6), (n88, 7, l69_111_7_7), (n89, 7, l69_111_7_8), (n89, 7, l69_111_7_9), (n89, 7, l69_111_7_10), (n89, 7, l69_111_7_11), (n89, 7, l69_111_7_12), (n89, 7, l69_111_7_13), (n89, 7, l69_111_7_14), (n89, 7, l69_111_7_15)]) ⟨⟨by kernel_rfl, fun z => by kernel_rfl⟩, ⟨by kernel_rfl, fun z => by kernel_rfl⟩, ⟨by kernel_rfl, fun z => by kernel_rfl⟩, ⟨by kernel_rfl, fun z => by kernel_rfl⟩, ⟨by kernel_rfl, fun z => by kernel_rfl⟩, ⟨by kernel_rfl, fun z => by kernel_rfl⟩, ⟨by kernel_rfl, fun z => by kernel_rfl⟩, ⟨by kernel_rfl, fun z => by kernel_rfl⟩, ⟨by kernel_rfl, fun z => by kernel_rfl⟩, ⟨by kernel_rfl, fun z => by kernel_rfl⟩, ⟨by kernel_rfl, fun z => by kernel_rfl⟩, ⟨by kernel_rfl, fun z => by kernel_rfl⟩, ⟨by kernel_rfl, fun z => by kernel_rfl⟩, ⟨by kernel_rfl, fun z => by kernel_rfl⟩, ⟨by kernel_rfl, fun z => by kernel_rfl⟩, ⟨by kernel_rfl, fun z => by kernel_rfl⟩, ⟨by kernel_rfl, fun z => by kernel_rfl⟩, trivial⟩) fun x => by kernel_rfl
abbrev s13_30_8_0 : LShape := ⟨145, [kK29, (4, .i), (5, .i)], [kO47, kO78, (kN2, .box 32 [.i, .i, .i, .i, .i, .i, .i, .i, .i, .i, .i, .bool, .i, .fix (.sl 18446832386532125184 0), .fix (.sl 18446832386532125185 0), .fix (.sl 18446832386532125186 0)]), (kN4, .box 37 [.fix (.sl 18446832386532125187 0)]), kO79, kO80, kO81, kO82, kO83, (kN3, .box 86 [.i, .i, .i, .i, .i, .i, .i, .i, .i, .i, .i, .bool, .i, .fix (.sl kN6 0), .fix (.sl kN5 0), .fix (.sl kN7 0), .i, .i, .i, .i, .i, .i, .i, .i, .bool, .fix (.sl 18446832386532125188 0), .i, .i, .i])], [], [⟨.c kN2 13, 18446832386532125184, 95, eT3⟩, ⟨.c kN2 14, 18446832386532125185, 55, eT4⟩, ⟨.c kN2 15, 18446832386532125186, 68, eT3⟩, ⟨.c kN4 0, 18446832386532125187, 63, eT2⟩, ⟨.c kN3 25, 18446832386532125188, 63, eT2⟩]⟩
abbrev o13_30_8_0 : LShape := ⟨145, [kK29, (4, .i), (5, .i)], [kO47, kO78, (kN2, .box 32 [.i, .i, .i, .i, .i, .i, .i, .i, .i, .i, .i, .bool, .i, .fix (.sl 18446832386532125216 0), .fix (.sl 18446832386532125217 0), .fix (.sl 18446832386532125218 0)]), (kN4, .box 37 [.fix (.sl 18446832386532125219 0)]), kO79, kO80, kO81, kO82, kO83, (kN3, .box 86 [.i, .i, .i, .i, .i, .i, .i, .i, .i, .i, .i, .bool, .i, .fix (.sl kN6 0), .fix (.sl kN5 0), .fix (.sl kN7 0), .i, .i, .i, .i, .i, .i, .i, .i, .bool, .fix (.sl 18446832386532125220 0), .i, .i, .i])], [], [⟨.c kN2 13, 18446832386532125216, 95, eT3⟩, ⟨.c kN2 14, 18446832386532125217, 55, eT4⟩, ⟨.c kN2 15, 18446832386532125218, 68, eT3⟩, ⟨.c kN4 0, 18446832386532125219, 63, eT2⟩, ⟨.c kN3 25, 18446832386532125220, 63, eT2⟩]⟩
abbrev q13_30_8_0 : LShape := ⟨145, [], kL4, [], []⟩
noncomputable def l13_30_8_0 : LSum := ⟨8, 30, s13_30_8_0, 0, o13_30_8_0, q13_30_8_0, u13_30_8_0, false, none, none, []⟩
abbrev s13_33_3_0 : LShape := ⟨130, [kK29, (2, .fix (.ptr n90 0)), (27, .fix (.sl kN5 0)), (28, .i), (29, .i)], [kO47, kO78, (kN2, .box 32 [.i, .i, .i, .i, .i, .i, .i, .i, .i, .i, .i, .bool, .i, .fix (.sl 18446832386532124864 0), .fix (.sl 18446832386532124865 0), .fix (.sl 18446832386532124866 0)]), (kN4, .box 37 [.fix (.sl 18446832386532124867 0)]), kO79, kO80, kO81, kO82, kO83, (kN3, .box 86 [.i, .i, .i, .i, .i, .i, .i, .i, .i, .i, .i, .bool, .i, .fix (.sl kN6 0), .fix (.sl kN5 0), .fix (.sl kN7 0), .i, .i, .i, .i, .i, .i, .i, .i, .bool, .fix (.sl 18446832386532124868 0), .i, .i, .i])], [(n90, .box 111 [.i, .cont eT0])], [⟨.c kN2 13, 18446832386532124864, 95, eT3⟩, ⟨.c kN2 14, 18446832386532124865, 55, eT4⟩, ⟨.c kN2 15, 18446832386532124866, 68, eT3⟩, ⟨.c kN4 0, 18446832386532124867, 63, eT2⟩, ⟨.c kN3 25, 18446832386532124868, 63, eT2⟩]⟩
abbrev o13_33_3_0 : LShape := ⟨130, [kK29, (2, .fix (.ptr n90 0))], [kO47, kO78, (kN2, .box 32 [.i, .i, .i, .i, .i, .i, .i, .i, .i, .i, .i, .bool, .i, .fix (.sl 18446832386532124896 0), .fix (.sl 18446832386532124897 0), .fix (.sl 18446832386532124898 0)]), (kN4, .box 37 [.fix (.sl 18446832386532124899 0)]), kO79, kO80, kO81, kO82, kO83, (kN3, .box 86 [.i, .i, .i, .i, .i, .i, .i, .i, .i, .i, .i, .bool, .i, .fix (.sl kN6 0), .fix (.sl kN5 0), .fix (.sl kN7 0), .i, .i, .i, .i, .i, .i, .i, .i, .bool, .fix (.sl 18446832386532124900 0), .i, .i, .i])], [(n90, .box 111 [.i, .cont eT0])], [⟨.c kN2 13, 18446832386532124896, 95, eT3⟩, ⟨.c kN2 14, 18446832386532124897, 55, eT4⟩, ⟨.c kN2 15, 18446832386532124898, 68, eT3⟩, ⟨.c kN4 0, 18446832386532124899, 63, eT2⟩, ⟨.c kN3 25, 18446832386532124900, 63, eT2⟩]⟩
abbrev q13_33_3_0 : LShape := ⟨130, [], kL4, [], []⟩
noncomputable def l13_33_3_0 : LSum := ⟨8, 33, s13_33_3_0, 0, o13_33_3_0, q13_33_3_0, u13_33_3_0, false, none, none, []⟩
abbrev s13_33_10_0 : LShape := ⟨130, [kK29, (7, .cont eT0), (69, .cont eT0), (70, .i), (71, .i)], [kO47, kO78, (kN2, .box 32 [.i, .i, .i, .i, .i, .i, .i, .i, .i, .i, .i, .bool, .i, .fix (.sl 18446832386532125312 0), .fix (.sl 18446832386532125313 0), .fix (.sl 18446832386532125314 0)]), (kN4, .box 37 [.fix (.sl 18446832386532125315 0)]), kO79, kO80, kO96, kO97, kO98, (kN3, .box 86 [.i, .i, .i, .i, .i, .i, .i, .i, .i, .i, .i, .bool, .i, .fix (.sl 18446832386532125316 0), .fix (.sl 18446832386532125317 0), .fix (.sl 18446832386532125318 0), .i, .i, .i, .i, .i, .i, .i, .i, .bool, .fix (.sl 18446832386532125319 0), .i, .i, .i])], [], [⟨.c kN2 13, 18446832386532125312, 95, eT3⟩, ⟨.c kN2 14, 18446832386532125313, 55, eT4⟩, ⟨.c kN2 15, 18446832386532125314, 68, eT3⟩, ⟨.c kN4 0, 18446832386532125315, 63, eT2⟩, ⟨.c kN3 13, 18446832386532125316, 95, eT3⟩, ⟨.c kN3 14, 18446832386532125317, 55, eT4⟩, ⟨.c kN3 15, 18446832386532125318, 68, eT3⟩, ⟨.c kN3 25, 18446832386532125319, 63, eT2⟩]⟩
abbrev o13_33_10_0 : LShape := ⟨130, [kK29, (7, .cont eT0)], [kO47, kO78, (kN2, .box 32 [.i, .i, .i, .i, .i, .i, .i, .i, .i, .i, .i, .bool, .i, .fix (.sl 18446832386532125344 0), .fix (.sl 18446832386532125345 0), .fix (.sl 18446832386532125346 0)]), (kN4, .box 37 [.fix (.sl 18446832386532125347 0)]), kO79, kO80, kO96, kO97, kO98, (kN3, .box 86 [.i, .i, .i, .i, .i, .i, .i, .i, .i, .i, .i, .bool, .i, .fix (.sl 18446832386532125348 0), .fix (.sl 18446832386532125349 0), .fix (.sl 18446832386532125350 0), .i, .i, .i, .i, .i, .i, .i, .i, .bool, .fix (.sl 18446832386532125351 0), .i, .i, .i])], [], [⟨.c kN2 13, 18446832386532125344, 95, eT3⟩, ⟨.c kN2 14, 18446832386532125345, 55, eT4⟩, ⟨.c kN2 15, 18446832386532125346, 68, eT3⟩, ⟨.c kN4 0, 18446832386532125347, 63, eT2⟩, ⟨.c kN3 13, 18446832386532125348, 95, eT3⟩, ⟨.c kN3 14, 18446832386532125349, 55, eT4⟩, ⟨.c kN3 15, 18446832386532125350, 68, eT3⟩, ⟨.c kN3 25, 18446832386532125351, 63, eT2⟩]⟩
abbrev q13_33_10_0 : LShape := ⟨130, [], kL4, [], []⟩
noncomputable def l13_33_10_0 : LSum := ⟨8, 33, s13_33_10_0, 2, o13_33_10_0, q13_33_10_0, u13_33_10_0, false, none, none, [(kN3, 13, 18446832386532125336), (kN3, 14, 18446832386532125337), (kN3, 15, 18446832386532125338)]⟩
noncomputable def con13 : Con := ⟨[eT1, eT2], [.val eT1, .val (.row eT2), .val eT3], fun x => f13 x.1.1.1.1 x.1.1.1.2 x.1.1.2.1.1 x.1.1.2.1.2 x.1.1.2.2.1 x.1.1.2.2.2.1 x.1.1.2.2.2.2.1 x.1.1.2.2.2.2.2 x.1.2.1.1 x.1.2.1.2.1 x.1.2.1.2.2.1 x.1.2.1.2.2.2 x.1.2.2.1 x.1.2.2.2.1 x.1.2.2.2.2.1 x.1.2.2.2.2.2 x.2.1.1 x.2.1.2.1 x.2.1.2.2.1 x.2.1.2.2.2.1 x.2.1.2.2.2.2.1 x.2.1.2.2.2.2.2.1 x.2.1.2.2.2.2.2.2.1 x.2.1.2.2.2.2.2.2.2.1 x.2.1.2.2.2.2.2.2.2.2⟩
theorem k13 : con13.OK Tryz.prog 13 := con_of_do (n := 9) (lf := big) (lookC_ok (l := [(15, con15), (19, con19), (20, con20), (21, con21), (22, con22), (23, con23), (24, con24), (28, con28), (40, con40), (46, con46), (63, con63), (67, con67), (68, con68), (69, con69), (70, con70), (72, con72), (73, con73), (74, con74), (75, con75), (76, con76), (99, con99), (100, con100), (103, con103)]) (u := []) ⟨k15, k19, k20, k21, k22, k23, k24, k28, k40, k46, k63, k67, k68, k69, k70, k72, k73, k74, k75, k76, k99, k100, k103, trivial⟩ trivial) (rounds_of (l := [(n91, 8, l13_30_8_0), (n91, 3, l13_33_3_0), (n91, 10, l13_33_10_0)]) ⟨⟨by kernel_rfl, fun z => by kernel_rfl⟩, ⟨by kernel_rfl, fun z => by kernel_rfl⟩, ⟨by kernel_rfl, fun z => by kernel_rfl⟩, trivial⟩) fun x => by kernel_rfl
noncomputable def con29 : Con := ⟨[eT9, eT6], [.val .bool], fun x => f29 x.1 x.2.1⟩
theorem k29 : con29.OK Tryz.prog 29 := con_of_tree (n := 10) (lf := big) (lookC_ok (l := []) (u := []) trivial trivial) (rounds_of (l := []) trivial) fun x => by kernel_rfl
noncomputable def con12 : Con := ⟨[eT1], [.val .bool], fun x => f12 x.1.1.1.1 x.1.1.1.2 x.1.1.2.1.1 x.1.1.2.1.2 x.1.1.2.2.1 x.1.1.2.2.2.1 x.1.1.2.2.2.2.1 x.1.1.2.2.2.2.2 x.1.2.1.1 x.1.2.1.2.1 x.1.2.1.2.2.1 x.1.2.1.2.2.2 x.1.2.2.1 x.1.2.2.2.1 x.1.2.2.2.2.1 x.1.2.2.2.2.2⟩
theorem k12 : con12.OK Tryz.prog 12 := con_of_tree (n := 10) (lf := big) (lookC_ok (l := [(29, con29)]) (u := []) ⟨k29, trivial⟩ trivial) (rounds_of (l := []) trivial) fun x => by kernel_rfl
noncomputable def con11 : Con := ⟨[], [.val .bool], fun x => f11 ⟩
theorem k11 : con11.OK Tryz.prog 11 := con_of_tree (n := 10) (lf := big) (lookC_ok (l := [(13, con13), (14, con14), (15, con15), (16, con16), (27, con27), (28, con28)]) (u := []) ⟨k13, k14, k15, k16, k27, k28, trivial⟩ trivial) (rounds_of (l := []) trivial) fun x => by kernel_rfl
abbrev s17_3 : LShape := ⟨33, [(1, .cont eT2), (2, .fix (.ptr kN0 0)), (4, .fix (.ptr kN1 0)), (7, .i)], [], [kO47, (kN1, .box 32 [.i, .i, .i, .i, .i, .i, .i, .i, .i, .i, .i, .bool, .i, .fix (.sl 8294967489 0), .fix (.sl 8294967490 0), .fix (.sl 8294967491 0)])], [⟨.t 6, 8294967488, 63, eT2⟩, ⟨.c kN1 13, 8294967489, 95, eT3⟩, ⟨.c kN1 14, 8294967490, 55, eT4⟩, ⟨.c kN1 15, 8294967491, 68, eT3⟩]⟩
abbrev o17_3 : LShape := ⟨33, [(2, .fix (.ptr kN0 0)), (4, .fix (.ptr kN1 0))], [], [kO47, (kN1, .box 32 [.i, .i, .i, .i, .i, .i, .i, .i, .i, .i, .i, .bool, .i, .fix (.sl 8294967521 0), .fix (.sl 8294967522 0), .fix (.sl 8294967523 0)])], [⟨.t 6, 8294967520, 63, eT2⟩, ⟨.c kN1 13, 8294967521, 95, eT3⟩, ⟨.c kN1 14, 8294967522, 55, eT4⟩, ⟨.c kN1 15, 8294967523, 68, eT3⟩]⟩
abbrev q17_3 : LShape := ⟨33, [], [], [], []⟩
noncomputable def l17_3 : LSum := ⟨9, 17, s17_3, 0, o17_3, q17_3, u17_3, false, none, none, []⟩
noncomputable def con17 : Con := ⟨[eT1, (.row eT2)], [.val eT1, .val (.row eT2)], fun x => f17 x.1.1.1.1 x.1.1.1.2 x.1.1.2.1.1 x.1.1.2.1.2 x.1.1.2.2.1 x.1.1.2.2.2.1 x.1.1.2.2.2.2.1 x.1.1.2.2.2.2.2 x.1.2.1.1 x.1.2.1.2.1 x.1.2.1.2.2.1 x.1.2.1.2.2.2 x.1.2.2.1 x.1.2.2.2.1 x.1.2.2.2.2.1 x.1.2.2.2.2.2 x.2.1⟩
theorem k17 : con17.OK Tryz.prog 17 := con_of_tree (n := 10) (lf := big) (lookC_ok (l := [(13, con13)]) (u := []) ⟨k13, trivial⟩ trivial) (rounds_of (l := [(kN0, 3, l17_3)]) ⟨⟨by kernel_rfl, fun z => by kernel_rfl⟩, trivial⟩) fun x => by kernel_rfl
end Go.Proofs.Zz
