/- What the functions come to: the equations, by the kernel, and their contracts. -/
import Derived.Test.YtimnecbhjgllmaaDoorPureD
namespace Go.Proofs.Zz
open Go Go.Sy
set_option linter.unusedVariables false
set_option maxHeartbeats 0
set_option maxRecDepth 100000
abbrev ps5 : List Ty := [.row (.pair (.int .i64) (.pair (.int .i64) (.pair (.int .i64) (.pair (.int .i64) (.int .i64))))), .row (.pair (.int .i64) (.pair (.int .i64) (.int .i64)))]
abbrev rs5 : List RTy := [.val .bool]
noncomputable abbrev L5 : List (Nat × Con) := []
noncomputable abbrev U5 : List (Nat × UCon) := []
noncomputable abbrev C5 : Cons := lookC L5 U5
noncomputable abbrev S5 : List (Nat × Nat × LSum) := []
noncomputable def con5 : Con := ⟨ps5, rs5, fun x => f5 x.1 x.2.1⟩
theorem e5 (x : Args ps5) : kTop Go.Proofs.Tryd.prog C5 (lookS S5) big 10 5 ps5 rs5 x = con5.f x := by kernel_rfl
theorem ok5 [Glob] [RngG Go.Proofs.Tryd.prog] (h : AllOK Go.Proofs.Tryd.prog L5) (h' : AllU Go.Proofs.Tryd.prog U5) : con5.OK Go.Proofs.Tryd.prog 5 := con_of_tree (lookC_ok h h') (rounds_of (l := S5) trivial) e5
abbrev ps39 : List Ty := [.row (.pair (.int .i64) (.pair (.int .i64) (.pair (.int .i64) (.pair (.int .i64) (.int .i64))))), .row (.pair (.int .i64) (.pair (.int .i64) (.pair (.int .i64) (.pair (.int .i64) (.int .i64)))))]
abbrev rs39 : List RTy := [.val .bool]
noncomputable abbrev L39 : List (Nat × Con) := []
noncomputable abbrev U39 : List (Nat × UCon) := []
noncomputable abbrev C39 : Cons := lookC L39 U39
abbrev s39_4 : LShape := ⟨26, [(0, .cont (.pair (.int .i64) (.pair (.int .i64) (.pair (.int .i64) (.pair (.int .i64) (.int .i64)))))), (1, .cont (.pair (.int .i64) (.pair (.int .i64) (.pair (.int .i64) (.pair (.int .i64) (.int .i64)))))), (12, .int .i64), (13, .int .i64)], [], [], []⟩
abbrev o39_4 : LShape := ⟨26, [], [], [], []⟩
abbrev q39_4 : LShape := ⟨26, [(4, .bool)], [], [], []⟩
noncomputable def l39_4 : LSum := ⟨9, 39, s39_4, 0, o39_4, q39_4, u39_4, false⟩
noncomputable abbrev S39 : List (Nat × Nat × LSum) := [(4294967296, 4, l39_4)]
noncomputable def con39 : Con := ⟨ps39, rs39, fun x => f39 x.1 x.2.1⟩
theorem r39_4 : Round Go.Proofs.Tryd.prog C39 (lookS S39) big 4294967296 4 l39_4 := ⟨by kernel_rfl, fun z => by kernel_rfl⟩
theorem e39 (x : Args ps39) : kTop Go.Proofs.Tryd.prog C39 (lookS S39) big 10 39 ps39 rs39 x = con39.f x := by kernel_rfl
theorem ok39 [Glob] [RngG Go.Proofs.Tryd.prog] (h : AllOK Go.Proofs.Tryd.prog L39) (h' : AllU Go.Proofs.Tryd.prog U39) : con39.OK Go.Proofs.Tryd.prog 39 := con_of_tree (lookC_ok h h') (rounds_of (l := S39) ⟨r39_4, trivial⟩) e39
abbrev ps40 : List Ty := [.row (.pair (.int .i64) (.pair (.int .i64) (.int .i64))), .row (.pair (.int .i64) (.pair (.int .i64) (.int .i64)))]
abbrev rs40 : List RTy := [.val .bool]
noncomputable abbrev L40 : List (Nat × Con) := []
noncomputable abbrev U40 : List (Nat × UCon) := []
noncomputable abbrev C40 : Cons := lookC L40 U40
abbrev s40_4 : LShape := ⟨26, [(0, .cont (.pair (.int .i64) (.pair (.int .i64) (.int .i64)))), (1, .cont (.pair (.int .i64) (.pair (.int .i64) (.int .i64)))), (12, .int .i64), (13, .int .i64)], [], [], []⟩
abbrev o40_4 : LShape := ⟨26, [], [], [], []⟩
abbrev q40_4 : LShape := ⟨26, [(4, .bool)], [], [], []⟩
noncomputable def l40_4 : LSum := ⟨9, 40, s40_4, 0, o40_4, q40_4, u40_4, false⟩
noncomputable abbrev S40 : List (Nat × Nat × LSum) := [(4294967296, 4, l40_4)]
noncomputable def con40 : Con := ⟨ps40, rs40, fun x => f40 x.1 x.2.1⟩
theorem r40_4 : Round Go.Proofs.Tryd.prog C40 (lookS S40) big 4294967296 4 l40_4 := ⟨by kernel_rfl, fun z => by kernel_rfl⟩
theorem e40 (x : Args ps40) : kTop Go.Proofs.Tryd.prog C40 (lookS S40) big 10 40 ps40 rs40 x = con40.f x := by kernel_rfl
theorem ok40 [Glob] [RngG Go.Proofs.Tryd.prog] (h : AllOK Go.Proofs.Tryd.prog L40) (h' : AllU Go.Proofs.Tryd.prog U40) : con40.OK Go.Proofs.Tryd.prog 40 := con_of_tree (lookC_ok h h') (rounds_of (l := S40) ⟨r40_4, trivial⟩) e40
abbrev ps16 : List Ty := [.row (.pair (.int .i64) (.pair (.int .i64) (.pair (.int .i64) (.pair (.int .i64) (.int .i64))))), .row (.pair (.int .i64) (.pair (.int .i64) (.pair (.int .i64) (.pair (.int .i64) (.int .i64)))))]
abbrev rs16 : List RTy := [.val .bool]
noncomputable abbrev L16 : List (Nat × Con) := [(39, con39)]
noncomputable abbrev U16 : List (Nat × UCon) := []
noncomputable abbrev C16 : Cons := lookC L16 U16
noncomputable abbrev S16 : List (Nat × Nat × LSum) := []
noncomputable def con16 : Con := ⟨ps16, rs16, fun x => f16 x.1 x.2.1⟩
theorem e16 (x : Args ps16) : kTop Go.Proofs.Tryd.prog C16 (lookS S16) big 10 16 ps16 rs16 x = con16.f x := by kernel_rfl
theorem ok16 [Glob] [RngG Go.Proofs.Tryd.prog] (h : AllOK Go.Proofs.Tryd.prog L16) (h' : AllU Go.Proofs.Tryd.prog U16) : con16.OK Go.Proofs.Tryd.prog 16 := con_of_tree (lookC_ok h h') (rounds_of (l := S16) trivial) e16
abbrev ps17 : List Ty := [.row (.pair (.int .i64) (.pair (.int .i64) (.int .i64))), .row (.pair (.int .i64) (.pair (.int .i64) (.int .i64)))]
abbrev rs17 : List RTy := [.val .bool]
noncomputable abbrev L17 : List (Nat × Con) := [(40, con40)]
noncomputable abbrev U17 : List (Nat × UCon) := []
noncomputable abbrev C17 : Cons := lookC L17 U17
noncomputable abbrev S17 : List (Nat × Nat × LSum) := []
noncomputable def con17 : Con := ⟨ps17, rs17, fun x => f17 x.1 x.2.1⟩
theorem e17 (x : Args ps17) : kTop Go.Proofs.Tryd.prog C17 (lookS S17) big 10 17 ps17 rs17 x = con17.f x := by kernel_rfl
theorem ok17 [Glob] [RngG Go.Proofs.Tryd.prog] (h : AllOK Go.Proofs.Tryd.prog L17) (h' : AllU Go.Proofs.Tryd.prog U17) : con17.OK Go.Proofs.Tryd.prog 17 := con_of_tree (lookC_ok h h') (rounds_of (l := S17) trivial) e17
abbrev ps13 : List Ty := [.row (.pair (.int .i64) (.pair (.int .i64) (.pair (.int .i64) (.pair (.int .i64) (.int .i64))))), .int .i64]
abbrev rs13 : List RTy := [.own 3 (.int .i64)]
noncomputable abbrev L13 : List (Nat × Con) := []
noncomputable abbrev U13 : List (Nat × UCon) := []
noncomputable abbrev C13 : Cons := lookC L13 U13
abbrev s13_3 : LShape := ⟨25, [(1, .int .i64), (8, .cont (.pair (.int .i64) (.pair (.int .i64) (.pair (.int .i64) (.pair (.int .i64) (.int .i64)))))), (9, .int .i64), (10, .int .i64)], [], [], [⟨5, 8294967488, 3, (.int .i64)⟩]⟩
abbrev o13_3 : LShape := ⟨25, [], [], [], [⟨5, 8294967520, 3, (.int .i64)⟩]⟩
abbrev q13_3 : LShape := ⟨25, [], [], [], []⟩
noncomputable def l13_3 : LSum := ⟨9, 13, s13_3, 0, o13_3, q13_3, u13_3, false⟩
noncomputable abbrev S13 : List (Nat × Nat × LSum) := [(4294967296, 3, l13_3)]
noncomputable def con13 : Con := ⟨ps13, rs13, fun x => f13 x.1 x.2.1⟩
theorem r13_3 : Round Go.Proofs.Tryd.prog C13 (lookS S13) big 4294967296 3 l13_3 := ⟨by kernel_rfl, fun z => by kernel_rfl⟩
theorem e13 (x : Args ps13) : kTop Go.Proofs.Tryd.prog C13 (lookS S13) big 10 13 ps13 rs13 x = con13.f x := by kernel_rfl
theorem ok13 [Glob] [RngG Go.Proofs.Tryd.prog] (h : AllOK Go.Proofs.Tryd.prog L13) (h' : AllU Go.Proofs.Tryd.prog U13) : con13.OK Go.Proofs.Tryd.prog 13 := con_of_tree (lookC_ok h h') (rounds_of (l := S13) ⟨r13_3, trivial⟩) e13
abbrev ps72 : List Ty := [.row (.int .i64)]
abbrev rs72 : List RTy := [.val (.int .i64)]
noncomputable abbrev L72 : List (Nat × Con) := []
noncomputable abbrev U72 : List (Nat × UCon) := []
noncomputable abbrev C72 : Cons := lookC L72 U72
abbrev s72_3 : LShape := ⟨18, [(3, .int .i64), (6, .cont (.int .i64)), (7, .int .i64), (8, .int .i64)], [], [], []⟩
abbrev o72_3 : LShape := ⟨18, [(3, .int .i64)], [], [], []⟩
abbrev q72_3 : LShape := ⟨18, [(2, .int .i64)], [], [], []⟩
noncomputable def l72_3 : LSum := ⟨9, 72, s72_3, 0, o72_3, q72_3, u72_3, false⟩
noncomputable abbrev S72 : List (Nat × Nat × LSum) := [(4294967296, 3, l72_3)]
noncomputable def con72 : Con := ⟨ps72, rs72, fun x => f72 x.1⟩
theorem r72_3 : Round Go.Proofs.Tryd.prog C72 (lookS S72) big 4294967296 3 l72_3 := ⟨by kernel_rfl, fun z => by kernel_rfl⟩
theorem e72 (x : Args ps72) : kTop Go.Proofs.Tryd.prog C72 (lookS S72) big 10 72 ps72 rs72 x = con72.f x := by kernel_rfl
theorem ok72 [Glob] [RngG Go.Proofs.Tryd.prog] (h : AllOK Go.Proofs.Tryd.prog L72) (h' : AllU Go.Proofs.Tryd.prog U72) : con72.OK Go.Proofs.Tryd.prog 72 := con_of_tree (lookC_ok h h') (rounds_of (l := S72) ⟨r72_3, trivial⟩) e72
abbrev ps73 : List Ty := [.int .i64, .int .i64]
abbrev rs73 : List RTy := [.val (.int .i64)]
noncomputable abbrev L73 : List (Nat × Con) := []
noncomputable abbrev U73 : List (Nat × UCon) := []
noncomputable abbrev C73 : Cons := lookC L73 U73
noncomputable abbrev S73 : List (Nat × Nat × LSum) := []
noncomputable def con73 : Con := ⟨ps73, rs73, fun x => f73 x.1 x.2.1⟩
theorem e73 (x : Args ps73) : kTop Go.Proofs.Tryd.prog C73 (lookS S73) big 10 73 ps73 rs73 x = con73.f x := by kernel_rfl
theorem ok73 [Glob] [RngG Go.Proofs.Tryd.prog] (h : AllOK Go.Proofs.Tryd.prog L73) (h' : AllU Go.Proofs.Tryd.prog U73) : con73.OK Go.Proofs.Tryd.prog 73 := con_of_tree (lookC_ok h h') (rounds_of (l := S73) trivial) e73
abbrev ps50 : List Ty := [.pair (.int .i64) (.int .i64), .pair (.int .i64) (.int .i64)]
abbrev rs50 : List RTy := [.val (.int .i64)]
noncomputable abbrev L50 : List (Nat × Con) := [(72, con72), (73, con73)]
noncomputable abbrev U50 : List (Nat × UCon) := []
noncomputable abbrev C50 : Cons := lookC L50 U50
noncomputable abbrev S50 : List (Nat × Nat × LSum) := []
noncomputable def con50 : Con := ⟨ps50, rs50, fun x => f50 x.1.1 x.1.2 x.2.1.1 x.2.1.2⟩
theorem e50 (x : Args ps50) : kTop Go.Proofs.Tryd.prog C50 (lookS S50) big 10 50 ps50 rs50 x = con50.f x := by kernel_rfl
theorem ok50 [Glob] [RngG Go.Proofs.Tryd.prog] (h : AllOK Go.Proofs.Tryd.prog L50) (h' : AllU Go.Proofs.Tryd.prog U50) : con50.OK Go.Proofs.Tryd.prog 50 := con_of_tree (lookC_ok h h') (rounds_of (l := S50) trivial) e50
abbrev ps20 : List Ty := [.pair (.int .i64) (.pair (.int .i64) (.pair (.int .i64) (.pair (.int .i64) (.int .i64))))]
abbrev rs20 : List RTy := [.val (.pair (.pair (.int .i64) (.int .i64)) (.pair (.int .i64) (.pair (.int .i64) (.pair (.int .i64) (.pair (.int .i64) (.int .i64))))))]
noncomputable abbrev L20 : List (Nat × Con) := []
noncomputable abbrev U20 : List (Nat × UCon) := []
noncomputable abbrev C20 : Cons := lookC L20 U20
noncomputable abbrev S20 : List (Nat × Nat × LSum) := []
noncomputable def con20 : Con := ⟨ps20, rs20, fun x => f20 x.1.1 x.1.2.1 x.1.2.2.1 x.1.2.2.2.1 x.1.2.2.2.2⟩
theorem e20 (x : Args ps20) : kTop Go.Proofs.Tryd.prog C20 (lookS S20) big 10 20 ps20 rs20 x = con20.f x := by kernel_rfl
theorem ok20 [Glob] [RngG Go.Proofs.Tryd.prog] (h : AllOK Go.Proofs.Tryd.prog L20) (h' : AllU Go.Proofs.Tryd.prog U20) : con20.OK Go.Proofs.Tryd.prog 20 := con_of_tree (lookC_ok h h') (rounds_of (l := S20) trivial) e20
abbrev ps21 : List Ty := [.pair (.int .i64) (.pair (.int .i64) (.int .i64))]
abbrev rs21 : List RTy := [.val (.pair (.pair (.int .i64) (.int .i64)) (.pair (.int .i64) (.pair (.int .i64) (.int .i64))))]
noncomputable abbrev L21 : List (Nat × Con) := []
noncomputable abbrev U21 : List (Nat × UCon) := []
noncomputable abbrev C21 : Cons := lookC L21 U21
noncomputable abbrev S21 : List (Nat × Nat × LSum) := []
noncomputable def con21 : Con := ⟨ps21, rs21, fun x => f21 x.1.1 x.1.2.1 x.1.2.2⟩
theorem e21 (x : Args ps21) : kTop Go.Proofs.Tryd.prog C21 (lookS S21) big 10 21 ps21 rs21 x = con21.f x := by kernel_rfl
theorem ok21 [Glob] [RngG Go.Proofs.Tryd.prog] (h : AllOK Go.Proofs.Tryd.prog L21) (h' : AllU Go.Proofs.Tryd.prog U21) : con21.OK Go.Proofs.Tryd.prog 21 := con_of_tree (lookC_ok h h') (rounds_of (l := S21) trivial) e21
abbrev ps24 : List Ty := [.pair (.int .i64) (.pair (.int .i64) (.pair (.int .i64) (.pair (.int .i64) (.int .i64))))]
abbrev rs24 : List RTy := [.val (.pair (.int .i64) (.int .i64))]
noncomputable abbrev L24 : List (Nat × Con) := [(20, con20)]
noncomputable abbrev U24 : List (Nat × UCon) := []
noncomputable abbrev C24 : Cons := lookC L24 U24
noncomputable abbrev S24 : List (Nat × Nat × LSum) := []
noncomputable def con24 : Con := ⟨ps24, rs24, fun x => f24 x.1.1 x.1.2.1 x.1.2.2.1 x.1.2.2.2.1 x.1.2.2.2.2⟩
theorem e24 (x : Args ps24) : kTop Go.Proofs.Tryd.prog C24 (lookS S24) big 10 24 ps24 rs24 x = con24.f x := by kernel_rfl
theorem ok24 [Glob] [RngG Go.Proofs.Tryd.prog] (h : AllOK Go.Proofs.Tryd.prog L24) (h' : AllU Go.Proofs.Tryd.prog U24) : con24.OK Go.Proofs.Tryd.prog 24 := con_of_tree (lookC_ok h h') (rounds_of (l := S24) trivial) e24
abbrev ps33 : List Ty := [.pair (.int .i64) (.pair (.int .i64) (.int .i64))]
abbrev rs33 : List RTy := [.val (.pair (.int .i64) (.int .i64))]
noncomputable abbrev L33 : List (Nat × Con) := [(21, con21)]
noncomputable abbrev U33 : List (Nat × UCon) := []
noncomputable abbrev C33 : Cons := lookC L33 U33
noncomputable abbrev S33 : List (Nat × Nat × LSum) := []
noncomputable def con33 : Con := ⟨ps33, rs33, fun x => f33 x.1.1 x.1.2.1 x.1.2.2⟩
theorem e33 (x : Args ps33) : kTop Go.Proofs.Tryd.prog C33 (lookS S33) big 10 33 ps33 rs33 x = con33.f x := by kernel_rfl
theorem ok33 [Glob] [RngG Go.Proofs.Tryd.prog] (h : AllOK Go.Proofs.Tryd.prog L33) (h' : AllU Go.Proofs.Tryd.prog U33) : con33.OK Go.Proofs.Tryd.prog 33 := con_of_tree (lookC_ok h h') (rounds_of (l := S33) trivial) e33
abbrev ps23 : List Ty := [.row (.pair (.int .i64) (.pair (.int .i64) (.pair (.int .i64) (.pair (.int .i64) (.int .i64))))), .pair (.int .i64) (.int .i64), .fnc 24]
abbrev rs23 : List RTy := [.val (.int .i64)]
noncomputable abbrev L23 : List (Nat × Con) := [(24, con24)]
noncomputable abbrev U23 : List (Nat × UCon) := []
noncomputable abbrev C23 : Cons := lookC L23 U23
abbrev s23_43_2_0 : LShape := ⟨19, [(0, .cont (.pair (.int .i64) (.pair (.int .i64) (.pair (.int .i64) (.pair (.int .i64) (.int .i64)))))), (1, .fix (.fn (.func 44) [] [(.ptr 4294967312 0), (.ptr 4294967296 0)])), (7, .int .i64), (8, .int .i64)], [(4294967296, .box 56 [.int .i64, .int .i64]), (4294967312, .box 65 [.fix (.fn (.func 24) [] [])])], [], []⟩
abbrev o23_43_2_0 : LShape := ⟨19, [], [(4294967296, .box 56 [.int .i64, .int .i64]), (4294967312, .box 65 [.fix (.fn (.func 24) [] [])])], [], []⟩
abbrev q23_43_2_0 : LShape := ⟨19, [(4, .int .i64)], [(4294967296, .box 56 [.int .i64, .int .i64]), (4294967312, .box 65 [.fix (.fn (.func 24) [] [])])], [], []⟩
noncomputable def l23_43_2_0 : LSum := ⟨8, 43, s23_43_2_0, 0, o23_43_2_0, q23_43_2_0, u23_43_2_0, false⟩
noncomputable abbrev S23 : List (Nat × Nat × LSum) := [(18446761807629516800, 2, l23_43_2_0)]
noncomputable def con23 : Con := ⟨ps23, rs23, fun x => f23 x.1 x.2.1.1 x.2.1.2⟩
theorem r23_43_2_0 : Round Go.Proofs.Tryd.prog C23 (lookS S23) big 18446761807629516800 2 l23_43_2_0 := ⟨by kernel_rfl, fun z => by kernel_rfl⟩
theorem e23 (x : Args ps23) : kTop Go.Proofs.Tryd.prog C23 (lookS S23) big 10 23 ps23 rs23 x = con23.f x := by kernel_rfl
theorem ok23 [Glob] [RngG Go.Proofs.Tryd.prog] (h : AllOK Go.Proofs.Tryd.prog L23) (h' : AllU Go.Proofs.Tryd.prog U23) : con23.OK Go.Proofs.Tryd.prog 23 := con_of_tree (lookC_ok h h') (rounds_of (l := S23) ⟨r23_43_2_0, trivial⟩) e23
abbrev ps29 : List Ty := [.row (.pair (.int .i64) (.pair (.int .i64) (.pair (.int .i64) (.pair (.int .i64) (.int .i64))))), .pair (.int .i64) (.int .i64), .fnc 24]
abbrev rs29 : List RTy := [.val (.int .i64)]
noncomputable abbrev L29 : List (Nat × Con) := [(24, con24), (50, con50)]
noncomputable abbrev U29 : List (Nat × UCon) := []
noncomputable abbrev C29 : Cons := lookC L29 U29
abbrev s29_43_2_0 : LShape := ⟨19, [(0, .cont (.pair (.int .i64) (.pair (.int .i64) (.pair (.int .i64) (.pair (.int .i64) (.int .i64)))))), (1, .fix (.fn (.func 49) [] [(.ptr 4294967312 0), (.ptr 4294967296 0)])), (7, .int .i64), (8, .int .i64)], [(4294967296, .box 56 [.int .i64, .int .i64]), (4294967312, .box 65 [.fix (.fn (.func 24) [] [])])], [], []⟩
abbrev o29_43_2_0 : LShape := ⟨19, [], [(4294967296, .box 56 [.int .i64, .int .i64]), (4294967312, .box 65 [.fix (.fn (.func 24) [] [])])], [], []⟩
abbrev q29_43_2_0 : LShape := ⟨19, [(4, .int .i64)], [(4294967296, .box 56 [.int .i64, .int .i64]), (4294967312, .box 65 [.fix (.fn (.func 24) [] [])])], [], []⟩
noncomputable def l29_43_2_0 : LSum := ⟨8, 43, s29_43_2_0, 0, o29_43_2_0, q29_43_2_0, u29_43_2_0, false⟩
noncomputable abbrev S29 : List (Nat × Nat × LSum) := [(18446761807629516800, 2, l29_43_2_0)]
noncomputable def con29 : Con := ⟨ps29, rs29, fun x => f29 x.1 x.2.1.1 x.2.1.2⟩
theorem r29_43_2_0 : Round Go.Proofs.Tryd.prog C29 (lookS S29) big 18446761807629516800 2 l29_43_2_0 := ⟨by kernel_rfl, fun z => by kernel_rfl⟩
theorem e29 (x : Args ps29) : kTop Go.Proofs.Tryd.prog C29 (lookS S29) big 10 29 ps29 rs29 x = con29.f x := by kernel_rfl
theorem ok29 [Glob] [RngG Go.Proofs.Tryd.prog] (h : AllOK Go.Proofs.Tryd.prog L29) (h' : AllU Go.Proofs.Tryd.prog U29) : con29.OK Go.Proofs.Tryd.prog 29 := con_of_tree (lookC_ok h h') (rounds_of (l := S29) ⟨r29_43_2_0, trivial⟩) e29
abbrev ps35 : List Ty := [.row (.pair (.int .i64) (.pair (.int .i64) (.int .i64))), .pair (.int .i64) (.int .i64), .fnc 33]
abbrev rs35 : List RTy := [.val (.int .i64)]
noncomputable abbrev L35 : List (Nat × Con) := [(33, con33), (50, con50)]
noncomputable abbrev U35 : List (Nat × UCon) := []
noncomputable abbrev C35 : Cons := lookC L35 U35
abbrev s35_51_2_0 : LShape := ⟨19, [(0, .cont (.pair (.int .i64) (.pair (.int .i64) (.int .i64)))), (1, .fix (.fn (.func 54) [] [(.ptr 4294967312 0), (.ptr 4294967296 0)])), (7, .int .i64), (8, .int .i64)], [(4294967296, .box 56 [.int .i64, .int .i64]), (4294967312, .box 73 [.fix (.fn (.func 33) [] [])])], [], []⟩
abbrev o35_51_2_0 : LShape := ⟨19, [], [(4294967296, .box 56 [.int .i64, .int .i64]), (4294967312, .box 73 [.fix (.fn (.func 33) [] [])])], [], []⟩
abbrev q35_51_2_0 : LShape := ⟨19, [(4, .int .i64)], [(4294967296, .box 56 [.int .i64, .int .i64]), (4294967312, .box 73 [.fix (.fn (.func 33) [] [])])], [], []⟩
noncomputable def l35_51_2_0 : LSum := ⟨8, 51, s35_51_2_0, 0, o35_51_2_0, q35_51_2_0, u35_51_2_0, false⟩
noncomputable abbrev S35 : List (Nat × Nat × LSum) := [(18446761807629516800, 2, l35_51_2_0)]
noncomputable def con35 : Con := ⟨ps35, rs35, fun x => f35 x.1 x.2.1.1 x.2.1.2⟩
theorem r35_51_2_0 : Round Go.Proofs.Tryd.prog C35 (lookS S35) big 18446761807629516800 2 l35_51_2_0 := ⟨by kernel_rfl, fun z => by kernel_rfl⟩
theorem e35 (x : Args ps35) : kTop Go.Proofs.Tryd.prog C35 (lookS S35) big 10 35 ps35 rs35 x = con35.f x := by kernel_rfl
theorem ok35 [Glob] [RngG Go.Proofs.Tryd.prog] (h : AllOK Go.Proofs.Tryd.prog L35) (h' : AllU Go.Proofs.Tryd.prog U35) : con35.OK Go.Proofs.Tryd.prog 35 := con_of_tree (lookC_ok h h') (rounds_of (l := S35) ⟨r35_51_2_0, trivial⟩) e35
abbrev ps7 : List Ty := [.row (.pair (.int .i64) (.pair (.int .i64) (.pair (.int .i64) (.pair (.int .i64) (.int .i64))))), .int .i64, .int .i64]
abbrev rs7 : List RTy := [.val (.int .i64)]
noncomputable abbrev L7 : List (Nat × Con) := [(23, con23)]
noncomputable abbrev U7 : List (Nat × UCon) := []
noncomputable abbrev C7 : Cons := lookC L7 U7
noncomputable abbrev S7 : List (Nat × Nat × LSum) := []
noncomputable def con7 : Con := ⟨ps7, rs7, fun x => f7 x.1 x.2.1 x.2.2.1⟩
theorem e7 (x : Args ps7) : kTop Go.Proofs.Tryd.prog C7 (lookS S7) big 10 7 ps7 rs7 x = con7.f x := by kernel_rfl
theorem ok7 [Glob] [RngG Go.Proofs.Tryd.prog] (h : AllOK Go.Proofs.Tryd.prog L7) (h' : AllU Go.Proofs.Tryd.prog U7) : con7.OK Go.Proofs.Tryd.prog 7 := con_of_tree (lookC_ok h h') (rounds_of (l := S7) trivial) e7
abbrev ps11 : List Ty := [.row (.pair (.int .i64) (.pair (.int .i64) (.pair (.int .i64) (.pair (.int .i64) (.int .i64))))), .pair (.int .i64) (.pair (.int .i64) (.pair (.int .i64) (.pair (.int .i64) (.int .i64))))]
abbrev rs11 : List RTy := [.own 42 (.pair (.int .i64) (.pair (.int .i64) (.pair (.int .i64) (.pair (.int .i64) (.int .i64))))), .val .bool]
noncomputable abbrev L11 : List (Nat × Con) := [(27, conCLease), (7, con7), (24, con24), (29, con29)]
noncomputable abbrev U11 : List (Nat × UCon) := [(28, uILease)]
noncomputable abbrev C11 : Cons := lookC L11 U11
noncomputable abbrev S11 : List (Nat × Nat × LSum) := []
noncomputable def con11 : Con := ⟨ps11, rs11, fun x => f11 x.1 x.2.1.1 x.2.1.2.1 x.2.1.2.2.1 x.2.1.2.2.2.1 x.2.1.2.2.2.2⟩
theorem e11 (x : Args ps11) : kTop Go.Proofs.Tryd.prog C11 (lookS S11) big 10 11 ps11 rs11 x = con11.f x := by kernel_rfl
theorem ok11 [Glob] [RngG Go.Proofs.Tryd.prog] (h : AllOK Go.Proofs.Tryd.prog L11) (h' : AllU Go.Proofs.Tryd.prog U11) : con11.OK Go.Proofs.Tryd.prog 11 := con_of_tree (lookC_ok h h') (rounds_of (l := S11) trivial) e11
abbrev ps12 : List Ty := [.row (.pair (.int .i64) (.pair (.int .i64) (.int .i64))), .pair (.int .i64) (.pair (.int .i64) (.int .i64))]
abbrev rs12 : List RTy := [.own 34 (.pair (.int .i64) (.pair (.int .i64) (.int .i64)))]
noncomputable abbrev L12 : List (Nat × Con) := [(31, conCHeld), (33, con33), (35, con35)]
noncomputable abbrev U12 : List (Nat × UCon) := [(34, uIHeld)]
noncomputable abbrev C12 : Cons := lookC L12 U12
abbrev s12_51_2_0 : LShape := ⟨19, [(0, .fix (.sl 4294971408 0)), (1, .fix (.fn (.func 32) [] [(.ptr 4294967296 0)])), (7, .int .i64), (8, .int .i64)], [(4294967296, .box 34 [.int .i64, .int .i64, .int .i64]), (4294971408, .row 34 (.pair (.int .i64) (.pair (.int .i64) (.int .i64))) 0)], [], []⟩
abbrev o12_51_2_0 : LShape := ⟨19, [], [(4294967296, .box 34 [.int .i64, .int .i64, .int .i64]), (4294971408, .row 34 (.pair (.int .i64) (.pair (.int .i64) (.int .i64))) 0)], [], []⟩
abbrev q12_51_2_0 : LShape := ⟨19, [(4, .int .i64)], [(4294967296, .box 34 [.int .i64, .int .i64, .int .i64]), (4294971408, .row 34 (.pair (.int .i64) (.pair (.int .i64) (.int .i64))) 0)], [], []⟩
noncomputable def l12_51_2_0 : LSum := ⟨7, 51, s12_51_2_0, 0, o12_51_2_0, q12_51_2_0, u12_51_2_0, false⟩
abbrev s12_30_5_0 : LShape := ⟨42, [(0, .fix (.sl 4294971408 0)), (1, .fix (.fn (.func 32) [] [(.ptr 4294967296 0)])), (5, .int .i64), (6, .int .i64)], [(4294967296, .box 34 [.int .i64, .int .i64, .int .i64]), (4294971408, .row 34 (.pair (.int .i64) (.pair (.int .i64) (.int .i64))) 0)], [], []⟩
abbrev o12_30_5_0 : LShape := ⟨42, [(0, .fix (.sl 4294971408 0)), (5, .int .i64)], [(4294967296, .box 34 [.int .i64, .int .i64, .int .i64]), (4294971408, .row 34 (.pair (.int .i64) (.pair (.int .i64) (.int .i64))) 0)], [], []⟩
abbrev q12_30_5_0 : LShape := ⟨42, [], [(4294967296, .box 34 [.int .i64, .int .i64, .int .i64]), (4294971408, .row 34 (.pair (.int .i64) (.pair (.int .i64) (.int .i64))) 0)], [], []⟩
noncomputable def l12_30_5_0 : LSum := ⟨8, 30, s12_30_5_0, 0, o12_30_5_0, q12_30_5_0, u12_30_5_0, false⟩
noncomputable abbrev S12 : List (Nat × Nat × LSum) := [(79228238976018540853555363840, 2, l12_51_2_0), (18446761876348993536, 5, l12_30_5_0)]
noncomputable def con12 : Con := ⟨ps12, rs12, fun x => f12 x.1 x.2.1.1 x.2.1.2.1 x.2.1.2.2⟩
theorem r12_51_2_0 : Round Go.Proofs.Tryd.prog C12 (lookS S12) big 79228238976018540853555363840 2 l12_51_2_0 := ⟨by kernel_rfl, fun z => by kernel_rfl⟩
theorem r12_30_5_0 : Round Go.Proofs.Tryd.prog C12 (lookS S12) big 18446761876348993536 5 l12_30_5_0 := ⟨by kernel_rfl, fun z => by kernel_rfl⟩
theorem e12 (x : Args ps12) : kTop Go.Proofs.Tryd.prog C12 (lookS S12) big 10 12 ps12 rs12 x = con12.f x := by kernel_rfl
theorem ok12 [Glob] [RngG Go.Proofs.Tryd.prog] (h : AllOK Go.Proofs.Tryd.prog L12) (h' : AllU Go.Proofs.Tryd.prog U12) : con12.OK Go.Proofs.Tryd.prog 12 := con_of_tree (lookC_ok h h') (rounds_of (l := S12) ⟨r12_51_2_0, r12_30_5_0, trivial⟩) e12
abbrev ps14 : List Ty := [.row (.pair (.int .i64) (.pair (.int .i64) (.int .i64))), .int .i64]
abbrev rs14 : List RTy := [.own 34 (.pair (.int .i64) (.pair (.int .i64) (.int .i64)))]
noncomputable abbrev L14 : List (Nat × Con) := [(31, conCHeld)]
noncomputable abbrev U14 : List (Nat × UCon) := []
noncomputable abbrev C14 : Cons := lookC L14 U14
abbrev s14_51_2_0 : LShape := ⟨19, [(0, .fix (.sl 4294971408 0)), (1, .fix (.fn (.func 36) [] [(.ptr 4294967296 0)])), (7, .int .i64), (8, .int .i64)], [(4294967296, .box 3 [.int .i64]), (4294971408, .row 34 (.pair (.int .i64) (.pair (.int .i64) (.int .i64))) 0)], [], []⟩
abbrev o14_51_2_0 : LShape := ⟨19, [], [(4294967296, .box 3 [.int .i64]), (4294971408, .row 34 (.pair (.int .i64) (.pair (.int .i64) (.int .i64))) 0)], [], []⟩
abbrev q14_51_2_0 : LShape := ⟨19, [(4, .int .i64)], [(4294967296, .box 3 [.int .i64]), (4294971408, .row 34 (.pair (.int .i64) (.pair (.int .i64) (.int .i64))) 0)], [], []⟩
noncomputable def l14_51_2_0 : LSum := ⟨7, 51, s14_51_2_0, 0, o14_51_2_0, q14_51_2_0, u14_51_2_0, false⟩
abbrev s14_30_5_0 : LShape := ⟨42, [(0, .fix (.sl 4294971408 0)), (1, .fix (.fn (.func 36) [] [(.ptr 4294967296 0)])), (5, .int .i64), (6, .int .i64)], [(4294967296, .box 3 [.int .i64]), (4294971408, .row 34 (.pair (.int .i64) (.pair (.int .i64) (.int .i64))) 0)], [], []⟩
abbrev o14_30_5_0 : LShape := ⟨42, [(0, .fix (.sl 4294971408 0)), (5, .int .i64)], [(4294967296, .box 3 [.int .i64]), (4294971408, .row 34 (.pair (.int .i64) (.pair (.int .i64) (.int .i64))) 0)], [], []⟩
abbrev q14_30_5_0 : LShape := ⟨42, [], [(4294967296, .box 3 [.int .i64]), (4294971408, .row 34 (.pair (.int .i64) (.pair (.int .i64) (.int .i64))) 0)], [], []⟩
noncomputable def l14_30_5_0 : LSum := ⟨8, 30, s14_30_5_0, 0, o14_30_5_0, q14_30_5_0, u14_30_5_0, false⟩
noncomputable abbrev S14 : List (Nat × Nat × LSum) := [(79228238976018540853555363840, 2, l14_51_2_0), (18446761876348993536, 5, l14_30_5_0)]
noncomputable def con14 : Con := ⟨ps14, rs14, fun x => f14 x.1 x.2.1⟩
theorem r14_51_2_0 : Round Go.Proofs.Tryd.prog C14 (lookS S14) big 79228238976018540853555363840 2 l14_51_2_0 := ⟨by kernel_rfl, fun z => by kernel_rfl⟩
theorem r14_30_5_0 : Round Go.Proofs.Tryd.prog C14 (lookS S14) big 18446761876348993536 5 l14_30_5_0 := ⟨by kernel_rfl, fun z => by kernel_rfl⟩
theorem e14 (x : Args ps14) : kTop Go.Proofs.Tryd.prog C14 (lookS S14) big 10 14 ps14 rs14 x = con14.f x := by kernel_rfl
theorem ok14 [Glob] [RngG Go.Proofs.Tryd.prog] (h : AllOK Go.Proofs.Tryd.prog L14) (h' : AllU Go.Proofs.Tryd.prog U14) : con14.OK Go.Proofs.Tryd.prog 14 := con_of_tree (lookC_ok h h') (rounds_of (l := S14) ⟨r14_51_2_0, r14_30_5_0, trivial⟩) e14
abbrev ps15 : List Ty := [.row (.pair (.int .i64) (.pair (.int .i64) (.pair (.int .i64) (.pair (.int .i64) (.int .i64)))))]
abbrev rs15 : List RTy := [.own 3 (.int .i64)]
noncomputable abbrev L15 : List (Nat × Con) := [(20, con20)]
noncomputable abbrev U15 : List (Nat × UCon) := [(37, uSort), (38, uCompact)]
noncomputable abbrev C15 : Cons := lookC L15 U15
abbrev s15_3 : LShape := ⟨24, [(6, .cont (.pair (.int .i64) (.pair (.int .i64) (.pair (.int .i64) (.pair (.int .i64) (.int .i64)))))), (7, .int .i64), (8, .int .i64)], [], [], [⟨3, 8294967488, 3, (.int .i64)⟩]⟩
abbrev o15_3 : LShape := ⟨24, [], [], [], [⟨3, 8294967520, 3, (.int .i64)⟩]⟩
abbrev q15_3 : LShape := ⟨24, [], [], [], []⟩
noncomputable def l15_3 : LSum := ⟨9, 15, s15_3, 0, o15_3, q15_3, u15_3, false⟩
noncomputable abbrev S15 : List (Nat × Nat × LSum) := [(4294967296, 3, l15_3)]
noncomputable def con15 : Con := ⟨ps15, rs15, fun x => f15 x.1⟩
theorem r15_3 : Round Go.Proofs.Tryd.prog C15 (lookS S15) big 4294967296 3 l15_3 := ⟨by kernel_rfl, fun z => by kernel_rfl⟩
theorem e15 (x : Args ps15) : kTop Go.Proofs.Tryd.prog C15 (lookS S15) big 10 15 ps15 rs15 x = con15.f x := by kernel_rfl
theorem ok15 [Glob] [RngG Go.Proofs.Tryd.prog] (h : AllOK Go.Proofs.Tryd.prog L15) (h' : AllU Go.Proofs.Tryd.prog U15) : con15.OK Go.Proofs.Tryd.prog 15 := con_of_tree (lookC_ok h h') (rounds_of (l := S15) ⟨r15_3, trivial⟩) e15
abbrev ps4 : List Ty := []
abbrev rs4 : List RTy := [.val .bool]
noncomputable abbrev L4 : List (Nat × Con) := [(11, con11), (12, con12), (7, con7), (13, con13), (14, con14), (15, con15), (16, con16), (17, con17)]
noncomputable abbrev U4 : List (Nat × UCon) := []
noncomputable abbrev C4 : Cons := lookC L4 U4
noncomputable abbrev S4 : List (Nat × Nat × LSum) := []
noncomputable def con4 : Con := ⟨ps4, rs4, fun x => f4 ⟩
theorem e4 (x : Args ps4) : kTop Go.Proofs.Tryd.prog C4 (lookS S4) big 10 4 ps4 rs4 x = con4.f x := by kernel_rfl
theorem ok4 [Glob] [RngG Go.Proofs.Tryd.prog] (h : AllOK Go.Proofs.Tryd.prog L4) (h' : AllU Go.Proofs.Tryd.prog U4) : con4.OK Go.Proofs.Tryd.prog 4 := con_of_tree (lookC_ok h h') (rounds_of (l := S4) trivial) e4
abbrev ps86 : List Ty := [.pair (.int .i64) (.int .i64)]
abbrev rs86 : List RTy := [.val .bool]
noncomputable abbrev L86 : List (Nat × Con) := []
noncomputable abbrev U86 : List (Nat × UCon) := []
noncomputable abbrev C86 : Cons := lookC L86 U86
noncomputable abbrev S86 : List (Nat × Nat × LSum) := []
noncomputable def con86 : Con := ⟨ps86, rs86, fun x => f86 x.1.1 x.1.2⟩
theorem e86 (x : Args ps86) : kTop Go.Proofs.Tryd.prog C86 (lookS S86) big 10 86 ps86 rs86 x = con86.f x := by kernel_rfl
theorem ok86 [Glob] [RngG Go.Proofs.Tryd.prog] (h : AllOK Go.Proofs.Tryd.prog L86) (h' : AllU Go.Proofs.Tryd.prog U86) : con86.OK Go.Proofs.Tryd.prog 86 := con_of_tree (lookC_ok h h') (rounds_of (l := S86) trivial) e86
abbrev ps59 : List Ty := [.pair (.int .i64) (.int .i64)]
abbrev rs59 : List RTy := [.val (.int .i64)]
noncomputable abbrev L59 : List (Nat × Con) := [(86, con86)]
noncomputable abbrev U59 : List (Nat × UCon) := []
noncomputable abbrev C59 : Cons := lookC L59 U59
noncomputable abbrev S59 : List (Nat × Nat × LSum) := []
noncomputable def con59 : Con := ⟨ps59, rs59, fun x => f59 x.1.1 x.1.2⟩
theorem e59 (x : Args ps59) : kTop Go.Proofs.Tryd.prog C59 (lookS S59) big 10 59 ps59 rs59 x = con59.f x := by kernel_rfl
theorem ok59 [Glob] [RngG Go.Proofs.Tryd.prog] (h : AllOK Go.Proofs.Tryd.prog L59) (h' : AllU Go.Proofs.Tryd.prog U59) : con59.OK Go.Proofs.Tryd.prog 59 := con_of_tree (lookC_ok h h') (rounds_of (l := S59) trivial) e59
abbrev ps87 : List Ty := [.pair (.int .i64) (.int .i64), .int .i64]
abbrev rs87 : List RTy := [.val (.int .i64)]
noncomputable abbrev L87 : List (Nat × Con) := [(86, con86)]
noncomputable abbrev U87 : List (Nat × UCon) := []
noncomputable abbrev C87 : Cons := lookC L87 U87
noncomputable abbrev S87 : List (Nat × Nat × LSum) := []
noncomputable def con87 : Con := ⟨ps87, rs87, fun x => f87 x.1.1 x.1.2 x.2.1⟩
theorem e87 (x : Args ps87) : kTop Go.Proofs.Tryd.prog C87 (lookS S87) big 10 87 ps87 rs87 x = con87.f x := by kernel_rfl
theorem ok87 [Glob] [RngG Go.Proofs.Tryd.prog] (h : AllOK Go.Proofs.Tryd.prog L87) (h' : AllU Go.Proofs.Tryd.prog U87) : con87.OK Go.Proofs.Tryd.prog 87 := con_of_tree (lookC_ok h h') (rounds_of (l := S87) trivial) e87
abbrev ps61 : List Ty := [.pair (.int .i64) (.int .i64), .pair (.int .i64) (.int .i64)]
abbrev rs61 : List RTy := [.val .bool]
noncomputable abbrev L61 : List (Nat × Con) := [(86, con86), (87, con87)]
noncomputable abbrev U61 : List (Nat × UCon) := []
noncomputable abbrev C61 : Cons := lookC L61 U61
noncomputable abbrev S61 : List (Nat × Nat × LSum) := []
noncomputable def con61 : Con := ⟨ps61, rs61, fun x => f61 x.1.1 x.1.2 x.2.1.1 x.2.1.2⟩
theorem e61 (x : Args ps61) : kTop Go.Proofs.Tryd.prog C61 (lookS S61) big 10 61 ps61 rs61 x = con61.f x := by kernel_rfl
theorem ok61 [Glob] [RngG Go.Proofs.Tryd.prog] (h : AllOK Go.Proofs.Tryd.prog L61) (h' : AllU Go.Proofs.Tryd.prog U61) : con61.OK Go.Proofs.Tryd.prog 61 := con_of_tree (lookC_ok h h') (rounds_of (l := S61) trivial) e61
abbrev ps65 : List Ty := [.pair (.pair (.int .i64) (.int .i64)) (.pair (.pair (.int .i64) (.int .i64)) (.pair (.int .i64) (.pair (.int .i64) (.pair (.int .i64) (.int .i64)))))]
abbrev rs65 : List RTy := [.val (.int .i64)]
noncomputable abbrev L65 : List (Nat × Con) := []
noncomputable abbrev U65 : List (Nat × UCon) := []
noncomputable abbrev C65 : Cons := lookC L65 U65
noncomputable abbrev S65 : List (Nat × Nat × LSum) := []
noncomputable def con65 : Con := ⟨ps65, rs65, fun x => f65 x.1.1.1 x.1.1.2 x.1.2.1.1 x.1.2.1.2 x.1.2.2.1 x.1.2.2.2.1 x.1.2.2.2.2.1 x.1.2.2.2.2.2⟩
theorem e65 (x : Args ps65) : kTop Go.Proofs.Tryd.prog C65 (lookS S65) big 10 65 ps65 rs65 x = con65.f x := by kernel_rfl
theorem ok65 [Glob] [RngG Go.Proofs.Tryd.prog] (h : AllOK Go.Proofs.Tryd.prog L65) (h' : AllU Go.Proofs.Tryd.prog U65) : con65.OK Go.Proofs.Tryd.prog 65 := con_of_tree (lookC_ok h h') (rounds_of (l := S65) trivial) e65
abbrev ps66 : List Ty := [.pair (.pair (.int .i64) (.int .i64)) (.pair (.pair (.int .i64) (.int .i64)) (.pair (.int .i64) (.pair (.int .i64) (.pair (.int .i64) (.int .i64)))))]
abbrev rs66 : List RTy := [.val (.int .i64)]
noncomputable abbrev L66 : List (Nat × Con) := [(59, con59)]
noncomputable abbrev U66 : List (Nat × UCon) := []
noncomputable abbrev C66 : Cons := lookC L66 U66
noncomputable abbrev S66 : List (Nat × Nat × LSum) := []
noncomputable def con66 : Con := ⟨ps66, rs66, fun x => f66 x.1.1.1 x.1.1.2 x.1.2.1.1 x.1.2.1.2 x.1.2.2.1 x.1.2.2.2.1 x.1.2.2.2.2.1 x.1.2.2.2.2.2⟩
theorem e66 (x : Args ps66) : kTop Go.Proofs.Tryd.prog C66 (lookS S66) big 10 66 ps66 rs66 x = con66.f x := by kernel_rfl
theorem ok66 [Glob] [RngG Go.Proofs.Tryd.prog] (h : AllOK Go.Proofs.Tryd.prog L66) (h' : AllU Go.Proofs.Tryd.prog U66) : con66.OK Go.Proofs.Tryd.prog 66 := con_of_tree (lookC_ok h h') (rounds_of (l := S66) trivial) e66
abbrev ps57 : List Ty := [.int .i64, .int .i64, .int .i64]
abbrev rs57 : List RTy := [.val .bool]
noncomputable abbrev L57 : List (Nat × Con) := []
noncomputable abbrev U57 : List (Nat × UCon) := []
noncomputable abbrev C57 : Cons := lookC L57 U57
noncomputable abbrev S57 : List (Nat × Nat × LSum) := []
noncomputable def con57 : Con := ⟨ps57, rs57, fun x => f57 x.1 x.2.1 x.2.2.1⟩
theorem e57 (x : Args ps57) : kTop Go.Proofs.Tryd.prog C57 (lookS S57) big 10 57 ps57 rs57 x = con57.f x := by kernel_rfl
theorem ok57 [Glob] [RngG Go.Proofs.Tryd.prog] (h : AllOK Go.Proofs.Tryd.prog L57) (h' : AllU Go.Proofs.Tryd.prog U57) : con57.OK Go.Proofs.Tryd.prog 57 := con_of_tree (lookC_ok h h') (rounds_of (l := S57) trivial) e57
abbrev ps41 : List Ty := [.pair (.pair (.int .i64) (.int .i64)) (.pair (.pair (.int .i64) (.int .i64)) (.pair (.int .i64) (.pair (.int .i64) (.pair (.int .i64) (.int .i64)))))]
abbrev rs41 : List RTy := [.val .bool]
noncomputable abbrev L41 : List (Nat × Con) := [(57, con57), (59, con59), (61, con61), (65, con65), (66, con66)]
noncomputable abbrev U41 : List (Nat × UCon) := []
noncomputable abbrev C41 : Cons := lookC L41 U41
noncomputable abbrev S41 : List (Nat × Nat × LSum) := []
noncomputable def con41 : Con := ⟨ps41, rs41, fun x => f41 x.1.1.1 x.1.1.2 x.1.2.1.1 x.1.2.1.2 x.1.2.2.1 x.1.2.2.2.1 x.1.2.2.2.2.1 x.1.2.2.2.2.2⟩
theorem e41 (x : Args ps41) : kTop Go.Proofs.Tryd.prog C41 (lookS S41) big 10 41 ps41 rs41 x = con41.f x := by kernel_rfl
theorem ok41 [Glob] [RngG Go.Proofs.Tryd.prog] (h : AllOK Go.Proofs.Tryd.prog L41) (h' : AllU Go.Proofs.Tryd.prog U41) : con41.OK Go.Proofs.Tryd.prog 41 := con_of_tree (lookC_ok h h') (rounds_of (l := S41) trivial) e41
abbrev ps19 : List Ty := [.pair (.pair (.int .i64) (.int .i64)) (.pair (.pair (.int .i64) (.int .i64)) (.pair (.int .i64) (.pair (.int .i64) (.pair (.int .i64) (.int .i64)))))]
abbrev rs19 : List RTy := [.val (.int .i64)]
noncomputable abbrev L19 : List (Nat × Con) := [(41, con41)]
noncomputable abbrev U19 : List (Nat × UCon) := []
noncomputable abbrev C19 : Cons := lookC L19 U19
noncomputable abbrev S19 : List (Nat × Nat × LSum) := []
noncomputable def con19 : Con := ⟨ps19, rs19, fun x => f19 x.1.1.1 x.1.1.2 x.1.2.1.1 x.1.2.1.2 x.1.2.2.1 x.1.2.2.2.1 x.1.2.2.2.2.1 x.1.2.2.2.2.2⟩
theorem e19 (x : Args ps19) : kTop Go.Proofs.Tryd.prog C19 (lookS S19) big 10 19 ps19 rs19 x = con19.f x := by kernel_rfl
theorem ok19 [Glob] [RngG Go.Proofs.Tryd.prog] (h : AllOK Go.Proofs.Tryd.prog L19) (h' : AllU Go.Proofs.Tryd.prog U19) : con19.OK Go.Proofs.Tryd.prog 19 := con_of_tree (lookC_ok h h') (rounds_of (l := S19) trivial) e19
abbrev ps8 : List Ty := [.pair (.int .i64) (.int .i64)]
abbrev rs8 : List RTy := [.val .bool]
noncomputable abbrev L8 : List (Nat × Con) := []
noncomputable abbrev U8 : List (Nat × UCon) := []
noncomputable abbrev C8 : Cons := lookC L8 U8
noncomputable abbrev S8 : List (Nat × Nat × LSum) := []
noncomputable def con8 : Con := ⟨ps8, rs8, fun x => f8 x.1.1 x.1.2⟩
theorem e8 (x : Args ps8) : kTop Go.Proofs.Tryd.prog C8 (lookS S8) big 10 8 ps8 rs8 x = con8.f x := by kernel_rfl
theorem ok8 [Glob] [RngG Go.Proofs.Tryd.prog] (h : AllOK Go.Proofs.Tryd.prog L8) (h' : AllU Go.Proofs.Tryd.prog U8) : con8.OK Go.Proofs.Tryd.prog 8 := con_of_tree (lookC_ok h h') (rounds_of (l := S8) trivial) e8
abbrev ps18 : List Ty := [.int .i64]
abbrev rs18 : List RTy := [.val (.pair (.int .i64) (.int .i64)), .val .bool]
noncomputable abbrev L18 : List (Nat × Con) := [(8, con8)]
noncomputable abbrev U18 : List (Nat × UCon) := []
noncomputable abbrev C18 : Cons := lookC L18 U18
noncomputable abbrev S18 : List (Nat × Nat × LSum) := []
noncomputable def con18 : Con := ⟨ps18, rs18, fun x => f18 x.1⟩
theorem e18 (x : Args ps18) : kTop Go.Proofs.Tryd.prog C18 (lookS S18) big 10 18 ps18 rs18 x = con18.f x := by kernel_rfl
theorem ok18 [Glob] [RngG Go.Proofs.Tryd.prog] (h : AllOK Go.Proofs.Tryd.prog L18) (h' : AllU Go.Proofs.Tryd.prog U18) : con18.OK Go.Proofs.Tryd.prog 18 := con_of_tree (lookC_ok h h') (rounds_of (l := S18) trivial) e18
abbrev ps25 : List Ty := [.pair (.int .i64) (.int .i64), .int .i64]
abbrev rs25 : List RTy := [.val .bool]
noncomputable abbrev L25 : List (Nat × Con) := [(8, con8)]
noncomputable abbrev U25 : List (Nat × UCon) := []
noncomputable abbrev C25 : Cons := lookC L25 U25
noncomputable abbrev S25 : List (Nat × Nat × LSum) := []
noncomputable def con25 : Con := ⟨ps25, rs25, fun x => f25 x.1.1 x.1.2 x.2.1⟩
theorem e25 (x : Args ps25) : kTop Go.Proofs.Tryd.prog C25 (lookS S25) big 10 25 ps25 rs25 x = con25.f x := by kernel_rfl
theorem ok25 [Glob] [RngG Go.Proofs.Tryd.prog] (h : AllOK Go.Proofs.Tryd.prog L25) (h' : AllU Go.Proofs.Tryd.prog U25) : con25.OK Go.Proofs.Tryd.prog 25 := con_of_tree (lookC_ok h h') (rounds_of (l := S25) trivial) e25
abbrev ps9 : List Ty := [.pair (.int .i64) (.int .i64), .int .i64]
abbrev rs9 : List RTy := [.val .bool]
noncomputable abbrev L9 : List (Nat × Con) := [(25, con25)]
noncomputable abbrev U9 : List (Nat × UCon) := []
noncomputable abbrev C9 : Cons := lookC L9 U9
noncomputable abbrev S9 : List (Nat × Nat × LSum) := []
noncomputable def con9 : Con := ⟨ps9, rs9, fun x => f9 x.1.1 x.1.2 x.2.1⟩
theorem e9 (x : Args ps9) : kTop Go.Proofs.Tryd.prog C9 (lookS S9) big 10 9 ps9 rs9 x = con9.f x := by kernel_rfl
theorem ok9 [Glob] [RngG Go.Proofs.Tryd.prog] (h : AllOK Go.Proofs.Tryd.prog L9) (h' : AllU Go.Proofs.Tryd.prog U9) : con9.OK Go.Proofs.Tryd.prog 9 := con_of_tree (lookC_ok h h') (rounds_of (l := S9) trivial) e9
abbrev ps10 : List Ty := [.pair (.int .i64) (.int .i64)]
abbrev rs10 : List RTy := [.val (.int .i64)]
noncomputable abbrev L10 : List (Nat × Con) := [(8, con8), (46, conTz)]
noncomputable abbrev U10 : List (Nat × UCon) := []
noncomputable abbrev C10 : Cons := lookC L10 U10
abbrev s10_45_2_0 : LShape := ⟨26, [(0, .fix (.yld 4294979584)), (3, .int .u64)], [(4294967296, .box 31 [.int .i64, .int .i64]), (4294967312, .box 3 [.int .i64]), (18446761738910040064, .box 31 [.int .i64, .int .i64]), (4294979584, .loop 10 3 .ready [.fix .junk, .fix .junk, .fix (.ptr 4294967312 0), .fix (.lit (.tuple #[])), .fix .junk, .fix .junk, .fix (.lit (.tuple #[])), .fix (.lit (.tuple #[]))])], [], []⟩
abbrev o10_45_2_0 : LShape := ⟨26, [], [(4294967296, .box 31 [.int .i64, .int .i64]), (4294967312, .box 3 [.int .i64]), (18446761738910040064, .box 31 [.int .i64, .int .i64]), (4294979584, .loop 10 3 .ready [.fix .junk, .fix .junk, .fix (.ptr 4294967312 0), .fix (.lit (.tuple #[])), .fix .junk, .fix .junk, .fix (.lit (.tuple #[])), .fix (.lit (.tuple #[]))])], [], []⟩
abbrev q10_45_2_0 : LShape := ⟨26, [], [(4294967296, .box 31 [.int .i64, .int .i64]), (4294967312, .box 3 [.int .i64]), (18446761738910040064, .box 31 [.int .i64, .int .i64]), (4294979584, .loop 10 3 (.done .ret) [.fix .junk, .fix .junk, .fix (.ptr 4294967312 0), .fix (.lit (.tuple #[])), .fix .junk, .fix .junk, .fix (.lit (.tuple #[])), .fix (.lit (.tuple #[]))])], [], []⟩
noncomputable def l10_45_2_0 : LSum := ⟨8, 45, s10_45_2_0, 0, o10_45_2_0, q10_45_2_0, u10_45_2_0, false⟩
noncomputable abbrev S10 : List (Nat × Nat × LSum) := [(18446796858857619456, 2, l10_45_2_0)]
noncomputable def con10 : Con := ⟨ps10, rs10, fun x => f10 x.1.1 x.1.2⟩
theorem r10_45_2_0 : Round Go.Proofs.Tryd.prog C10 (lookS S10) big 18446796858857619456 2 l10_45_2_0 := ⟨by kernel_rfl, fun z => by kernel_rfl⟩
theorem e10 (x : Args ps10) : kTop Go.Proofs.Tryd.prog C10 (lookS S10) big 10 10 ps10 rs10 x = con10.f x := by kernel_rfl
theorem ok10 [Glob] [RngG Go.Proofs.Tryd.prog] (h : AllOK Go.Proofs.Tryd.prog L10) (h' : AllU Go.Proofs.Tryd.prog U10) : con10.OK Go.Proofs.Tryd.prog 10 := con_of_tree (lookC_ok h h') (rounds_of (l := S10) ⟨r10_45_2_0, trivial⟩) e10
abbrev ps42 : List Ty := [.pair (.int .i64) (.int .i64), .int .i64, .bool]
abbrev rs42 : List RTy := [.val (.pair (.int .i64) (.int .i64)), .val .bool]
noncomputable abbrev L42 : List (Nat × Con) := [(25, con25), (9, con9)]
noncomputable abbrev U42 : List (Nat × UCon) := []
noncomputable abbrev C42 : Cons := lookC L42 U42
noncomputable abbrev S42 : List (Nat × Nat × LSum) := []
noncomputable def con42 : Con := ⟨ps42, rs42, fun x => f42 x.1.1 x.1.2 x.2.1 x.2.2.1⟩
theorem e42 (x : Args ps42) : kTop Go.Proofs.Tryd.prog C42 (lookS S42) big 10 42 ps42 rs42 x = con42.f x := by kernel_rfl
theorem ok42 [Glob] [RngG Go.Proofs.Tryd.prog] (h : AllOK Go.Proofs.Tryd.prog L42) (h' : AllU Go.Proofs.Tryd.prog U42) : con42.OK Go.Proofs.Tryd.prog 42 := con_of_tree (lookC_ok h h') (rounds_of (l := S42) trivial) e42
abbrev ps22 : List Ty := [.pair (.int .i64) (.int .i64), .int .i64]
abbrev rs22 : List RTy := [.val (.pair (.int .i64) (.int .i64)), .val .bool]
noncomputable abbrev L22 : List (Nat × Con) := [(42, con42)]
noncomputable abbrev U22 : List (Nat × UCon) := []
noncomputable abbrev C22 : Cons := lookC L22 U22
noncomputable abbrev S22 : List (Nat × Nat × LSum) := []
noncomputable def con22 : Con := ⟨ps22, rs22, fun x => f22 x.1.1 x.1.2 x.2.1⟩
theorem e22 (x : Args ps22) : kTop Go.Proofs.Tryd.prog C22 (lookS S22) big 10 22 ps22 rs22 x = con22.f x := by kernel_rfl
theorem ok22 [Glob] [RngG Go.Proofs.Tryd.prog] (h : AllOK Go.Proofs.Tryd.prog L22) (h' : AllU Go.Proofs.Tryd.prog U22) : con22.OK Go.Proofs.Tryd.prog 22 := con_of_tree (lookC_ok h h') (rounds_of (l := S22) trivial) e22
abbrev ps6 : List Ty := [.pair (.pair (.int .i64) (.int .i64)) (.pair (.pair (.int .i64) (.int .i64)) (.pair (.int .i64) (.pair (.int .i64) (.pair (.int .i64) (.int .i64))))), .row (.pair (.int .i64) (.pair (.int .i64) (.pair (.int .i64) (.pair (.int .i64) (.int .i64))))), .row (.pair (.int .i64) (.pair (.int .i64) (.int .i64))), .int .i64]
abbrev rs6 : List RTy := [.val (.pair (.int .i64) (.int .i64))]
noncomputable abbrev L6 : List (Nat × Con) := [(18, con18), (19, con19), (20, con20), (21, con21), (22, con22)]
noncomputable abbrev U6 : List (Nat × UCon) := []
noncomputable abbrev C6 : Cons := lookC L6 U6
abbrev s6_4 : LShape := ⟨69, [(2, .cont (.pair (.int .i64) (.pair (.int .i64) (.int .i64)))), (3, .int .i64), (8, .fix (.ptr 4294967312 0)), (9, .fix (.ptr 4294971488 0)), (24, .cont (.pair (.int .i64) (.pair (.int .i64) (.pair (.int .i64) (.pair (.int .i64) (.int .i64)))))), (25, .int .i64), (26, .int .i64)], [], [(4294967312, .box 31 [.int .i64, .int .i64]), (4294971488, .box 31 [.int .i64, .int .i64])], [⟨11, 8294967552, 56, (.pair (.int .i64) (.int .i64))⟩]⟩
abbrev o6_4 : LShape := ⟨69, [(2, .cont (.pair (.int .i64) (.pair (.int .i64) (.int .i64)))), (3, .int .i64), (8, .fix (.ptr 4294967312 0)), (9, .fix (.ptr 4294971488 0))], [], [(4294967312, .box 31 [.int .i64, .int .i64]), (4294971488, .box 31 [.int .i64, .int .i64])], [⟨11, 8294967584, 56, (.pair (.int .i64) (.int .i64))⟩]⟩
abbrev q6_4 : LShape := ⟨69, [], [], [], []⟩
noncomputable def l6_4 : LSum := ⟨9, 6, s6_4, 0, o6_4, q6_4, u6_4, false⟩
abbrev s6_9 : LShape := ⟨69, [(3, .int .i64), (8, .fix (.ptr 4294967312 0)), (9, .fix (.ptr 4294971488 0)), (37, .cont (.pair (.int .i64) (.pair (.int .i64) (.int .i64)))), (38, .int .i64), (39, .int .i64)], [], [(4294967312, .box 31 [.int .i64, .int .i64]), (4294971488, .box 31 [.int .i64, .int .i64])], [⟨11, 8294967872, 56, (.pair (.int .i64) (.int .i64))⟩]⟩
abbrev o6_9 : LShape := ⟨69, [(3, .int .i64), (8, .fix (.ptr 4294967312 0)), (9, .fix (.ptr 4294971488 0))], [], [(4294967312, .box 31 [.int .i64, .int .i64]), (4294971488, .box 31 [.int .i64, .int .i64])], [⟨11, 8294967904, 56, (.pair (.int .i64) (.int .i64))⟩]⟩
abbrev q6_9 : LShape := ⟨69, [], [], [], []⟩
noncomputable def l6_9 : LSum := ⟨9, 6, s6_9, 2, o6_9, q6_9, u6_9, false⟩
abbrev s6_14 : LShape := ⟨69, [(3, .int .i64), (8, .fix (.ptr 4294967312 0)), (9, .fix (.ptr 4294971488 0)), (51, .int .i64), (52, .int .i64)], [], [(4294967312, .box 31 [.int .i64, .int .i64]), (4294971488, .box 31 [.int .i64, .int .i64])], [⟨50, 8294968192, 56, (.pair (.int .i64) (.int .i64))⟩]⟩
abbrev o6_14 : LShape := ⟨69, [(8, .fix (.ptr 4294967312 0)), (9, .fix (.ptr 4294971488 0))], [], [(4294967312, .box 31 [.int .i64, .int .i64]), (4294971488, .box 31 [.int .i64, .int .i64])], []⟩
abbrev q6_14 : LShape := ⟨69, [], [], [], []⟩
noncomputable def l6_14 : LSum := ⟨9, 6, s6_14, 4, o6_14, q6_14, u6_14, false⟩
noncomputable abbrev S6 : List (Nat × Nat × LSum) := [(4294967296, 4, l6_4), (4294967296, 9, l6_9), (4294967296, 14, l6_14)]
noncomputable def con6 : Con := ⟨ps6, rs6, fun x => f6 x.1.1.1 x.1.1.2 x.1.2.1.1 x.1.2.1.2 x.1.2.2.1 x.1.2.2.2.1 x.1.2.2.2.2.1 x.1.2.2.2.2.2 x.2.1 x.2.2.1 x.2.2.2.1⟩
theorem r6_4 : Round Go.Proofs.Tryd.prog C6 (lookS S6) big 4294967296 4 l6_4 := ⟨by kernel_rfl, fun z => by kernel_rfl⟩
theorem r6_9 : Round Go.Proofs.Tryd.prog C6 (lookS S6) big 4294967296 9 l6_9 := ⟨by kernel_rfl, fun z => by kernel_rfl⟩
theorem r6_14 : Round Go.Proofs.Tryd.prog C6 (lookS S6) big 4294967296 14 l6_14 := ⟨by kernel_rfl, fun z => by kernel_rfl⟩
theorem e6 (x : Args ps6) : kTop Go.Proofs.Tryd.prog C6 (lookS S6) big 10 6 ps6 rs6 x = con6.f x := by kernel_rfl
theorem ok6 [Glob] [RngG Go.Proofs.Tryd.prog] (h : AllOK Go.Proofs.Tryd.prog L6) (h' : AllU Go.Proofs.Tryd.prog U6) : con6.OK Go.Proofs.Tryd.prog 6 := con_of_tree (lookC_ok h h') (rounds_of (l := S6) ⟨r6_4, r6_9, r6_14, trivial⟩) e6
abbrev ps3 : List Ty := [.pair (.pair (.int .i64) (.int .i64)) (.pair (.pair (.int .i64) (.int .i64)) (.pair (.int .i64) (.pair (.int .i64) (.pair (.int .i64) (.int .i64))))), .row (.pair (.int .i64) (.pair (.int .i64) (.pair (.int .i64) (.pair (.int .i64) (.int .i64))))), .row (.pair (.int .i64) (.pair (.int .i64) (.int .i64))), .int .i64, .int .i64]
abbrev rs3 : List RTy := [.val .bool]
noncomputable abbrev L3 : List (Nat × Con) := [(4, con4), (5, con5), (6, con6), (7, con7), (8, con8), (9, con9), (10, con10), (11, con11)]
noncomputable abbrev U3 : List (Nat × UCon) := []
noncomputable abbrev C3 : Cons := lookC L3 U3
abbrev s3_8 : LShape := ⟨109, [(1, .cont (.pair (.int .i64) (.pair (.int .i64) (.pair (.int .i64) (.pair (.int .i64) (.int .i64)))))), (2, .cont (.pair (.int .i64) (.pair (.int .i64) (.int .i64)))), (3, .int .i64), (4, .int .i64), (13, .fix (.ptr 4294987856 0)), (14, .bool), (15, .int .i64)], [], [(4294987856, .box 31 [.int .i64, .int .i64])], []⟩
abbrev o3_8 : LShape := ⟨109, [(1, .cont (.pair (.int .i64) (.pair (.int .i64) (.pair (.int .i64) (.pair (.int .i64) (.int .i64)))))), (3, .int .i64), (4, .int .i64), (13, .fix (.ptr 4294987856 0)), (14, .bool)], [], [(4294987856, .box 31 [.int .i64, .int .i64])], []⟩
abbrev q3_8 : LShape := ⟨109, [], [], [], []⟩
noncomputable def l3_8 : LSum := ⟨9, 3, s3_8, 0, o3_8, q3_8, u3_8, false⟩
noncomputable abbrev S3 : List (Nat × Nat × LSum) := [(4294967296, 8, l3_8)]
noncomputable def con3 : Con := ⟨ps3, rs3, fun x => f3 x.1.1.1 x.1.1.2 x.1.2.1.1 x.1.2.1.2 x.1.2.2.1 x.1.2.2.2.1 x.1.2.2.2.2.1 x.1.2.2.2.2.2 x.2.1 x.2.2.1 x.2.2.2.1 x.2.2.2.2.1⟩
theorem r3_8 : Round Go.Proofs.Tryd.prog C3 (lookS S3) big 4294967296 8 l3_8 := ⟨by kernel_rfl, fun z => by kernel_rfl⟩
theorem e3 (x : Args ps3) : kTop Go.Proofs.Tryd.prog C3 (lookS S3) big 10 3 ps3 rs3 x = con3.f x := by kernel_rfl
theorem ok3 [Glob] [RngG Go.Proofs.Tryd.prog] (h : AllOK Go.Proofs.Tryd.prog L3) (h' : AllU Go.Proofs.Tryd.prog U3) : con3.OK Go.Proofs.Tryd.prog 3 := con_of_tree (lookC_ok h h') (rounds_of (l := S3) ⟨r3_8, trivial⟩) e3

theorem k5 : con5.OK Tryd.prog 5 := ok5 trivial trivial
theorem k39 : con39.OK Tryd.prog 39 := ok39 trivial trivial
theorem k40 : con40.OK Tryd.prog 40 := ok40 trivial trivial
theorem k16 : con16.OK Tryd.prog 16 := ok16 ⟨k39, trivial⟩ trivial
theorem k17 : con17.OK Tryd.prog 17 := ok17 ⟨k40, trivial⟩ trivial
theorem k13 : con13.OK Tryd.prog 13 := ok13 trivial trivial
theorem k72 : con72.OK Tryd.prog 72 := ok72 trivial trivial
theorem k73 : con73.OK Tryd.prog 73 := ok73 trivial trivial
theorem k50 : con50.OK Tryd.prog 50 := ok50 ⟨k72, k73, trivial⟩ trivial
theorem k20 : con20.OK Tryd.prog 20 := ok20 trivial trivial
theorem k21 : con21.OK Tryd.prog 21 := ok21 trivial trivial
theorem k24 : con24.OK Tryd.prog 24 := ok24 ⟨k20, trivial⟩ trivial
theorem k33 : con33.OK Tryd.prog 33 := ok33 ⟨k21, trivial⟩ trivial
theorem k23 : con23.OK Tryd.prog 23 := ok23 ⟨k24, trivial⟩ trivial
theorem k29 : con29.OK Tryd.prog 29 := ok29 ⟨k24, k50, trivial⟩ trivial
theorem k35 : con35.OK Tryd.prog 35 := ok35 ⟨k33, k50, trivial⟩ trivial
theorem k7 : con7.OK Tryd.prog 7 := ok7 ⟨k23, trivial⟩ trivial
theorem k11 : con11.OK Tryd.prog 11 := ok11 ⟨okCLease, k7, k24, k29, trivial⟩ ⟨okILease, trivial⟩
theorem k12 : con12.OK Tryd.prog 12 := ok12 ⟨okCHeld, k33, k35, trivial⟩ ⟨okIHeld, trivial⟩
theorem k14 : con14.OK Tryd.prog 14 := ok14 ⟨okCHeld, trivial⟩ trivial
theorem k15 : con15.OK Tryd.prog 15 := ok15 ⟨k20, trivial⟩ ⟨okSort, okCompact, trivial⟩
theorem k4 : con4.OK Tryd.prog 4 := ok4 ⟨k11, k12, k7, k13, k14, k15, k16, k17, trivial⟩ trivial
theorem k86 : con86.OK Tryd.prog 86 := ok86 trivial trivial
theorem k59 : con59.OK Tryd.prog 59 := ok59 ⟨k86, trivial⟩ trivial
theorem k87 : con87.OK Tryd.prog 87 := ok87 ⟨k86, trivial⟩ trivial
theorem k61 : con61.OK Tryd.prog 61 := ok61 ⟨k86, k87, trivial⟩ trivial
theorem k65 : con65.OK Tryd.prog 65 := ok65 trivial trivial
theorem k66 : con66.OK Tryd.prog 66 := ok66 ⟨k59, trivial⟩ trivial
theorem k57 : con57.OK Tryd.prog 57 := ok57 trivial trivial
theorem k41 : con41.OK Tryd.prog 41 := ok41 ⟨k57, k59, k61, k65, k66, trivial⟩ trivial
theorem k19 : con19.OK Tryd.prog 19 := ok19 ⟨k41, trivial⟩ trivial
theorem k8 : con8.OK Tryd.prog 8 := ok8 trivial trivial
theorem k18 : con18.OK Tryd.prog 18 := ok18 ⟨k8, trivial⟩ trivial
theorem k25 : con25.OK Tryd.prog 25 := ok25 ⟨k8, trivial⟩ trivial
theorem k9 : con9.OK Tryd.prog 9 := ok9 ⟨k25, trivial⟩ trivial
theorem k10 : con10.OK Tryd.prog 10 := ok10 ⟨k8, okTz, trivial⟩ trivial
theorem k42 : con42.OK Tryd.prog 42 := ok42 ⟨k25, k9, trivial⟩ trivial
theorem k22 : con22.OK Tryd.prog 22 := ok22 ⟨k42, trivial⟩ trivial
theorem k6 : con6.OK Tryd.prog 6 := ok6 ⟨k18, k19, k20, k21, k22, trivial⟩ trivial
theorem k3 : con3.OK Tryd.prog 3 := ok3 ⟨k4, k5, k6, k7, k8, k9, k10, k11, trivial⟩ trivial
end Go.Proofs.Zz
