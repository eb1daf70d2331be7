/- What the functions come to: the equations, by the kernel, and their contracts. -/
import Derived.Test.YtipajaocggpahaaGreatPure15
import Derived.Test.YtipajaocggpahaaGreatFC
namespace Go.Proofs.Zz
open Go Go.Sy
set_option linter.unusedVariables false
set_option maxHeartbeats 0
set_option maxRecDepth 100000
abbrev ps69 : List Ty := [.int .i64, .int .i64, .int .i64]
abbrev rs69 : List RTy := [.val (.bool)]
noncomputable abbrev L69 : List (Nat × Con) := []
noncomputable abbrev U69 : List (Nat × UCon) := []
noncomputable abbrev C69 : Cons := lookC L69 U69
noncomputable abbrev S69 : List (Nat × Nat × LSum) := []
noncomputable def con69 : Con := ⟨ps69, rs69, fun x => f69 x.1 x.2.1 x.2.2.1⟩
theorem e69 (x : Args ps69) : kTop Go.Proofs.Tryz.prog C69 (lookS S69) big 10 69 ps69 rs69 x = con69.f x := by kernel_rfl
theorem ok69 [Glob] [RngG Go.Proofs.Tryz.prog] (h : AllOK Go.Proofs.Tryz.prog L69) (h' : AllU Go.Proofs.Tryz.prog U69) : con69.OK Go.Proofs.Tryz.prog 69 := con_of_tree (lookC_ok h h') (rounds_of (l := S69) trivial) e69
abbrev ps99 : List Ty := [.pair (.int .i64) (.int .i64)]
abbrev rs99 : List RTy := [.val (.bool)]
noncomputable abbrev L99 : List (Nat × Con) := []
noncomputable abbrev U99 : List (Nat × UCon) := []
noncomputable abbrev C99 : Cons := lookC L99 U99
noncomputable abbrev S99 : List (Nat × Nat × LSum) := []
noncomputable def con99 : Con := ⟨ps99, rs99, fun x => f99 x.1.1 x.1.2⟩
theorem e99 (x : Args ps99) : kTop Go.Proofs.Tryz.prog C99 (lookS S99) big 10 99 ps99 rs99 x = con99.f x := by kernel_rfl
theorem ok99 [Glob] [RngG Go.Proofs.Tryz.prog] (h : AllOK Go.Proofs.Tryz.prog L99) (h' : AllU Go.Proofs.Tryz.prog U99) : con99.OK Go.Proofs.Tryz.prog 99 := con_of_tree (lookC_ok h h') (rounds_of (l := S99) trivial) e99
abbrev ps71 : List Ty := [.pair (.int .i64) (.int .i64)]
abbrev rs71 : List RTy := [.val (.int .i64)]
noncomputable abbrev L71 : List (Nat × Con) := [(99, con99)]
noncomputable abbrev U71 : List (Nat × UCon) := []
noncomputable abbrev C71 : Cons := lookC L71 U71
noncomputable abbrev S71 : List (Nat × Nat × LSum) := []
noncomputable def con71 : Con := ⟨ps71, rs71, fun x => f71 x.1.1 x.1.2⟩
theorem e71 (x : Args ps71) : kTop Go.Proofs.Tryz.prog C71 (lookS S71) big 10 71 ps71 rs71 x = con71.f x := by kernel_rfl
theorem ok71 [Glob] [RngG Go.Proofs.Tryz.prog] (h : AllOK Go.Proofs.Tryz.prog L71) (h' : AllU Go.Proofs.Tryz.prog U71) : con71.OK Go.Proofs.Tryz.prog 71 := con_of_tree (lookC_ok h h') (rounds_of (l := S71) trivial) e71
abbrev ps100 : List Ty := [.pair (.int .i64) (.int .i64), .int .i64]
abbrev rs100 : List RTy := [.val (.int .i64)]
noncomputable abbrev L100 : List (Nat × Con) := [(99, con99)]
noncomputable abbrev U100 : List (Nat × UCon) := []
noncomputable abbrev C100 : Cons := lookC L100 U100
noncomputable abbrev S100 : List (Nat × Nat × LSum) := []
noncomputable def con100 : Con := ⟨ps100, rs100, fun x => f100 x.1.1 x.1.2 x.2.1⟩
theorem e100 (x : Args ps100) : kTop Go.Proofs.Tryz.prog C100 (lookS S100) big 10 100 ps100 rs100 x = con100.f x := by kernel_rfl
theorem ok100 [Glob] [RngG Go.Proofs.Tryz.prog] (h : AllOK Go.Proofs.Tryz.prog L100) (h' : AllU Go.Proofs.Tryz.prog U100) : con100.OK Go.Proofs.Tryz.prog 100 := con_of_tree (lookC_ok h h') (rounds_of (l := S100) trivial) e100
abbrev ps73 : List Ty := [.pair (.int .i64) (.int .i64), .pair (.int .i64) (.int .i64)]
abbrev rs73 : List RTy := [.val (.bool)]
noncomputable abbrev L73 : List (Nat × Con) := [(99, con99), (100, con100)]
noncomputable abbrev U73 : List (Nat × UCon) := []
noncomputable abbrev C73 : Cons := lookC L73 U73
noncomputable abbrev S73 : List (Nat × Nat × LSum) := []
noncomputable def con73 : Con := ⟨ps73, rs73, fun x => f73 x.1.1 x.1.2 x.2.1.1 x.2.1.2⟩
theorem e73 (x : Args ps73) : kTop Go.Proofs.Tryz.prog C73 (lookS S73) big 10 73 ps73 rs73 x = con73.f x := by kernel_rfl
theorem ok73 [Glob] [RngG Go.Proofs.Tryz.prog] (h : AllOK Go.Proofs.Tryz.prog L73) (h' : AllU Go.Proofs.Tryz.prog U73) : con73.OK Go.Proofs.Tryz.prog 73 := con_of_tree (lookC_ok h h') (rounds_of (l := S73) trivial) e73
abbrev ps77 : List Ty := [.pair (.pair (.int .i64) (.int .i64)) (.pair (.pair (.int .i64) (.int .i64)) (.pair (.int .i64) (.pair (.int .i64) (.pair (.int .i64) (.int .i64)))))]
abbrev rs77 : List RTy := [.val (.int .i64)]
noncomputable abbrev L77 : List (Nat × Con) := []
noncomputable abbrev U77 : List (Nat × UCon) := []
noncomputable abbrev C77 : Cons := lookC L77 U77
noncomputable abbrev S77 : List (Nat × Nat × LSum) := []
noncomputable def con77 : Con := ⟨ps77, rs77, fun x => f77 x.1.1.1 x.1.1.2 x.1.2.1.1 x.1.2.1.2 x.1.2.2.1 x.1.2.2.2.1 x.1.2.2.2.2.1 x.1.2.2.2.2.2⟩
theorem e77 (x : Args ps77) : kTop Go.Proofs.Tryz.prog C77 (lookS S77) big 10 77 ps77 rs77 x = con77.f x := by kernel_rfl
theorem ok77 [Glob] [RngG Go.Proofs.Tryz.prog] (h : AllOK Go.Proofs.Tryz.prog L77) (h' : AllU Go.Proofs.Tryz.prog U77) : con77.OK Go.Proofs.Tryz.prog 77 := con_of_tree (lookC_ok h h') (rounds_of (l := S77) trivial) e77
abbrev ps78 : List Ty := [.pair (.pair (.int .i64) (.int .i64)) (.pair (.pair (.int .i64) (.int .i64)) (.pair (.int .i64) (.pair (.int .i64) (.pair (.int .i64) (.int .i64)))))]
abbrev rs78 : List RTy := [.val (.int .i64)]
noncomputable abbrev L78 : List (Nat × Con) := [(71, con71)]
noncomputable abbrev U78 : List (Nat × UCon) := []
noncomputable abbrev C78 : Cons := lookC L78 U78
noncomputable abbrev S78 : List (Nat × Nat × LSum) := []
noncomputable def con78 : Con := ⟨ps78, rs78, fun x => f78 x.1.1.1 x.1.1.2 x.1.2.1.1 x.1.2.1.2 x.1.2.2.1 x.1.2.2.2.1 x.1.2.2.2.2.1 x.1.2.2.2.2.2⟩
theorem e78 (x : Args ps78) : kTop Go.Proofs.Tryz.prog C78 (lookS S78) big 10 78 ps78 rs78 x = con78.f x := by kernel_rfl
theorem ok78 [Glob] [RngG Go.Proofs.Tryz.prog] (h : AllOK Go.Proofs.Tryz.prog L78) (h' : AllU Go.Proofs.Tryz.prog U78) : con78.OK Go.Proofs.Tryz.prog 78 := con_of_tree (lookC_ok h h') (rounds_of (l := S78) trivial) e78
abbrev ps38 : List Ty := [.pair (.pair (.int .i64) (.int .i64)) (.pair (.pair (.int .i64) (.int .i64)) (.pair (.int .i64) (.pair (.int .i64) (.pair (.int .i64) (.int .i64)))))]
abbrev rs38 : List RTy := [.val (.bool)]
noncomputable abbrev L38 : List (Nat × Con) := [(69, con69), (71, con71), (73, con73), (77, con77), (78, con78)]
noncomputable abbrev U38 : List (Nat × UCon) := []
noncomputable abbrev C38 : Cons := lookC L38 U38
noncomputable abbrev S38 : List (Nat × Nat × LSum) := []
noncomputable def con38 : Con := ⟨ps38, rs38, fun x => f38 x.1.1.1 x.1.1.2 x.1.2.1.1 x.1.2.1.2 x.1.2.2.1 x.1.2.2.2.1 x.1.2.2.2.2.1 x.1.2.2.2.2.2⟩
theorem e38 (x : Args ps38) : kTop Go.Proofs.Tryz.prog C38 (lookS S38) big 10 38 ps38 rs38 x = con38.f x := by kernel_rfl
theorem ok38 [Glob] [RngG Go.Proofs.Tryz.prog] (h : AllOK Go.Proofs.Tryz.prog L38) (h' : AllU Go.Proofs.Tryz.prog U38) : con38.OK Go.Proofs.Tryz.prog 38 := con_of_tree (lookC_ok h h') (rounds_of (l := S38) trivial) e38
abbrev ps40 : List Ty := [.int .i64, .int .i64, .int .i64]
abbrev rs40 : List RTy := [.val (.bool)]
noncomputable abbrev L40 : List (Nat × Con) := []
noncomputable abbrev U40 : List (Nat × UCon) := []
noncomputable abbrev C40 : Cons := lookC L40 U40
noncomputable abbrev S40 : List (Nat × Nat × LSum) := []
noncomputable def con40 : Con := ⟨ps40, rs40, fun x => f40 x.1 x.2.1 x.2.2.1⟩
theorem e40 (x : Args ps40) : kTop Go.Proofs.Tryz.prog C40 (lookS S40) big 10 40 ps40 rs40 x = con40.f x := by kernel_rfl
theorem ok40 [Glob] [RngG Go.Proofs.Tryz.prog] (h : AllOK Go.Proofs.Tryz.prog L40) (h' : AllU Go.Proofs.Tryz.prog U40) : con40.OK Go.Proofs.Tryz.prog 40 := con_of_tree (lookC_ok h h') (rounds_of (l := S40) trivial) e40
abbrev ps39 : List Ty := [.pair (.int .i64) (.pair (.int .i64) (.pair (.int .i64) (.bool)))]
abbrev rs39 : List RTy := [.val (.bool)]
noncomputable abbrev L39 : List (Nat × Con) := [(40, con40)]
noncomputable abbrev U39 : List (Nat × UCon) := []
noncomputable abbrev C39 : Cons := lookC L39 U39
noncomputable abbrev S39 : List (Nat × Nat × LSum) := []
noncomputable def con39 : Con := ⟨ps39, rs39, fun x => f39 x.1.1 x.1.2.1 x.1.2.2.1 x.1.2.2.2⟩
theorem e39 (x : Args ps39) : kTop Go.Proofs.Tryz.prog C39 (lookS S39) big 10 39 ps39 rs39 x = con39.f x := by kernel_rfl
theorem ok39 [Glob] [RngG Go.Proofs.Tryz.prog] (h : AllOK Go.Proofs.Tryz.prog L39) (h' : AllU Go.Proofs.Tryz.prog U39) : con39.OK Go.Proofs.Tryz.prog 39 := con_of_tree (lookC_ok h h') (rounds_of (l := S39) trivial) e39
abbrev ps82 : List Ty := [.pair (.int .i64) (.pair (.int .i64) (.int .i64)), .pair (.int .i64) (.pair (.int .i64) (.int .i64))]
abbrev rs82 : List RTy := [.val (.bool)]
noncomputable abbrev L82 : List (Nat × Con) := []
noncomputable abbrev U82 : List (Nat × UCon) := []
noncomputable abbrev C82 : Cons := lookC L82 U82
noncomputable abbrev S82 : List (Nat × Nat × LSum) := []
noncomputable def con82 : Con := ⟨ps82, rs82, fun x => f82 x.1.1 x.1.2.1 x.1.2.2 x.2.1.1 x.2.1.2.1 x.2.1.2.2⟩
theorem e82 (x : Args ps82) : kTop Go.Proofs.Tryz.prog C82 (lookS S82) big 10 82 ps82 rs82 x = con82.f x := by kernel_rfl
theorem ok82 [Glob] [RngG Go.Proofs.Tryz.prog] (h : AllOK Go.Proofs.Tryz.prog L82) (h' : AllU Go.Proofs.Tryz.prog U82) : con82.OK Go.Proofs.Tryz.prog 82 := con_of_tree (lookC_ok h h') (rounds_of (l := S82) trivial) e82
abbrev ps83 : List Ty := [.pair (.int .i64) (.pair (.int .i64) (.int .i64)), .int .i64]
abbrev rs83 : List RTy := [.val (.bool)]
noncomputable abbrev L83 : List (Nat × Con) := []
noncomputable abbrev U83 : List (Nat × UCon) := []
noncomputable abbrev C83 : Cons := lookC L83 U83
noncomputable abbrev S83 : List (Nat × Nat × LSum) := []
noncomputable def con83 : Con := ⟨ps83, rs83, fun x => f83 x.1.1 x.1.2.1 x.1.2.2 x.2.1⟩
theorem e83 (x : Args ps83) : kTop Go.Proofs.Tryz.prog C83 (lookS S83) big 10 83 ps83 rs83 x = con83.f x := by kernel_rfl
theorem ok83 [Glob] [RngG Go.Proofs.Tryz.prog] (h : AllOK Go.Proofs.Tryz.prog L83) (h' : AllU Go.Proofs.Tryz.prog U83) : con83.OK Go.Proofs.Tryz.prog 83 := con_of_tree (lookC_ok h h') (rounds_of (l := S83) trivial) e83
abbrev ps41 : List Ty := [.row (.pair (.int .i64) (.pair (.int .i64) (.int .i64))), .int .i64]
abbrev rs41 : List RTy := [.val (.bool)]
noncomputable abbrev L41 : List (Nat × Con) := [(82, con82), (83, con83)]
noncomputable abbrev U41 : List (Nat × UCon) := []
noncomputable abbrev C41 : Cons := lookC L41 U41
abbrev s41_4 : LShape := ⟨39, [(0, .cont (.pair (.int .i64) (.pair (.int .i64) (.int .i64)))), (1, .int .i64), (19, .cont (.pair (.int .i64) (.pair (.int .i64) (.int .i64)))), (20, .int .i64), (21, .int .i64)], [], [], []⟩
abbrev s41_102_2_0 : LShape := ⟨19, [(0, .cont (.pair (.int .i64) (.pair (.int .i64) (.int .i64)))), (1, .fix (.fn (.func 81) [] [(.ptr 4294987824 0)])), (7, .int .i64), (8, .int .i64)], [(4294987824, .box 80 [.int .i64, .int .i64, .int .i64])], [], []⟩
abbrev o41_102_2_0 : LShape := ⟨19, [], [(4294987824, .box 80 [.int .i64, .int .i64, .int .i64])], [], []⟩
abbrev q41_102_2_0 : LShape := ⟨19, [(4, .int .i64)], [(4294987824, .box 80 [.int .i64, .int .i64, .int .i64])], [], []⟩
noncomputable def l41_102_2_0 : LSum := ⟨7, 102, s41_102_2_0, 0, o41_102_2_0, q41_102_2_0, u41_102_2_0, false, none⟩
abbrev o41_4 : LShape := ⟨39, [], [], [], []⟩
abbrev q41_4 : LShape := ⟨39, [(4, .bool)], [], [], []⟩
noncomputable def l41_4 : LSum := ⟨9, 41, s41_4, 0, o41_4, q41_4, u41_4, false, none⟩
noncomputable abbrev S41 : List (Nat × Nat × LSum) := [(79228694094088327415612833792, 2, l41_102_2_0), (4294967296, 4, l41_4)]
noncomputable def con41 : Con := ⟨ps41, rs41, fun x => f41 x.1 x.2.1⟩
theorem r41_102_2_0 : Round Go.Proofs.Tryz.prog C41 (lookS S41) big 79228694094088327415612833792 2 l41_102_2_0 := ⟨by kernel_rfl, fun z => by kernel_rfl⟩
theorem r41_4 : Round Go.Proofs.Tryz.prog C41 (lookS S41) big 4294967296 4 l41_4 := ⟨by kernel_rfl, fun z => by kernel_rfl⟩
theorem e41 (x : Args ps41) : kTop Go.Proofs.Tryz.prog C41 (lookS S41) big 10 41 ps41 rs41 x = con41.f x := by kernel_rfl
theorem ok41 [Glob] [RngG Go.Proofs.Tryz.prog] (h : AllOK Go.Proofs.Tryz.prog L41) (h' : AllU Go.Proofs.Tryz.prog U41) : con41.OK Go.Proofs.Tryz.prog 41 := con_of_tree (lookC_ok h h') (rounds_of (l := S41) ⟨r41_102_2_0, r41_4, trivial⟩) e41
abbrev ps42 : List Ty := [.pair (.pair (.pair (.int .i64) (.int .i64)) (.pair (.pair (.int .i64) (.int .i64)) (.pair (.int .i64) (.pair (.int .i64) (.pair (.int .i64) (.int .i64)))))) (.pair (.pair (.int .i64) (.pair (.int .i64) (.pair (.int .i64) (.bool)))) (.pair (.int .i64) (.pair (.row (.pair (.int .i64) (.pair (.int .i64) (.int .i64)))) (.pair (.row (.pair (.int .i64) (.pair (.int .i64) (.pair (.int .i64) (.pair (.int .i64) (.int .i64)))))) (.row (.pair (.int .i64) (.pair (.int .i64) (.int .i64))))))))]
abbrev rs42 : List RTy := [.val (.int .i64)]
noncomputable abbrev L42 : List (Nat × Con) := [(71, con71)]
noncomputable abbrev U42 : List (Nat × UCon) := []
noncomputable abbrev C42 : Cons := lookC L42 U42
noncomputable abbrev S42 : List (Nat × Nat × LSum) := []
noncomputable def con42 : Con := ⟨ps42, rs42, fun x => f42 x.1.1.1.1 x.1.1.1.2 x.1.1.2.1.1 x.1.1.2.1.2 x.1.1.2.2.1 x.1.1.2.2.2.1 x.1.1.2.2.2.2.1 x.1.1.2.2.2.2.2 x.1.2.1.1 x.1.2.1.2.1 x.1.2.1.2.2.1 x.1.2.1.2.2.2 x.1.2.2.1 x.1.2.2.2.1 x.1.2.2.2.2.1 x.1.2.2.2.2.2⟩
theorem e42 (x : Args ps42) : kTop Go.Proofs.Tryz.prog C42 (lookS S42) big 10 42 ps42 rs42 x = con42.f x := by kernel_rfl
theorem ok42 [Glob] [RngG Go.Proofs.Tryz.prog] (h : AllOK Go.Proofs.Tryz.prog L42) (h' : AllU Go.Proofs.Tryz.prog U42) : con42.OK Go.Proofs.Tryz.prog 42 := con_of_tree (lookC_ok h h') (rounds_of (l := S42) trivial) e42
abbrev ps103 : List Ty := [.pair (.pair (.int .i64) (.int .i64)) (.pair (.pair (.int .i64) (.int .i64)) (.pair (.int .i64) (.pair (.int .i64) (.pair (.int .i64) (.int .i64)))))]
abbrev rs103 : List RTy := [.val (.int .i64)]
noncomputable abbrev L103 : List (Nat × Con) := [(38, con38), (77, con77), (78, con78)]
noncomputable abbrev U103 : List (Nat × UCon) := []
noncomputable abbrev C103 : Cons := lookC L103 U103
noncomputable abbrev S103 : List (Nat × Nat × LSum) := []
noncomputable def con103 : Con := ⟨ps103, rs103, fun x => f103 x.1.1.1 x.1.1.2 x.1.2.1.1 x.1.2.1.2 x.1.2.2.1 x.1.2.2.2.1 x.1.2.2.2.2.1 x.1.2.2.2.2.2⟩
theorem e103 (x : Args ps103) : kTop Go.Proofs.Tryz.prog C103 (lookS S103) big 10 103 ps103 rs103 x = con103.f x := by kernel_rfl
theorem ok103 [Glob] [RngG Go.Proofs.Tryz.prog] (h : AllOK Go.Proofs.Tryz.prog L103) (h' : AllU Go.Proofs.Tryz.prog U103) : con103.OK Go.Proofs.Tryz.prog 103 := con_of_tree (lookC_ok h h') (rounds_of (l := S103) trivial) e103
abbrev ps85 : List Ty := [.pair (.pair (.int .i64) (.int .i64)) (.pair (.pair (.int .i64) (.int .i64)) (.pair (.int .i64) (.pair (.int .i64) (.pair (.int .i64) (.int .i64))))), .int .i64]
abbrev rs85 : List RTy := [.val (.pair (.int .i64) (.pair (.int .i64) (.int .i64))), .val (.bool)]
noncomputable abbrev L85 : List (Nat × Con) := [(38, con38), (71, con71), (78, con78), (103, con103)]
noncomputable abbrev U85 : List (Nat × UCon) := []
noncomputable abbrev C85 : Cons := lookC L85 U85
noncomputable abbrev S85 : List (Nat × Nat × LSum) := []
noncomputable def con85 : Con := ⟨ps85, rs85, fun x => f85 x.1.1.1 x.1.1.2 x.1.2.1.1 x.1.2.1.2 x.1.2.2.1 x.1.2.2.2.1 x.1.2.2.2.2.1 x.1.2.2.2.2.2 x.2.1⟩
theorem e85 (x : Args ps85) : kTop Go.Proofs.Tryz.prog C85 (lookS S85) big 10 85 ps85 rs85 x = con85.f x := by kernel_rfl
theorem ok85 [Glob] [RngG Go.Proofs.Tryz.prog] (h : AllOK Go.Proofs.Tryz.prog L85) (h' : AllU Go.Proofs.Tryz.prog U85) : con85.OK Go.Proofs.Tryz.prog 85 := con_of_tree (lookC_ok h h') (rounds_of (l := S85) trivial) e85
abbrev ps104 : List Ty := [.pair (.pair (.int .i64) (.int .i64)) (.pair (.pair (.int .i64) (.int .i64)) (.pair (.int .i64) (.pair (.int .i64) (.pair (.int .i64) (.int .i64)))))]
abbrev rs104 : List RTy := [.val (.int .i64)]
noncomputable abbrev L104 : List (Nat × Con) := [(38, con38)]
noncomputable abbrev U104 : List (Nat × UCon) := []
noncomputable abbrev C104 : Cons := lookC L104 U104
noncomputable abbrev S104 : List (Nat × Nat × LSum) := []
noncomputable def con104 : Con := ⟨ps104, rs104, fun x => f104 x.1.1.1 x.1.1.2 x.1.2.1.1 x.1.2.1.2 x.1.2.2.1 x.1.2.2.2.1 x.1.2.2.2.2.1 x.1.2.2.2.2.2⟩
theorem e104 (x : Args ps104) : kTop Go.Proofs.Tryz.prog C104 (lookS S104) big 10 104 ps104 rs104 x = con104.f x := by kernel_rfl
theorem ok104 [Glob] [RngG Go.Proofs.Tryz.prog] (h : AllOK Go.Proofs.Tryz.prog L104) (h' : AllU Go.Proofs.Tryz.prog U104) : con104.OK Go.Proofs.Tryz.prog 104 := con_of_tree (lookC_ok h h') (rounds_of (l := S104) trivial) e104
abbrev ps86 : List Ty := [.pair (.pair (.int .i64) (.int .i64)) (.pair (.pair (.int .i64) (.int .i64)) (.pair (.int .i64) (.pair (.int .i64) (.pair (.int .i64) (.int .i64))))), .int .i64, .int .i64]
abbrev rs86 : List RTy := [.val (.pair (.int .i64) (.pair (.int .i64) (.int .i64))), .val (.bool)]
noncomputable abbrev L86 : List (Nat × Con) := [(71, con71), (104, con104)]
noncomputable abbrev U86 : List (Nat × UCon) := []
noncomputable abbrev C86 : Cons := lookC L86 U86
noncomputable abbrev S86 : List (Nat × Nat × LSum) := []
noncomputable def con86 : Con := ⟨ps86, rs86, fun x => f86 x.1.1.1 x.1.1.2 x.1.2.1.1 x.1.2.1.2 x.1.2.2.1 x.1.2.2.2.1 x.1.2.2.2.2.1 x.1.2.2.2.2.2 x.2.1 x.2.2.1⟩
theorem e86 (x : Args ps86) : kTop Go.Proofs.Tryz.prog C86 (lookS S86) big 10 86 ps86 rs86 x = con86.f x := by kernel_rfl
theorem ok86 [Glob] [RngG Go.Proofs.Tryz.prog] (h : AllOK Go.Proofs.Tryz.prog L86) (h' : AllU Go.Proofs.Tryz.prog U86) : con86.OK Go.Proofs.Tryz.prog 86 := con_of_tree (lookC_ok h h') (rounds_of (l := S86) trivial) e86
abbrev ps106 : List Ty := [.pair (.int .i64) (.pair (.int .i64) (.int .i64)), .int .i64]
abbrev rs106 : List RTy := [.val (.bool)]
noncomputable abbrev L106 : List (Nat × Con) := []
noncomputable abbrev U106 : List (Nat × UCon) := []
noncomputable abbrev C106 : Cons := lookC L106 U106
noncomputable abbrev S106 : List (Nat × Nat × LSum) := []
noncomputable def con106 : Con := ⟨ps106, rs106, fun x => f106 x.1.1 x.1.2.1 x.1.2.2 x.2.1⟩
theorem e106 (x : Args ps106) : kTop Go.Proofs.Tryz.prog C106 (lookS S106) big 10 106 ps106 rs106 x = con106.f x := by kernel_rfl
theorem ok106 [Glob] [RngG Go.Proofs.Tryz.prog] (h : AllOK Go.Proofs.Tryz.prog L106) (h' : AllU Go.Proofs.Tryz.prog U106) : con106.OK Go.Proofs.Tryz.prog 106 := con_of_tree (lookC_ok h h') (rounds_of (l := S106) trivial) e106
abbrev ps87 : List Ty := [.row (.pair (.int .i64) (.pair (.int .i64) (.int .i64))), .int .i64]
abbrev rs87 : List RTy := [.val (.int .i64)]
noncomputable abbrev L87 : List (Nat × Con) := [(106, con106)]
noncomputable abbrev U87 : List (Nat × UCon) := []
noncomputable abbrev C87 : Cons := lookC L87 U87
abbrev s87_102_2_0 : LShape := ⟨19, [(0, .cont (.pair (.int .i64) (.pair (.int .i64) (.int .i64)))), (1, .fix (.fn (.func 105) [] [(.ptr 4294967296 0)])), (7, .int .i64), (8, .int .i64)], [(4294967296, .box 3 [.int .i64])], [], []⟩
abbrev o87_102_2_0 : LShape := ⟨19, [], [(4294967296, .box 3 [.int .i64])], [], []⟩
abbrev q87_102_2_0 : LShape := ⟨19, [(4, .int .i64)], [(4294967296, .box 3 [.int .i64])], [], []⟩
noncomputable def l87_102_2_0 : LSum := ⟨8, 102, s87_102_2_0, 0, o87_102_2_0, q87_102_2_0, u87_102_2_0, false, none⟩
noncomputable abbrev S87 : List (Nat × Nat × LSum) := [(18446761807629516800, 2, l87_102_2_0)]
noncomputable def con87 : Con := ⟨ps87, rs87, fun x => f87 x.1 x.2.1⟩
theorem r87_102_2_0 : Round Go.Proofs.Tryz.prog C87 (lookS S87) big 18446761807629516800 2 l87_102_2_0 := ⟨by kernel_rfl, fun z => by kernel_rfl⟩
theorem e87 (x : Args ps87) : kTop Go.Proofs.Tryz.prog C87 (lookS S87) big 10 87 ps87 rs87 x = con87.f x := by kernel_rfl
theorem ok87 [Glob] [RngG Go.Proofs.Tryz.prog] (h : AllOK Go.Proofs.Tryz.prog L87) (h' : AllU Go.Proofs.Tryz.prog U87) : con87.OK Go.Proofs.Tryz.prog 87 := con_of_tree (lookC_ok h h') (rounds_of (l := S87) ⟨r87_102_2_0, trivial⟩) e87
abbrev ps88 : List Ty := [.int .i64, .int .i64, .int .i64, .int .i64]
abbrev rs88 : List RTy := [.val (.bool)]
noncomputable abbrev L88 : List (Nat × Con) := []
noncomputable abbrev U88 : List (Nat × UCon) := []
noncomputable abbrev C88 : Cons := lookC L88 U88
noncomputable abbrev S88 : List (Nat × Nat × LSum) := []
noncomputable def con88 : Con := ⟨ps88, rs88, fun x => f88 x.1 x.2.1 x.2.2.1 x.2.2.2.1⟩
theorem e88 (x : Args ps88) : kTop Go.Proofs.Tryz.prog C88 (lookS S88) big 10 88 ps88 rs88 x = con88.f x := by kernel_rfl
theorem ok88 [Glob] [RngG Go.Proofs.Tryz.prog] (h : AllOK Go.Proofs.Tryz.prog L88) (h' : AllU Go.Proofs.Tryz.prog U88) : con88.OK Go.Proofs.Tryz.prog 88 := con_of_tree (lookC_ok h h') (rounds_of (l := S88) trivial) e88
abbrev ps43 : List Ty := [.pair (.pair (.pair (.int .i64) (.int .i64)) (.pair (.pair (.int .i64) (.int .i64)) (.pair (.int .i64) (.pair (.int .i64) (.pair (.int .i64) (.int .i64)))))) (.pair (.pair (.int .i64) (.pair (.int .i64) (.pair (.int .i64) (.bool)))) (.pair (.int .i64) (.pair (.row (.pair (.int .i64) (.pair (.int .i64) (.int .i64)))) (.pair (.row (.pair (.int .i64) (.pair (.int .i64) (.pair (.int .i64) (.pair (.int .i64) (.int .i64)))))) (.row (.pair (.int .i64) (.pair (.int .i64) (.int .i64))))))))]
abbrev rs43 : List RTy := [.val (.bool)]
noncomputable abbrev L43 : List (Nat × Con) := [(85, con85), (86, con86), (87, con87), (88, con88)]
noncomputable abbrev U43 : List (Nat × UCon) := []
noncomputable abbrev C43 : Cons := lookC L43 U43
abbrev s43_3 : LShape := ⟨124, [(1, .fix (.ptr 4294967296 0)), (3, .fix (.mp 4294971392)), (12, .cont (.pair (.int .i64) (.pair (.int .i64) (.pair (.int .i64) (.pair (.int .i64) (.int .i64)))))), (13, .int .i64), (14, .int .i64)], [], [(4294967296, .box 32 [.int .i64, .int .i64, .int .i64, .int .i64, .int .i64, .int .i64, .int .i64, .int .i64, .int .i64, .int .i64, .int .i64, .bool, .int .i64, .cont (.pair (.int .i64) (.pair (.int .i64) (.int .i64))), .cont (.pair (.int .i64) (.pair (.int .i64) (.pair (.int .i64) (.pair (.int .i64) (.int .i64))))), .cont (.pair (.int .i64) (.pair (.int .i64) (.int .i64)))]), (4294971392, .map)], []⟩
abbrev o43_3 : LShape := ⟨124, [(1, .fix (.ptr 4294967296 0))], [], [(4294967296, .box 32 [.int .i64, .int .i64, .int .i64, .int .i64, .int .i64, .int .i64, .int .i64, .int .i64, .int .i64, .int .i64, .int .i64, .bool, .int .i64, .cont (.pair (.int .i64) (.pair (.int .i64) (.int .i64))), .cont (.pair (.int .i64) (.pair (.int .i64) (.pair (.int .i64) (.pair (.int .i64) (.int .i64))))), .cont (.pair (.int .i64) (.pair (.int .i64) (.int .i64)))])], []⟩
abbrev q43_3 : LShape := ⟨124, [(2, .bool)], [], [], []⟩
noncomputable def l43_3 : LSum := ⟨9, 43, s43_3, 0, o43_3, q43_3, u43_3, false, none⟩
noncomputable abbrev S43 : List (Nat × Nat × LSum) := [(4294967296, 3, l43_3)]
noncomputable def con43 : Con := ⟨ps43, rs43, fun x => f43 x.1.1.1.1 x.1.1.1.2 x.1.1.2.1.1 x.1.1.2.1.2 x.1.1.2.2.1 x.1.1.2.2.2.1 x.1.1.2.2.2.2.1 x.1.1.2.2.2.2.2 x.1.2.1.1 x.1.2.1.2.1 x.1.2.1.2.2.1 x.1.2.1.2.2.2 x.1.2.2.1 x.1.2.2.2.1 x.1.2.2.2.2.1 x.1.2.2.2.2.2⟩
theorem r43_3 : Round Go.Proofs.Tryz.prog C43 (lookS S43) big 4294967296 3 l43_3 := ⟨by kernel_rfl, fun z => by kernel_rfl⟩
theorem e43 (x : Args ps43) : kTop Go.Proofs.Tryz.prog C43 (lookS S43) big 10 43 ps43 rs43 x = con43.f x := by kernel_rfl
theorem ok43 [Glob] [RngG Go.Proofs.Tryz.prog] (h : AllOK Go.Proofs.Tryz.prog L43) (h' : AllU Go.Proofs.Tryz.prog U43) : con43.OK Go.Proofs.Tryz.prog 43 := con_of_tree (lookC_ok h h') (rounds_of (l := S43) ⟨r43_3, trivial⟩) e43
abbrev ps118 : List Ty := [.pair (.int .i64) (.pair (.int .i64) (.pair (.int .i64) (.pair (.int .i64) (.int .i64))))]
abbrev rs118 : List RTy := [.val (.pair (.pair (.int .i64) (.int .i64)) (.pair (.int .i64) (.pair (.int .i64) (.pair (.int .i64) (.pair (.int .i64) (.int .i64))))))]
noncomputable abbrev L118 : List (Nat × Con) := []
noncomputable abbrev U118 : List (Nat × UCon) := []
noncomputable abbrev C118 : Cons := lookC L118 U118
noncomputable abbrev S118 : List (Nat × Nat × LSum) := []
noncomputable def con118 : Con := ⟨ps118, rs118, fun x => f118 x.1.1 x.1.2.1 x.1.2.2.1 x.1.2.2.2.1 x.1.2.2.2.2⟩
theorem e118 (x : Args ps118) : kTop Go.Proofs.Tryz.prog C118 (lookS S118) big 10 118 ps118 rs118 x = con118.f x := by kernel_rfl
theorem ok118 [Glob] [RngG Go.Proofs.Tryz.prog] (h : AllOK Go.Proofs.Tryz.prog L118) (h' : AllU Go.Proofs.Tryz.prog U118) : con118.OK Go.Proofs.Tryz.prog 118 := con_of_tree (lookC_ok h h') (rounds_of (l := S118) trivial) e118
abbrev ps108 : List Ty := [.pair (.int .i64) (.pair (.int .i64) (.pair (.int .i64) (.pair (.int .i64) (.int .i64))))]
abbrev rs108 : List RTy := [.val (.pair (.int .i64) (.int .i64))]
noncomputable abbrev L108 : List (Nat × Con) := [(118, con118)]
noncomputable abbrev U108 : List (Nat × UCon) := []
noncomputable abbrev C108 : Cons := lookC L108 U108
noncomputable abbrev S108 : List (Nat × Nat × LSum) := []
noncomputable def con108 : Con := ⟨ps108, rs108, fun x => f108 x.1.1 x.1.2.1 x.1.2.2.1 x.1.2.2.2.1 x.1.2.2.2.2⟩
theorem e108 (x : Args ps108) : kTop Go.Proofs.Tryz.prog C108 (lookS S108) big 10 108 ps108 rs108 x = con108.f x := by kernel_rfl
theorem ok108 [Glob] [RngG Go.Proofs.Tryz.prog] (h : AllOK Go.Proofs.Tryz.prog L108) (h' : AllU Go.Proofs.Tryz.prog U108) : con108.OK Go.Proofs.Tryz.prog 108 := con_of_tree (lookC_ok h h') (rounds_of (l := S108) trivial) e108
abbrev ps89 : List Ty := [.row (.pair (.int .i64) (.pair (.int .i64) (.pair (.int .i64) (.pair (.int .i64) (.int .i64))))), .int .i64, .int .i64]
abbrev rs89 : List RTy := [.val (.int .i64)]
noncomputable abbrev L89 : List (Nat × Con) := [(108, con108)]
noncomputable abbrev U89 : List (Nat × UCon) := []
noncomputable abbrev C89 : Cons := lookC L89 U89
abbrev s89_52_2_0 : LShape := ⟨19, [(0, .cont (.pair (.int .i64) (.pair (.int .i64) (.pair (.int .i64) (.pair (.int .i64) (.int .i64)))))), (1, .fix (.fn (.func 117) [] [(.ptr 18446761945068470288 0), (.ptr 18446761945068470272 0)])), (7, .int .i64), (8, .int .i64)], [(18446761945068470272, .box 143 [.int .i64, .int .i64]), (18446761945068470288, .box 144 [.fix (.fn (.func 108) [] [])])], [], []⟩
abbrev o89_52_2_0 : LShape := ⟨19, [], [(18446761945068470272, .box 143 [.int .i64, .int .i64]), (18446761945068470288, .box 144 [.fix (.fn (.func 108) [] [])])], [], []⟩
abbrev q89_52_2_0 : LShape := ⟨19, [(4, .int .i64)], [(18446761945068470272, .box 143 [.int .i64, .int .i64]), (18446761945068470288, .box 144 [.fix (.fn (.func 108) [] [])])], [], []⟩
noncomputable def l89_52_2_0 : LSum := ⟨7, 52, s89_52_2_0, 0, o89_52_2_0, q89_52_2_0, u89_52_2_0, false, none⟩
noncomputable abbrev S89 : List (Nat × Nat × LSum) := [(79228239271166446032908189696, 2, l89_52_2_0)]
noncomputable def con89 : Con := ⟨ps89, rs89, fun x => f89 x.1 x.2.1 x.2.2.1⟩
theorem r89_52_2_0 : Round Go.Proofs.Tryz.prog C89 (lookS S89) big 79228239271166446032908189696 2 l89_52_2_0 := ⟨by kernel_rfl, fun z => by kernel_rfl⟩
theorem e89 (x : Args ps89) : kTop Go.Proofs.Tryz.prog C89 (lookS S89) big 10 89 ps89 rs89 x = con89.f x := by kernel_rfl
theorem ok89 [Glob] [RngG Go.Proofs.Tryz.prog] (h : AllOK Go.Proofs.Tryz.prog L89) (h' : AllU Go.Proofs.Tryz.prog U89) : con89.OK Go.Proofs.Tryz.prog 89 := con_of_tree (lookC_ok h h') (rounds_of (l := S89) ⟨r89_52_2_0, trivial⟩) e89
abbrev ps44 : List Ty := [.pair (.pair (.pair (.int .i64) (.int .i64)) (.pair (.pair (.int .i64) (.int .i64)) (.pair (.int .i64) (.pair (.int .i64) (.pair (.int .i64) (.int .i64)))))) (.pair (.pair (.int .i64) (.pair (.int .i64) (.pair (.int .i64) (.bool)))) (.pair (.int .i64) (.pair (.row (.pair (.int .i64) (.pair (.int .i64) (.int .i64)))) (.pair (.row (.pair (.int .i64) (.pair (.int .i64) (.pair (.int .i64) (.pair (.int .i64) (.int .i64)))))) (.row (.pair (.int .i64) (.pair (.int .i64) (.int .i64))))))))]
abbrev rs44 : List RTy := [.val (.bool)]
noncomputable abbrev L44 : List (Nat × Con) := [(40, con40), (86, con86), (88, con88), (89, con89)]
noncomputable abbrev U44 : List (Nat × UCon) := []
noncomputable abbrev C44 : Cons := lookC L44 U44
abbrev s44_2 : LShape := ⟨74, [(1, .fix (.ptr 4294967296 0)), (8, .cont (.pair (.int .i64) (.pair (.int .i64) (.int .i64)))), (9, .int .i64), (10, .int .i64)], [], [(4294967296, .box 32 [.int .i64, .int .i64, .int .i64, .int .i64, .int .i64, .int .i64, .int .i64, .int .i64, .int .i64, .int .i64, .int .i64, .bool, .int .i64, .cont (.pair (.int .i64) (.pair (.int .i64) (.int .i64))), .cont (.pair (.int .i64) (.pair (.int .i64) (.pair (.int .i64) (.pair (.int .i64) (.int .i64))))), .cont (.pair (.int .i64) (.pair (.int .i64) (.int .i64)))])], []⟩
abbrev o44_2 : LShape := ⟨74, [], [], [], []⟩
abbrev q44_2 : LShape := ⟨74, [(2, .bool)], [], [], []⟩
noncomputable def l44_2 : LSum := ⟨9, 44, s44_2, 0, o44_2, q44_2, u44_2, false, none⟩
noncomputable abbrev S44 : List (Nat × Nat × LSum) := [(4294967296, 2, l44_2)]
noncomputable def con44 : Con := ⟨ps44, rs44, fun x => f44 x.1.1.1.1 x.1.1.1.2 x.1.1.2.1.1 x.1.1.2.1.2 x.1.1.2.2.1 x.1.1.2.2.2.1 x.1.1.2.2.2.2.1 x.1.1.2.2.2.2.2 x.1.2.1.1 x.1.2.1.2.1 x.1.2.1.2.2.1 x.1.2.1.2.2.2 x.1.2.2.1 x.1.2.2.2.1 x.1.2.2.2.2.1 x.1.2.2.2.2.2⟩
theorem r44_2 : Round Go.Proofs.Tryz.prog C44 (lookS S44) big 4294967296 2 l44_2 := ⟨by kernel_rfl, fun z => by kernel_rfl⟩
theorem e44 (x : Args ps44) : kTop Go.Proofs.Tryz.prog C44 (lookS S44) big 10 44 ps44 rs44 x = con44.f x := by kernel_rfl
theorem ok44 [Glob] [RngG Go.Proofs.Tryz.prog] (h : AllOK Go.Proofs.Tryz.prog L44) (h' : AllU Go.Proofs.Tryz.prog U44) : con44.OK Go.Proofs.Tryz.prog 44 := con_of_tree (lookC_ok h h') (rounds_of (l := S44) ⟨r44_2, trivial⟩) e44
abbrev ps14 : List Ty := [.pair (.pair (.pair (.int .i64) (.int .i64)) (.pair (.pair (.int .i64) (.int .i64)) (.pair (.int .i64) (.pair (.int .i64) (.pair (.int .i64) (.int .i64)))))) (.pair (.pair (.int .i64) (.pair (.int .i64) (.pair (.int .i64) (.bool)))) (.pair (.int .i64) (.pair (.row (.pair (.int .i64) (.pair (.int .i64) (.int .i64)))) (.pair (.row (.pair (.int .i64) (.pair (.int .i64) (.pair (.int .i64) (.pair (.int .i64) (.int .i64)))))) (.row (.pair (.int .i64) (.pair (.int .i64) (.int .i64))))))))]
abbrev rs14 : List RTy := [.val (.bool)]
noncomputable abbrev L14 : List (Nat × Con) := [(38, con38), (39, con39), (40, con40), (41, con41), (42, con42), (43, con43), (44, con44)]
noncomputable abbrev U14 : List (Nat × UCon) := []
noncomputable abbrev C14 : Cons := lookC L14 U14
noncomputable abbrev S14 : List (Nat × Nat × LSum) := []
noncomputable def con14 : Con := ⟨ps14, rs14, fun x => f14 x.1.1.1.1 x.1.1.1.2 x.1.1.2.1.1 x.1.1.2.1.2 x.1.1.2.2.1 x.1.1.2.2.2.1 x.1.1.2.2.2.2.1 x.1.1.2.2.2.2.2 x.1.2.1.1 x.1.2.1.2.1 x.1.2.1.2.2.1 x.1.2.1.2.2.2 x.1.2.2.1 x.1.2.2.2.1 x.1.2.2.2.2.1 x.1.2.2.2.2.2⟩
theorem e14 (x : Args ps14) : kTop Go.Proofs.Tryz.prog C14 (lookS S14) big 10 14 ps14 rs14 x = con14.f x := by kernel_rfl
theorem ok14 [Glob] [RngG Go.Proofs.Tryz.prog] (h : AllOK Go.Proofs.Tryz.prog L14) (h' : AllU Go.Proofs.Tryz.prog U14) : con14.OK Go.Proofs.Tryz.prog 14 := con_of_tree (lookC_ok h h') (rounds_of (l := S14) trivial) e14
abbrev ps20 : List Ty := [.pair (.pair (.pair (.int .i64) (.int .i64)) (.pair (.pair (.int .i64) (.int .i64)) (.pair (.int .i64) (.pair (.int .i64) (.pair (.int .i64) (.int .i64)))))) (.pair (.pair (.int .i64) (.pair (.int .i64) (.pair (.int .i64) (.bool)))) (.pair (.int .i64) (.pair (.row (.pair (.int .i64) (.pair (.int .i64) (.int .i64)))) (.pair (.row (.pair (.int .i64) (.pair (.int .i64) (.pair (.int .i64) (.pair (.int .i64) (.int .i64)))))) (.row (.pair (.int .i64) (.pair (.int .i64) (.int .i64))))))))]
abbrev rs20 : List RTy := [.val (.pair (.pair (.pair (.int .i64) (.int .i64)) (.pair (.pair (.int .i64) (.int .i64)) (.pair (.int .i64) (.pair (.int .i64) (.pair (.int .i64) (.int .i64)))))) (.pair (.pair (.int .i64) (.pair (.int .i64) (.pair (.int .i64) (.bool)))) (.pair (.int .i64) (.pair (.row (.pair (.int .i64) (.pair (.int .i64) (.int .i64)))) (.pair (.row (.pair (.int .i64) (.pair (.int .i64) (.pair (.int .i64) (.pair (.int .i64) (.int .i64)))))) (.row (.pair (.int .i64) (.pair (.int .i64) (.int .i64)))))))))]
noncomputable abbrev L20 : List (Nat × Con) := [(47, conCPool), (48, conCLease), (49, conCHeld)]
noncomputable abbrev U20 : List (Nat × UCon) := []
noncomputable abbrev C20 : Cons := lookC L20 U20
noncomputable abbrev S20 : List (Nat × Nat × LSum) := []
noncomputable def con20 : Con := ⟨ps20, rs20, fun x => f20 x.1.1.1.1 x.1.1.1.2 x.1.1.2.1.1 x.1.1.2.1.2 x.1.1.2.2.1 x.1.1.2.2.2.1 x.1.1.2.2.2.2.1 x.1.1.2.2.2.2.2 x.1.2.1.1 x.1.2.1.2.1 x.1.2.1.2.2.1 x.1.2.1.2.2.2 x.1.2.2.1 x.1.2.2.2.1 x.1.2.2.2.2.1 x.1.2.2.2.2.2⟩
theorem e20 (x : Args ps20) : kTop Go.Proofs.Tryz.prog C20 (lookS S20) big 10 20 ps20 rs20 x = con20.f x := by kernel_rfl
theorem ok20 [Glob] [RngG Go.Proofs.Tryz.prog] (h : AllOK Go.Proofs.Tryz.prog L20) (h' : AllU Go.Proofs.Tryz.prog U20) : con20.OK Go.Proofs.Tryz.prog 20 := con_of_tree (lookC_ok h h') (rounds_of (l := S20) trivial) e20
abbrev ps21 : List Ty := [.row (.pair (.int .i64) (.pair (.int .i64) (.int .i64))), .int .i64]
abbrev rs21 : List RTy := [.own 65 (.pair (.int .i64) (.pair (.int .i64) (.int .i64)))]
noncomputable abbrev L21 : List (Nat × Con) := [(49, conCHeld)]
noncomputable abbrev U21 : List (Nat × UCon) := []
noncomputable abbrev C21 : Cons := lookC L21 U21
abbrev s21_94_2_0 : LShape := ⟨19, [(0, .fix (.sl 4294971408 0)), (1, .fix (.fn (.func 51) [] [(.ptr 4294967296 0)])), (7, .int .i64), (8, .int .i64)], [(4294967296, .box 3 [.int .i64]), (4294971408, .row 65 (.pair (.int .i64) (.pair (.int .i64) (.int .i64))) 0)], [], []⟩
abbrev o21_94_2_0 : LShape := ⟨19, [], [(4294967296, .box 3 [.int .i64]), (4294971408, .row 65 (.pair (.int .i64) (.pair (.int .i64) (.int .i64))) 0)], [], []⟩
abbrev q21_94_2_0 : LShape := ⟨19, [(4, .int .i64)], [(4294967296, .box 3 [.int .i64]), (4294971408, .row 65 (.pair (.int .i64) (.pair (.int .i64) (.int .i64))) 0)], [], []⟩
noncomputable def l21_94_2_0 : LSum := ⟨7, 94, s21_94_2_0, 0, o21_94_2_0, q21_94_2_0, u21_94_2_0, false, none⟩
abbrev s21_50_5_0 : LShape := ⟨42, [(0, .fix (.sl 4294971408 0)), (1, .fix (.fn (.func 51) [] [(.ptr 4294967296 0)])), (5, .int .i64), (6, .int .i64)], [(4294967296, .box 3 [.int .i64]), (4294971408, .row 65 (.pair (.int .i64) (.pair (.int .i64) (.int .i64))) 0)], [], []⟩
abbrev o21_50_5_0 : LShape := ⟨42, [(0, .fix (.sl 4294971408 0)), (5, .int .i64)], [(4294967296, .box 3 [.int .i64]), (4294971408, .row 65 (.pair (.int .i64) (.pair (.int .i64) (.int .i64))) 0)], [], []⟩
abbrev q21_50_5_0 : LShape := ⟨42, [], [(4294967296, .box 3 [.int .i64]), (4294971408, .row 65 (.pair (.int .i64) (.pair (.int .i64) (.int .i64))) 0)], [], []⟩
noncomputable def l21_50_5_0 : LSum := ⟨8, 50, s21_50_5_0, 0, o21_50_5_0, q21_50_5_0, u21_50_5_0, false, none⟩
noncomputable abbrev S21 : List (Nat × Nat × LSum) := [(79228238976018540853555363840, 2, l21_94_2_0), (18446761876348993536, 5, l21_50_5_0)]
noncomputable def con21 : Con := ⟨ps21, rs21, fun x => f21 x.1 x.2.1⟩
theorem r21_94_2_0 : Round Go.Proofs.Tryz.prog C21 (lookS S21) big 79228238976018540853555363840 2 l21_94_2_0 := ⟨by kernel_rfl, fun z => by kernel_rfl⟩
theorem r21_50_5_0 : Round Go.Proofs.Tryz.prog C21 (lookS S21) big 18446761876348993536 5 l21_50_5_0 := ⟨by kernel_rfl, fun z => by kernel_rfl⟩
theorem e21 (x : Args ps21) : kTop Go.Proofs.Tryz.prog C21 (lookS S21) big 10 21 ps21 rs21 x = con21.f x := by kernel_rfl
theorem ok21 [Glob] [RngG Go.Proofs.Tryz.prog] (h : AllOK Go.Proofs.Tryz.prog L21) (h' : AllU Go.Proofs.Tryz.prog U21) : con21.OK Go.Proofs.Tryz.prog 21 := con_of_tree (lookC_ok h h') (rounds_of (l := S21) ⟨r21_94_2_0, r21_50_5_0, trivial⟩) e21
abbrev ps10 : List Ty := [.pair (.pair (.pair (.int .i64) (.int .i64)) (.pair (.pair (.int .i64) (.int .i64)) (.pair (.int .i64) (.pair (.int .i64) (.pair (.int .i64) (.int .i64)))))) (.pair (.pair (.int .i64) (.pair (.int .i64) (.pair (.int .i64) (.bool)))) (.pair (.int .i64) (.pair (.row (.pair (.int .i64) (.pair (.int .i64) (.int .i64)))) (.pair (.row (.pair (.int .i64) (.pair (.int .i64) (.pair (.int .i64) (.pair (.int .i64) (.int .i64)))))) (.row (.pair (.int .i64) (.pair (.int .i64) (.int .i64)))))))), .int .i64]
abbrev rs10 : List RTy := [.val (.pair (.pair (.pair (.int .i64) (.int .i64)) (.pair (.pair (.int .i64) (.int .i64)) (.pair (.int .i64) (.pair (.int .i64) (.pair (.int .i64) (.int .i64)))))) (.pair (.pair (.int .i64) (.pair (.int .i64) (.pair (.int .i64) (.bool)))) (.pair (.int .i64) (.pair (.row (.pair (.int .i64) (.pair (.int .i64) (.int .i64)))) (.pair (.row (.pair (.int .i64) (.pair (.int .i64) (.pair (.int .i64) (.pair (.int .i64) (.int .i64)))))) (.row (.pair (.int .i64) (.pair (.int .i64) (.int .i64))))))))), .val (.bool)]
noncomputable abbrev L10 : List (Nat × Con) := [(14, con14), (21, con21), (47, conCPool), (48, conCLease), (49, conCHeld)]
noncomputable abbrev U10 : List (Nat × UCon) := []
noncomputable abbrev C10 : Cons := lookC L10 U10
abbrev s10_6 : LShape := ⟨45, [(1, .int .i64), (4, .fix (.ptr 4294967312 0)), (6, .fix (.ptr 4294971424 0)), (28, .int .i64), (29, .int .i64)], [], [(4294967312, .box 32 [.int .i64, .int .i64, .int .i64, .int .i64, .int .i64, .int .i64, .int .i64, .int .i64, .int .i64, .int .i64, .int .i64, .bool, .int .i64, .fix (.sl 8294967680 0), .fix (.sl 8294967681 0), .fix (.sl 8294967682 0)]), (4294971424, .box 32 [.int .i64, .int .i64, .int .i64, .int .i64, .int .i64, .int .i64, .int .i64, .int .i64, .int .i64, .int .i64, .int .i64, .bool, .int .i64, .fix (.sl 8294967683 0), .fix (.sl 8294967684 0), .fix (.sl 8294967685 0)])], [⟨.c 4294967312 13, 8294967680, 80, (.pair (.int .i64) (.pair (.int .i64) (.int .i64)))⟩, ⟨.c 4294967312 14, 8294967681, 55, (.pair (.int .i64) (.pair (.int .i64) (.pair (.int .i64) (.pair (.int .i64) (.int .i64)))))⟩, ⟨.c 4294967312 15, 8294967682, 65, (.pair (.int .i64) (.pair (.int .i64) (.int .i64)))⟩, ⟨.c 4294971424 13, 8294967683, 80, (.pair (.int .i64) (.pair (.int .i64) (.int .i64)))⟩, ⟨.c 4294971424 14, 8294967684, 55, (.pair (.int .i64) (.pair (.int .i64) (.pair (.int .i64) (.pair (.int .i64) (.int .i64)))))⟩, ⟨.c 4294971424 15, 8294967685, 65, (.pair (.int .i64) (.pair (.int .i64) (.int .i64)))⟩]⟩
abbrev o10_6 : LShape := ⟨45, [(1, .int .i64), (4, .fix (.ptr 4294967312 0)), (6, .fix (.ptr 4294971424 0))], [], [(4294967312, .box 32 [.int .i64, .int .i64, .int .i64, .int .i64, .int .i64, .int .i64, .int .i64, .int .i64, .int .i64, .int .i64, .int .i64, .bool, .int .i64, .fix (.sl 8294967712 0), .fix (.sl 8294967713 0), .fix (.sl 8294967714 0)]), (4294971424, .box 32 [.int .i64, .int .i64, .int .i64, .int .i64, .int .i64, .int .i64, .int .i64, .int .i64, .int .i64, .int .i64, .int .i64, .bool, .int .i64, .fix (.sl 8294967715 0), .fix (.sl 8294967716 0), .fix (.sl 8294967717 0)])], [⟨.c 4294967312 13, 8294967712, 80, (.pair (.int .i64) (.pair (.int .i64) (.int .i64)))⟩, ⟨.c 4294967312 14, 8294967713, 55, (.pair (.int .i64) (.pair (.int .i64) (.pair (.int .i64) (.pair (.int .i64) (.int .i64)))))⟩, ⟨.c 4294967312 15, 8294967714, 65, (.pair (.int .i64) (.pair (.int .i64) (.int .i64)))⟩, ⟨.c 4294971424 13, 8294967715, 80, (.pair (.int .i64) (.pair (.int .i64) (.int .i64)))⟩, ⟨.c 4294971424 14, 8294967716, 55, (.pair (.int .i64) (.pair (.int .i64) (.pair (.int .i64) (.pair (.int .i64) (.int .i64)))))⟩, ⟨.c 4294971424 15, 8294967717, 65, (.pair (.int .i64) (.pair (.int .i64) (.int .i64)))⟩]⟩
abbrev q10_6 : LShape := ⟨45, [], [], [], []⟩
noncomputable def l10_6 : LSum := ⟨9, 10, s10_6, 0, o10_6, q10_6, u10_6, false, none⟩
noncomputable abbrev S10 : List (Nat × Nat × LSum) := [(4294967296, 6, l10_6)]
noncomputable def con10 : Con := ⟨ps10, rs10, fun x => f10 x.1.1.1.1 x.1.1.1.2 x.1.1.2.1.1 x.1.1.2.1.2 x.1.1.2.2.1 x.1.1.2.2.2.1 x.1.1.2.2.2.2.1 x.1.1.2.2.2.2.2 x.1.2.1.1 x.1.2.1.2.1 x.1.2.1.2.2.1 x.1.2.1.2.2.2 x.1.2.2.1 x.1.2.2.2.1 x.1.2.2.2.2.1 x.1.2.2.2.2.2 x.2.1⟩
theorem r10_6 : Round Go.Proofs.Tryz.prog C10 (lookS S10) big 4294967296 6 l10_6 := ⟨by kernel_rfl, fun z => by kernel_rfl⟩
theorem e10 (x : Args ps10) : kTop Go.Proofs.Tryz.prog C10 (lookS S10) big 10 10 ps10 rs10 x = con10.f x := by kernel_rfl
theorem ok10 [Glob] [RngG Go.Proofs.Tryz.prog] (h : AllOK Go.Proofs.Tryz.prog L10) (h' : AllU Go.Proofs.Tryz.prog U10) : con10.OK Go.Proofs.Tryz.prog 10 := con_of_tree (lookC_ok h h') (rounds_of (l := S10) ⟨r10_6, trivial⟩) e10
abbrev ps24 : List Ty := [.int .i64, .int .i64]
abbrev rs24 : List RTy := [.val (.int .i64)]
noncomputable abbrev L24 : List (Nat × Con) := []
noncomputable abbrev U24 : List (Nat × UCon) := []
noncomputable abbrev C24 : Cons := lookC L24 U24
noncomputable abbrev S24 : List (Nat × Nat × LSum) := []
noncomputable def con24 : Con := ⟨ps24, rs24, fun x => f24 x.1 x.2.1⟩
theorem e24 (x : Args ps24) : kTop Go.Proofs.Tryz.prog C24 (lookS S24) big 10 24 ps24 rs24 x = con24.f x := by kernel_rfl
theorem ok24 [Glob] [RngG Go.Proofs.Tryz.prog] (h : AllOK Go.Proofs.Tryz.prog L24) (h' : AllU Go.Proofs.Tryz.prog U24) : con24.OK Go.Proofs.Tryz.prog 24 := con_of_tree (lookC_ok h h') (rounds_of (l := S24) trivial) e24
abbrev ps53 : List Ty := [.int .i64]
abbrev rs53 : List RTy := [.val (.bool)]
noncomputable abbrev L53 : List (Nat × Con) := []
noncomputable abbrev U53 : List (Nat × UCon) := []
noncomputable abbrev C53 : Cons := lookC L53 U53
noncomputable abbrev S53 : List (Nat × Nat × LSum) := []
noncomputable def con53 : Con := ⟨ps53, rs53, fun x => f53 x.1⟩
theorem e53 (x : Args ps53) : kTop Go.Proofs.Tryz.prog C53 (lookS S53) big 10 53 ps53 rs53 x = con53.f x := by kernel_rfl
theorem ok53 [Glob] [RngG Go.Proofs.Tryz.prog] (h : AllOK Go.Proofs.Tryz.prog L53) (h' : AllU Go.Proofs.Tryz.prog U53) : con53.OK Go.Proofs.Tryz.prog 53 := con_of_tree (lookC_ok h h') (rounds_of (l := S53) trivial) e53
abbrev ps54 : List Ty := [.int .i64]
abbrev rs54 : List RTy := [.own 5 (.int .u8)]
noncomputable abbrev L54 : List (Nat × Con) := []
noncomputable abbrev U54 : List (Nat × UCon) := []
noncomputable abbrev C54 : Cons := lookC L54 U54
abbrev s54_1 : LShape := ⟨20, [(1, .int .i64)], [], [], [⟨.t 0, 8294967360, 5, (.int .u8)⟩]⟩
abbrev o54_1 : LShape := ⟨20, [(1, .int .i64)], [], [], [⟨.t 0, 8294967392, 5, (.int .u8)⟩]⟩
abbrev q54_1 : LShape := ⟨20, [], [], [], []⟩
noncomputable def l54_1 : LSum := ⟨9, 54, s54_1, 0, o54_1, q54_1, u54_1, false, none⟩
noncomputable abbrev S54 : List (Nat × Nat × LSum) := [(4294967296, 1, l54_1)]
noncomputable def ucn54 : UCon := ⟨5, .int .u8, ps54, false, fun zs x => g54 zs x.1⟩
theorem r54_1 : Round Go.Proofs.Tryz.prog C54 (lookS S54) big 4294967296 1 l54_1 := ⟨by kernel_rfl, fun z => by kernel_rfl⟩
theorem e54 (zs : List (Ty.T (.int .u8))) (x : Args ps54) : kTopU Go.Proofs.Tryz.prog C54 (lookS S54) big 9 54 5 (.int .u8) ps54 zs x = f54 zs x.1 := by kernel_rfl
theorem ok54 [Glob] [RngG Go.Proofs.Tryz.prog] (h : AllOK Go.Proofs.Tryz.prog L54) (h' : AllU Go.Proofs.Tryz.prog U54) : ucn54.OK Go.Proofs.Tryz.prog 54 := ucon_of_tree (e := .int .u8) (f := fun (zs : List (Ty.T (.int .u8))) (x : Args ps54) => f54 zs x.1) (lookC_ok h h') (rounds_of (l := S54) ⟨r54_1, trivial⟩) rfl e54
abbrev ps25 : List Ty := [.row (.int .i64)]
abbrev rs25 : List RTy := [.own 5 (.int .u8), .val (.bool)]
noncomputable abbrev L25 : List (Nat × Con) := [(53, con53)]
noncomputable abbrev U25 : List (Nat × UCon) := [(54, ucn54)]
noncomputable abbrev C25 : Cons := lookC L25 U25
abbrev s25_5 : LShape := ⟨24, [(10, .cont (.int .i64)), (11, .int .i64), (12, .int .i64)], [], [], [⟨.t 4, 8294967616, 5, (.int .u8)⟩]⟩
abbrev o25_5 : LShape := ⟨24, [], [], [], [⟨.t 4, 8294967648, 5, (.int .u8)⟩]⟩
abbrev q25_5 : LShape := ⟨24, [(3, .bool)], [], [], [⟨.t 2, 8294967664, 5, (.int .u8)⟩]⟩
noncomputable def l25_5 : LSum := ⟨9, 25, s25_5, 0, o25_5, q25_5, u25_5, false, none⟩
noncomputable abbrev S25 : List (Nat × Nat × LSum) := [(4294967296, 5, l25_5)]
noncomputable def con25 : Con := ⟨ps25, rs25, fun x => f25 x.1⟩
theorem r25_5 : Round Go.Proofs.Tryz.prog C25 (lookS S25) big 4294967296 5 l25_5 := ⟨by kernel_rfl, fun z => by kernel_rfl⟩
theorem e25 (x : Args ps25) : kTop Go.Proofs.Tryz.prog C25 (lookS S25) big 10 25 ps25 rs25 x = con25.f x := by kernel_rfl
theorem ok25 [Glob] [RngG Go.Proofs.Tryz.prog] (h : AllOK Go.Proofs.Tryz.prog L25) (h' : AllU Go.Proofs.Tryz.prog U25) : con25.OK Go.Proofs.Tryz.prog 25 := con_of_tree (lookC_ok h h') (rounds_of (l := S25) ⟨r25_5, trivial⟩) e25
abbrev ps26 : List Ty := [.pair (.pair (.pair (.int .i64) (.int .i64)) (.pair (.pair (.int .i64) (.int .i64)) (.pair (.int .i64) (.pair (.int .i64) (.pair (.int .i64) (.int .i64)))))) (.pair (.pair (.int .i64) (.pair (.int .i64) (.pair (.int .i64) (.bool)))) (.pair (.int .i64) (.pair (.row (.pair (.int .i64) (.pair (.int .i64) (.int .i64)))) (.pair (.row (.pair (.int .i64) (.pair (.int .i64) (.pair (.int .i64) (.pair (.int .i64) (.int .i64)))))) (.row (.pair (.int .i64) (.pair (.int .i64) (.int .i64))))))))]
abbrev rs26 : List RTy := [.own 3 (.int .i64)]
noncomputable abbrev L26 : List (Nat × Con) := []
noncomputable abbrev U26 : List (Nat × UCon) := []
noncomputable abbrev C26 : Cons := lookC L26 U26
abbrev s26_6 : LShape := ⟨69, [(52, .cont (.pair (.int .i64) (.pair (.int .i64) (.int .i64)))), (53, .int .i64), (54, .int .i64)], [], [], [⟨.t 5, 8294967680, 3, (.int .i64)⟩]⟩
abbrev o26_6 : LShape := ⟨69, [], [], [], [⟨.t 5, 8294967712, 3, (.int .i64)⟩]⟩
abbrev q26_6 : LShape := ⟨69, [], [], [], []⟩
noncomputable def l26_6 : LSum := ⟨9, 26, s26_6, 0, o26_6, q26_6, u26_6, false, none⟩
noncomputable abbrev S26 : List (Nat × Nat × LSum) := [(4294967296, 6, l26_6)]
noncomputable def con26 : Con := ⟨ps26, rs26, fun x => f26 x.1.1.1.1 x.1.1.1.2 x.1.1.2.1.1 x.1.1.2.1.2 x.1.1.2.2.1 x.1.1.2.2.2.1 x.1.1.2.2.2.2.1 x.1.1.2.2.2.2.2 x.1.2.1.1 x.1.2.1.2.1 x.1.2.1.2.2.1 x.1.2.1.2.2.2 x.1.2.2.1 x.1.2.2.2.1 x.1.2.2.2.2.1 x.1.2.2.2.2.2⟩
theorem r26_6 : Round Go.Proofs.Tryz.prog C26 (lookS S26) big 4294967296 6 l26_6 := ⟨by kernel_rfl, fun z => by kernel_rfl⟩
theorem e26 (x : Args ps26) : kTop Go.Proofs.Tryz.prog C26 (lookS S26) big 10 26 ps26 rs26 x = con26.f x := by kernel_rfl
theorem ok26 [Glob] [RngG Go.Proofs.Tryz.prog] (h : AllOK Go.Proofs.Tryz.prog L26) (h' : AllU Go.Proofs.Tryz.prog U26) : con26.OK Go.Proofs.Tryz.prog 26 := con_of_tree (lookC_ok h h') (rounds_of (l := S26) ⟨r26_6, trivial⟩) e26
abbrev ps55 : List Ty := [.int .i64, .int .i64]
abbrev rs55 : List RTy := [.val (.int .i64)]
noncomputable abbrev L55 : List (Nat × Con) := []
noncomputable abbrev U55 : List (Nat × UCon) := []
noncomputable abbrev C55 : Cons := lookC L55 U55
noncomputable abbrev S55 : List (Nat × Nat × LSum) := []
noncomputable def con55 : Con := ⟨ps55, rs55, fun x => f55 x.1 x.2.1⟩
theorem e55 (x : Args ps55) : kTop Go.Proofs.Tryz.prog C55 (lookS S55) big 10 55 ps55 rs55 x = con55.f x := by kernel_rfl
theorem ok55 [Glob] [RngG Go.Proofs.Tryz.prog] (h : AllOK Go.Proofs.Tryz.prog L55) (h' : AllU Go.Proofs.Tryz.prog U55) : con55.OK Go.Proofs.Tryz.prog 55 := con_of_tree (lookC_ok h h') (rounds_of (l := S55) trivial) e55
abbrev ps27 : List Ty := [.row (.int .i64), .int .i64]
abbrev rs27 : List RTy := [.own 5 (.int .u8), .val (.bool)]
noncomputable abbrev L27 : List (Nat × Con) := [(55, con55)]
noncomputable abbrev U27 : List (Nat × UCon) := []
noncomputable abbrev C27 : Cons := lookC L27 U27
abbrev s27_95_2_0 : LShape := ⟨19, [(0, .cont (.int .i64)), (1, .fix (.fn (.func 56) [] [(.ptr 4294967296 0)])), (7, .int .i64), (8, .int .i64)], [(4294967296, .box 3 [.int .i64])], [], []⟩
abbrev o27_95_2_0 : LShape := ⟨19, [], [(4294967296, .box 3 [.int .i64])], [], []⟩
abbrev q27_95_2_0 : LShape := ⟨19, [(4, .int .i64)], [(4294967296, .box 3 [.int .i64])], [], []⟩
noncomputable def l27_95_2_0 : LSum := ⟨7, 95, s27_95_2_0, 0, o27_95_2_0, q27_95_2_0, u27_95_2_0, false, none⟩
abbrev s27_9 : LShape := ⟨62, [(3, .fix (.ptr 4294967296 0)), (9, .int .u64), (10, .int .i64), (27, .cont (.int .i64)), (28, .int .i64), (29, .int .i64)], [], [(4294967296, .box 3 [.int .i64])], [⟨.t 8, 8294967872, 5, (.int .u8)⟩]⟩
abbrev s27_13 : LShape := ⟨62, [(3, .fix (.ptr 4294967296 0)), (9, .int .u64), (10, .int .i64), (27, .cont (.int .i64)), (28, .int .i64), (29, .int .i64)], [], [(4294967296, .box 3 [.int .i64])], [⟨.t 8, 8294968128, 5, (.int .u8)⟩]⟩
abbrev o27_13 : LShape := ⟨62, [(3, .fix (.ptr 4294967296 0)), (9, .int .u64), (10, .int .i64), (27, .cont (.int .i64)), (28, .int .i64), (29, .int .i64)], [], [(4294967296, .box 3 [.int .i64])], [⟨.t 8, 8294968160, 5, (.int .u8)⟩]⟩
abbrev q27_13 : LShape := ⟨62, [], [], [], []⟩
noncomputable def l27_13 : LSum := ⟨9, 27, s27_13, 1000000007, o27_13, q27_13, u27_13, false, (some 0)⟩
abbrev o27_9 : LShape := ⟨62, [(9, .int .u64), (10, .int .i64)], [], [], [⟨.t 8, 8294967904, 5, (.int .u8)⟩]⟩
abbrev q27_9 : LShape := ⟨62, [], [], [], []⟩
noncomputable def l27_9 : LSum := ⟨9, 27, s27_9, 0, o27_9, q27_9, u27_9, false, none⟩
noncomputable abbrev S27 : List (Nat × Nat × LSum) := [(79228390682041803040907853824, 2, l27_95_2_0), (4294967296, 13, l27_13), (4294967296, 9, l27_9)]
noncomputable def con27 : Con := ⟨ps27, rs27, fun x => f27 x.1 x.2.1⟩
theorem r27_95_2_0 : Round Go.Proofs.Tryz.prog C27 (lookS S27) big 79228390682041803040907853824 2 l27_95_2_0 := ⟨by kernel_rfl, fun z => by kernel_rfl⟩
theorem r27_13 : Round Go.Proofs.Tryz.prog C27 (lookS S27) big 4294967296 13 l27_13 := ⟨by kernel_rfl, fun z => by kernel_rfl⟩
theorem r27_9 : Round Go.Proofs.Tryz.prog C27 (lookS S27) big 4294967296 9 l27_9 := ⟨by kernel_rfl, fun z => by kernel_rfl⟩
theorem e27 (x : Args ps27) : kTop Go.Proofs.Tryz.prog C27 (lookS S27) big 10 27 ps27 rs27 x = con27.f x := by kernel_rfl
theorem ok27 [Glob] [RngG Go.Proofs.Tryz.prog] (h : AllOK Go.Proofs.Tryz.prog L27) (h' : AllU Go.Proofs.Tryz.prog U27) : con27.OK Go.Proofs.Tryz.prog 27 := con_of_tree (lookC_ok h h') (rounds_of (l := S27) ⟨r27_95_2_0, r27_13, r27_9, trivial⟩) e27
abbrev ps59 : List Ty := [.int .i64]
abbrev rs59 : List RTy := [.val (.int .i64)]
noncomputable abbrev L59 : List (Nat × Con) := []
noncomputable abbrev U59 : List (Nat × UCon) := []
noncomputable abbrev C59 : Cons := lookC L59 U59
noncomputable abbrev S59 : List (Nat × Nat × LSum) := []
noncomputable def con59 : Con := ⟨ps59, rs59, fun x => f59 x.1⟩
theorem e59 (x : Args ps59) : kTop Go.Proofs.Tryz.prog C59 (lookS S59) big 10 59 ps59 rs59 x = con59.f x := by kernel_rfl
theorem ok59 [Glob] [RngG Go.Proofs.Tryz.prog] (h : AllOK Go.Proofs.Tryz.prog L59) (h' : AllU Go.Proofs.Tryz.prog U59) : con59.OK Go.Proofs.Tryz.prog 59 := con_of_tree (lookC_ok h h') (rounds_of (l := S59) trivial) e59
abbrev ps60 : List Ty := [.int .i64]
abbrev rs60 : List RTy := [.val (.bool)]
noncomputable abbrev L60 : List (Nat × Con) := []
noncomputable abbrev U60 : List (Nat × UCon) := []
noncomputable abbrev C60 : Cons := lookC L60 U60
noncomputable abbrev S60 : List (Nat × Nat × LSum) := []
noncomputable def con60 : Con := ⟨ps60, rs60, fun x => f60 x.1⟩
theorem e60 (x : Args ps60) : kTop Go.Proofs.Tryz.prog C60 (lookS S60) big 10 60 ps60 rs60 x = con60.f x := by kernel_rfl
theorem ok60 [Glob] [RngG Go.Proofs.Tryz.prog] (h : AllOK Go.Proofs.Tryz.prog L60) (h' : AllU Go.Proofs.Tryz.prog U60) : con60.OK Go.Proofs.Tryz.prog 60 := con_of_tree (lookC_ok h h') (rounds_of (l := S60) trivial) e60
abbrev ps28 : List Ty := [.row (.int .i64)]
abbrev rs28 : List RTy := [.own 5 (.int .u8), .val (.bool)]
noncomputable abbrev L28 : List (Nat × Con) := [(25, con25), (59, con59), (60, con60)]
noncomputable abbrev U28 : List (Nat × UCon) := []
noncomputable abbrev C28 : Cons := lookC L28 U28
abbrev s28_5 : LShape := ⟨37, [(0, .cont (.int .i64)), (5, .fix (.fn (.func 58) [] [(.ptr 4294971392 0)])), (13, .int .i64), (14, .int .i64)], [], [(4294971392, .box 3 [.int .i64])], [⟨.t 6, 8294967616, 3, (.int .i64)⟩]⟩
abbrev o28_5 : LShape := ⟨37, [], [], [], [⟨.t 6, 8294967648, 3, (.int .i64)⟩]⟩
abbrev q28_5 : LShape := ⟨37, [(3, .bool)], [], [], [⟨.t 2, 8294967664, 5, (.int .u8)⟩]⟩
noncomputable def l28_5 : LSum := ⟨9, 28, s28_5, 0, o28_5, q28_5, u28_5, false, none⟩
noncomputable abbrev S28 : List (Nat × Nat × LSum) := [(4294967296, 5, l28_5)]
noncomputable def con28 : Con := ⟨ps28, rs28, fun x => f28 x.1⟩
theorem r28_5 : Round Go.Proofs.Tryz.prog C28 (lookS S28) big 4294967296 5 l28_5 := ⟨by kernel_rfl, fun z => by kernel_rfl⟩
theorem e28 (x : Args ps28) : kTop Go.Proofs.Tryz.prog C28 (lookS S28) big 10 28 ps28 rs28 x = con28.f x := by kernel_rfl
theorem ok28 [Glob] [RngG Go.Proofs.Tryz.prog] (h : AllOK Go.Proofs.Tryz.prog L28) (h' : AllU Go.Proofs.Tryz.prog U28) : con28.OK Go.Proofs.Tryz.prog 28 := con_of_tree (lookC_ok h h') (rounds_of (l := S28) ⟨r28_5, trivial⟩) e28
abbrev ps29 : List Ty := [.int .i64]
abbrev rs29 : List RTy := [.val (.row (.int .u8))]
noncomputable abbrev L29 : List (Nat × Con) := [(53, con53)]
noncomputable abbrev U29 : List (Nat × UCon) := []
noncomputable abbrev C29 : Cons := lookC L29 U29
abbrev s29_54_1_0 : LShape := ⟨20, [(1, .int .i64)], [], [], [⟨.t 0, 18446796927282128960, 5, (.int .u8)⟩]⟩
abbrev o29_54_1_0 : LShape := ⟨20, [(1, .int .i64)], [], [], [⟨.t 0, 18446796927282128992, 5, (.int .u8)⟩]⟩
abbrev q29_54_1_0 : LShape := ⟨20, [], [], [], []⟩
noncomputable def l29_54_1_0 : LSum := ⟨8, 54, s29_54_1_0, 0, o29_54_1_0, q29_54_1_0, u29_54_1_0, false, none⟩
noncomputable abbrev S29 : List (Nat × Nat × LSum) := [(18446796923282128896, 1, l29_54_1_0)]
noncomputable def con29 : Con := ⟨ps29, rs29, fun x => f29 x.1⟩
theorem r29_54_1_0 : Round Go.Proofs.Tryz.prog C29 (lookS S29) big 18446796923282128896 1 l29_54_1_0 := ⟨by kernel_rfl, fun z => by kernel_rfl⟩
theorem e29 (x : Args ps29) : kTop Go.Proofs.Tryz.prog C29 (lookS S29) big 10 29 ps29 rs29 x = con29.f x := by kernel_rfl
theorem ok29 [Glob] [RngG Go.Proofs.Tryz.prog] (h : AllOK Go.Proofs.Tryz.prog L29) (h' : AllU Go.Proofs.Tryz.prog U29) : con29.OK Go.Proofs.Tryz.prog 29 := con_of_tree (lookC_ok h h') (rounds_of (l := S29) ⟨r29_54_1_0, trivial⟩) e29
abbrev ps11 : List Ty := [.pair (.pair (.pair (.int .i64) (.int .i64)) (.pair (.pair (.int .i64) (.int .i64)) (.pair (.int .i64) (.pair (.int .i64) (.pair (.int .i64) (.int .i64)))))) (.pair (.pair (.int .i64) (.pair (.int .i64) (.pair (.int .i64) (.bool)))) (.pair (.int .i64) (.pair (.row (.pair (.int .i64) (.pair (.int .i64) (.int .i64)))) (.pair (.row (.pair (.int .i64) (.pair (.int .i64) (.pair (.int .i64) (.pair (.int .i64) (.int .i64)))))) (.row (.pair (.int .i64) (.pair (.int .i64) (.int .i64))))))))]
abbrev rs11 : List RTy := [.val (.row (.int .u8)), .val (.bool)]
noncomputable abbrev L11 : List (Nat × Con) := [(14, con14), (24, con24), (25, con25), (26, con26), (27, con27), (28, con28), (29, con29)]
noncomputable abbrev U11 : List (Nat × UCon) := []
noncomputable abbrev C11 : Cons := lookC L11 U11
abbrev s11_52_2_0 : LShape := ⟨19, [(0, .cont (.pair (.int .i64) (.pair (.int .i64) (.pair (.int .i64) (.pair (.int .i64) (.int .i64)))))), (1, .fix (.fn (.func 22) [] [(.ptr 4294967296 0)])), (7, .int .i64), (8, .int .i64)], [(4294967296, .box 32 [.int .i64, .int .i64, .int .i64, .int .i64, .int .i64, .int .i64, .int .i64, .int .i64, .int .i64, .int .i64, .int .i64, .bool, .int .i64, .cont (.pair (.int .i64) (.pair (.int .i64) (.int .i64))), .cont (.pair (.int .i64) (.pair (.int .i64) (.pair (.int .i64) (.pair (.int .i64) (.int .i64))))), .cont (.pair (.int .i64) (.pair (.int .i64) (.int .i64)))])], [], []⟩
abbrev o11_52_2_0 : LShape := ⟨19, [], [(4294967296, .box 32 [.int .i64, .int .i64, .int .i64, .int .i64, .int .i64, .int .i64, .int .i64, .int .i64, .int .i64, .int .i64, .int .i64, .bool, .int .i64, .cont (.pair (.int .i64) (.pair (.int .i64) (.int .i64))), .cont (.pair (.int .i64) (.pair (.int .i64) (.pair (.int .i64) (.pair (.int .i64) (.int .i64))))), .cont (.pair (.int .i64) (.pair (.int .i64) (.int .i64)))])], [], []⟩
abbrev q11_52_2_0 : LShape := ⟨19, [(4, .int .i64)], [(4294967296, .box 32 [.int .i64, .int .i64, .int .i64, .int .i64, .int .i64, .int .i64, .int .i64, .int .i64, .int .i64, .int .i64, .int .i64, .bool, .int .i64, .cont (.pair (.int .i64) (.pair (.int .i64) (.int .i64))), .cont (.pair (.int .i64) (.pair (.int .i64) (.pair (.int .i64) (.pair (.int .i64) (.int .i64))))), .cont (.pair (.int .i64) (.pair (.int .i64) (.int .i64)))])], [], []⟩
noncomputable def l11_52_2_0 : LSum := ⟨7, 52, s11_52_2_0, 0, o11_52_2_0, q11_52_2_0, u11_52_2_0, false, none⟩
abbrev s11_6 : LShape := ⟨117, [(1, .fix (.ptr 4294967296 0)), (28, .cont (.pair (.int .i64) (.pair (.int .i64) (.pair (.int .i64) (.pair (.int .i64) (.int .i64)))))), (29, .int .i64), (30, .int .i64)], [], [(4294967296, .box 32 [.int .i64, .int .i64, .int .i64, .int .i64, .int .i64, .int .i64, .int .i64, .int .i64, .int .i64, .int .i64, .int .i64, .bool, .int .i64, .cont (.pair (.int .i64) (.pair (.int .i64) (.int .i64))), .cont (.pair (.int .i64) (.pair (.int .i64) (.pair (.int .i64) (.pair (.int .i64) (.int .i64))))), .cont (.pair (.int .i64) (.pair (.int .i64) (.int .i64)))])], [⟨.t 5, 8294967680, 3, (.int .i64)⟩, ⟨.t 6, 8294967681, 3, (.int .i64)⟩, ⟨.t 7, 8294967682, 3, (.int .i64)⟩, ⟨.t 8, 8294967683, 3, (.int .i64)⟩]⟩
abbrev o11_6 : LShape := ⟨117, [(1, .fix (.ptr 4294967296 0))], [], [(4294967296, .box 32 [.int .i64, .int .i64, .int .i64, .int .i64, .int .i64, .int .i64, .int .i64, .int .i64, .int .i64, .int .i64, .int .i64, .bool, .int .i64, .cont (.pair (.int .i64) (.pair (.int .i64) (.int .i64))), .cont (.pair (.int .i64) (.pair (.int .i64) (.pair (.int .i64) (.pair (.int .i64) (.int .i64))))), .cont (.pair (.int .i64) (.pair (.int .i64) (.int .i64)))])], [⟨.t 5, 8294967712, 3, (.int .i64)⟩, ⟨.t 6, 8294967713, 3, (.int .i64)⟩, ⟨.t 7, 8294967714, 3, (.int .i64)⟩, ⟨.t 8, 8294967715, 3, (.int .i64)⟩]⟩
abbrev q11_6 : LShape := ⟨117, [], [], [], []⟩
noncomputable def l11_6 : LSum := ⟨9, 11, s11_6, 0, o11_6, q11_6, u11_6, false, none⟩
abbrev s11_11 : LShape := ⟨117, [(1, .fix (.ptr 4294967296 0)), (53, .cont (.pair (.int .i64) (.pair (.int .i64) (.int .i64)))), (54, .int .i64), (55, .int .i64)], [], [(4294967296, .box 32 [.int .i64, .int .i64, .int .i64, .int .i64, .int .i64, .int .i64, .int .i64, .int .i64, .int .i64, .int .i64, .int .i64, .bool, .int .i64, .cont (.pair (.int .i64) (.pair (.int .i64) (.int .i64))), .cont (.pair (.int .i64) (.pair (.int .i64) (.pair (.int .i64) (.pair (.int .i64) (.int .i64))))), .cont (.pair (.int .i64) (.pair (.int .i64) (.int .i64)))])], [⟨.t 5, 8294968000, 3, (.int .i64)⟩, ⟨.t 6, 8294968001, 3, (.int .i64)⟩, ⟨.t 7, 8294968002, 3, (.int .i64)⟩, ⟨.t 8, 8294968003, 3, (.int .i64)⟩]⟩
abbrev o11_11 : LShape := ⟨117, [(1, .fix (.ptr 4294967296 0))], [], [(4294967296, .box 32 [.int .i64, .int .i64, .int .i64, .int .i64, .int .i64, .int .i64, .int .i64, .int .i64, .int .i64, .int .i64, .int .i64, .bool, .int .i64, .cont (.pair (.int .i64) (.pair (.int .i64) (.int .i64))), .cont (.pair (.int .i64) (.pair (.int .i64) (.pair (.int .i64) (.pair (.int .i64) (.int .i64))))), .cont (.pair (.int .i64) (.pair (.int .i64) (.int .i64)))])], [⟨.t 5, 8294968032, 3, (.int .i64)⟩, ⟨.t 6, 8294968033, 3, (.int .i64)⟩, ⟨.t 7, 8294968034, 3, (.int .i64)⟩, ⟨.t 8, 8294968035, 3, (.int .i64)⟩]⟩
abbrev q11_11 : LShape := ⟨117, [], [], [], []⟩
noncomputable def l11_11 : LSum := ⟨9, 11, s11_11, 2, o11_11, q11_11, u11_11, false, none⟩
noncomputable abbrev S11 : List (Nat × Nat × LSum) := [(79228315714473887485290086400, 2, l11_52_2_0), (4294967296, 6, l11_6), (4294967296, 11, l11_11)]
noncomputable def con11 : Con := ⟨ps11, rs11, fun x => f11 x.1.1.1.1 x.1.1.1.2 x.1.1.2.1.1 x.1.1.2.1.2 x.1.1.2.2.1 x.1.1.2.2.2.1 x.1.1.2.2.2.2.1 x.1.1.2.2.2.2.2 x.1.2.1.1 x.1.2.1.2.1 x.1.2.1.2.2.1 x.1.2.1.2.2.2 x.1.2.2.1 x.1.2.2.2.1 x.1.2.2.2.2.1 x.1.2.2.2.2.2⟩
theorem r11_52_2_0 : Round Go.Proofs.Tryz.prog C11 (lookS S11) big 79228315714473887485290086400 2 l11_52_2_0 := ⟨by kernel_rfl, fun z => by kernel_rfl⟩
theorem r11_6 : Round Go.Proofs.Tryz.prog C11 (lookS S11) big 4294967296 6 l11_6 := ⟨by kernel_rfl, fun z => by kernel_rfl⟩
theorem r11_11 : Round Go.Proofs.Tryz.prog C11 (lookS S11) big 4294967296 11 l11_11 := ⟨by kernel_rfl, fun z => by kernel_rfl⟩
theorem e11 (x : Args ps11) : kTop Go.Proofs.Tryz.prog C11 (lookS S11) big 10 11 ps11 rs11 x = con11.f x := by kernel_rfl
theorem ok11 [Glob] [RngG Go.Proofs.Tryz.prog] (h : AllOK Go.Proofs.Tryz.prog L11) (h' : AllU Go.Proofs.Tryz.prog U11) : con11.OK Go.Proofs.Tryz.prog 11 := con_of_tree (lookC_ok h h') (rounds_of (l := S11) ⟨r11_52_2_0, r11_6, r11_11, trivial⟩) e11
abbrev ps97 : List Ty := [.row (.int .u8), .int .i64]
abbrev rs97 : List RTy := [.val (.int .i64), .val (.int .i64)]
noncomputable abbrev L97 : List (Nat × Con) := [(53, con53)]
noncomputable abbrev U97 : List (Nat × UCon) := []
noncomputable abbrev C97 : Cons := lookC L97 U97
abbrev s97_5 : LShape := ⟨63, [(1, .int .i64), (6, .int .i64), (29, .cont (.int .u8)), (30, .int .i64), (31, .int .i64)], [], [], []⟩
abbrev o97_5 : LShape := ⟨63, [], [], [], []⟩
abbrev q97_5 : LShape := ⟨63, [(4, .int .i64), (5, .int .i64)], [], [], []⟩
noncomputable def l97_5 : LSum := ⟨9, 97, s97_5, 0, o97_5, q97_5, u97_5, false, none⟩
noncomputable abbrev S97 : List (Nat × Nat × LSum) := [(4294967296, 5, l97_5)]
noncomputable def con97 : Con := ⟨ps97, rs97, fun x => f97 x.1 x.2.1⟩
theorem r97_5 : Round Go.Proofs.Tryz.prog C97 (lookS S97) big 4294967296 5 l97_5 := ⟨by kernel_rfl, fun z => by kernel_rfl⟩
theorem e97 (x : Args ps97) : kTop Go.Proofs.Tryz.prog C97 (lookS S97) big 10 97 ps97 rs97 x = con97.f x := by kernel_rfl
theorem ok97 [Glob] [RngG Go.Proofs.Tryz.prog] (h : AllOK Go.Proofs.Tryz.prog L97) (h' : AllU Go.Proofs.Tryz.prog U97) : con97.OK Go.Proofs.Tryz.prog 97 := con_of_tree (lookC_ok h h') (rounds_of (l := S97) ⟨r97_5, trivial⟩) e97
abbrev ps30 : List Ty := [.row (.int .u8)]
abbrev rs30 : List RTy := [.val (.pair (.row (.int .u8)) (.pair (.row (.int .u8)) (.pair (.row (.int .u8)) (.pair (.row (.int .u8)) (.row (.int .u8)))))), .val (.bool)]
noncomputable abbrev L30 : List (Nat × Con) := [(97, con97)]
noncomputable abbrev U30 : List (Nat × UCon) := []
noncomputable abbrev C30 : Cons := lookC L30 U30
noncomputable abbrev S30 : List (Nat × Nat × LSum) := []
noncomputable def con30 : Con := ⟨ps30, rs30, fun x => f30 x.1⟩
theorem e30 (x : Args ps30) : kTop Go.Proofs.Tryz.prog C30 (lookS S30) big 10 30 ps30 rs30 x = con30.f x := by kernel_rfl
theorem ok30 [Glob] [RngG Go.Proofs.Tryz.prog] (h : AllOK Go.Proofs.Tryz.prog L30) (h' : AllU Go.Proofs.Tryz.prog U30) : con30.OK Go.Proofs.Tryz.prog 30 := con_of_tree (lookC_ok h h') (rounds_of (l := S30) trivial) e30
abbrev ps31 : List Ty := [.row (.int .u8)]
abbrev rs31 : List RTy := [.val (.row (.int .i64)), .val (.bool)]
noncomputable abbrev L31 : List (Nat × Con) := [(97, con97)]
noncomputable abbrev U31 : List (Nat × UCon) := []
noncomputable abbrev C31 : Cons := lookC L31 U31
abbrev s31_98_1_0 : LShape := ⟨26, [(0, .fix (.yld 4294991872)), (1, .fix (.ptr 18446796923282128896 0)), (3, .int .i64)], [(4294971392, .box 61 [.fix (.sl 18446849639415752768 0)]), (4294975488, .box 4 [.bool]), (18446796923282128896, .box 33 [.cont (.int .u8)]), (4294991872, .loop 31 6 .ready [.fix .junk, .fix .junk, .fix .junk, .fix .junk, .fix (.ptr 4294971392 0), .fix (.ptr 4294975488 0), .fix (.lit (.tuple #[])), .fix (.lit (.tuple #[])), .fix .junk, .fix .junk, .fix (.lit (.tuple #[])), .fix (.lit (.tuple #[])), .fix (.lit (.tuple #[])), .fix (.lit (.tuple #[])), .fix (.lit (.tuple #[])), .fix (.lit (.tuple #[])), .fix (.lit (.tuple #[])), .fix (.lit (.tuple #[])), .fix (.lit (.tuple #[])), .fix (.lit (.tuple #[])), .fix (.lit (.tuple #[])), .fix (.lit (.tuple #[])), .fix (.lit (.tuple #[])), .fix .junk, .fix .junk, .fix .junk])], [], [⟨.c 4294971392 0, 18446849639415752768, 3, (.int .i64)⟩]⟩
abbrev o31_98_1_0 : LShape := ⟨26, [], [(4294971392, .box 61 [.fix (.sl 18446849639415752800 0)]), (4294975488, .box 4 [.bool]), (18446796923282128896, .box 33 [.cont (.int .u8)]), (4294991872, .loop 31 6 .ready [.fix .junk, .fix .junk, .fix .junk, .fix .junk, .fix (.ptr 4294971392 0), .fix (.ptr 4294975488 0), .fix (.lit (.tuple #[])), .fix (.lit (.tuple #[])), .fix .junk, .fix .junk, .fix (.lit (.tuple #[])), .fix (.lit (.tuple #[])), .fix (.lit (.tuple #[])), .fix (.lit (.tuple #[])), .fix (.lit (.tuple #[])), .fix (.lit (.tuple #[])), .fix (.lit (.tuple #[])), .fix (.lit (.tuple #[])), .fix (.lit (.tuple #[])), .fix (.lit (.tuple #[])), .fix (.lit (.tuple #[])), .fix (.lit (.tuple #[])), .fix (.lit (.tuple #[])), .fix .junk, .fix .junk, .fix .junk])], [], [⟨.c 4294971392 0, 18446849639415752800, 3, (.int .i64)⟩]⟩
abbrev q31_98_1_0 : LShape := ⟨26, [], [(4294971392, .box 61 [.fix (.sl 18446849639415752816 0)]), (4294975488, .box 4 [.bool]), (18446796923282128896, .box 33 [.cont (.int .u8)]), (4294991872, .loop 31 6 (.done (.exit 0)) [.fix .junk, .fix .junk, .fix .junk, .fix .junk, .fix (.ptr 4294971392 0), .fix (.ptr 4294975488 0), .fix (.lit (.tuple #[])), .fix (.lit (.tuple #[])), .fix .junk, .fix .junk, .fix (.lit (.tuple #[])), .fix (.lit (.tuple #[])), .fix (.lit (.tuple #[])), .fix (.lit (.tuple #[])), .fix (.lit (.tuple #[])), .fix (.lit (.tuple #[])), .fix (.lit (.tuple #[])), .fix (.lit (.tuple #[])), .fix (.lit (.tuple #[])), .fix (.lit (.tuple #[])), .fix (.lit (.tuple #[])), .fix (.lit (.tuple #[])), .fix (.lit (.tuple #[])), .fix .junk, .fix .junk, .fix .junk])], [], [⟨.c 4294971392 0, 18446849639415752816, 3, (.int .i64)⟩]⟩
noncomputable def l31_98_1_0 : LSum := ⟨8, 98, s31_98_1_0, 0, o31_98_1_0, q31_98_1_0, u31_98_1_0, false, none⟩
noncomputable abbrev S31 : List (Nat × Nat × LSum) := [(18446849635415752704, 1, l31_98_1_0)]
noncomputable def con31 : Con := ⟨ps31, rs31, fun x => f31 x.1⟩
theorem r31_98_1_0 : Round Go.Proofs.Tryz.prog C31 (lookS S31) big 18446849635415752704 1 l31_98_1_0 := ⟨by kernel_rfl, fun z => by kernel_rfl⟩
theorem e31 (x : Args ps31) : kTop Go.Proofs.Tryz.prog C31 (lookS S31) big 10 31 ps31 rs31 x = con31.f x := by kernel_rfl
theorem ok31 [Glob] [RngG Go.Proofs.Tryz.prog] (h : AllOK Go.Proofs.Tryz.prog L31) (h' : AllU Go.Proofs.Tryz.prog U31) : con31.OK Go.Proofs.Tryz.prog 31 := con_of_tree (lookC_ok h h') (rounds_of (l := S31) ⟨r31_98_1_0, trivial⟩) e31
abbrev ps33 : List Ty := [.row (.int .u8), .int .i64, .int .i64]
abbrev rs33 : List RTy := [.val (.row (.int .i64)), .val (.bool)]
noncomputable abbrev L33 : List (Nat × Con) := [(55, con55)]
noncomputable abbrev U33 : List (Nat × UCon) := []
noncomputable abbrev C33 : Cons := lookC L33 U33
abbrev s33_7 : LShape := ⟨54, [(0, .cont (.int .u8)), (2, .int .i64), (9, .int .u64), (10, .int .i64), (17, .int .i64), (18, .int .i64)], [], [], [⟨.t 8, 8294967744, 3, (.int .i64)⟩]⟩
abbrev s33_8 : LShape := ⟨54, [(0, .cont (.int .u8)), (2, .int .i64), (9, .int .u64), (10, .int .i64), (17, .int .i64), (18, .int .i64)], [], [], [⟨.t 8, 8294967808, 3, (.int .i64)⟩]⟩
abbrev o33_8 : LShape := ⟨54, [(0, .cont (.int .u8)), (2, .int .i64), (9, .int .u64), (10, .int .i64), (17, .int .i64), (18, .int .i64)], [], [], [⟨.t 8, 8294967840, 3, (.int .i64)⟩]⟩
abbrev q33_8 : LShape := ⟨54, [], [], [], []⟩
noncomputable def l33_8 : LSum := ⟨9, 33, s33_8, 1000000007, o33_8, q33_8, u33_8, false, (some 0)⟩
abbrev o33_7 : LShape := ⟨54, [(9, .int .u64)], [], [], [⟨.t 8, 8294967776, 3, (.int .i64)⟩]⟩
abbrev q33_7 : LShape := ⟨54, [], [], [], []⟩
noncomputable def l33_7 : LSum := ⟨9, 33, s33_7, 0, o33_7, q33_7, u33_7, false, none⟩
noncomputable abbrev S33 : List (Nat × Nat × LSum) := [(4294967296, 8, l33_8), (4294967296, 7, l33_7)]
noncomputable def con33 : Con := ⟨ps33, rs33, fun x => f33 x.1 x.2.1 x.2.2.1⟩
theorem r33_8 : Round Go.Proofs.Tryz.prog C33 (lookS S33) big 4294967296 8 l33_8 := ⟨by kernel_rfl, fun z => by kernel_rfl⟩
theorem r33_7 : Round Go.Proofs.Tryz.prog C33 (lookS S33) big 4294967296 7 l33_7 := ⟨by kernel_rfl, fun z => by kernel_rfl⟩
theorem e33 (x : Args ps33) : kTop Go.Proofs.Tryz.prog C33 (lookS S33) big 10 33 ps33 rs33 x = con33.f x := by kernel_rfl
theorem ok33 [Glob] [RngG Go.Proofs.Tryz.prog] (h : AllOK Go.Proofs.Tryz.prog L33) (h' : AllU Go.Proofs.Tryz.prog U33) : con33.OK Go.Proofs.Tryz.prog 33 := con_of_tree (lookC_ok h h') (rounds_of (l := S33) ⟨r33_8, r33_7, trivial⟩) e33
abbrev ps65 : List Ty := [.int .i64]
abbrev rs65 : List RTy := [.val (.int .i64)]
noncomputable abbrev L65 : List (Nat × Con) := []
noncomputable abbrev U65 : List (Nat × UCon) := []
noncomputable abbrev C65 : Cons := lookC L65 U65
noncomputable abbrev S65 : List (Nat × Nat × LSum) := []
noncomputable def con65 : Con := ⟨ps65, rs65, fun x => f65 x.1⟩
theorem e65 (x : Args ps65) : kTop Go.Proofs.Tryz.prog C65 (lookS S65) big 10 65 ps65 rs65 x = con65.f x := by kernel_rfl
theorem ok65 [Glob] [RngG Go.Proofs.Tryz.prog] (h : AllOK Go.Proofs.Tryz.prog L65) (h' : AllU Go.Proofs.Tryz.prog U65) : con65.OK Go.Proofs.Tryz.prog 65 := con_of_tree (lookC_ok h h') (rounds_of (l := S65) trivial) e65
abbrev ps34 : List Ty := [.row (.int .u8)]
abbrev rs34 : List RTy := [.val (.row (.int .i64)), .val (.bool)]
noncomputable abbrev L34 : List (Nat × Con) := [(31, con31), (60, con60), (65, con65)]
noncomputable abbrev U34 : List (Nat × UCon) := []
noncomputable abbrev C34 : Cons := lookC L34 U34
abbrev s34_8 : LShape := ⟨36, [(4, .cont (.int .i64)), (6, .fix (.ptr 4294983680 0)), (7, .fix (.fn (.func 64) [] [(.ptr 4294983680 0)])), (19, .int .i64), (20, .int .i64)], [], [(4294983680, .box 3 [.int .i64])], [⟨.t 8, 8294967808, 3, (.int .i64)⟩]⟩
abbrev o34_8 : LShape := ⟨36, [], [], [], [⟨.t 8, 8294967840, 3, (.int .i64)⟩]⟩
abbrev q34_8 : LShape := ⟨36, [(3, .bool)], [], [], [⟨.t 2, 8294967856, 3, (.int .i64)⟩]⟩
noncomputable def l34_8 : LSum := ⟨9, 34, s34_8, 0, o34_8, q34_8, u34_8, false, none⟩
noncomputable abbrev S34 : List (Nat × Nat × LSum) := [(4294967296, 8, l34_8)]
noncomputable def con34 : Con := ⟨ps34, rs34, fun x => f34 x.1⟩
theorem r34_8 : Round Go.Proofs.Tryz.prog C34 (lookS S34) big 4294967296 8 l34_8 := ⟨by kernel_rfl, fun z => by kernel_rfl⟩
theorem e34 (x : Args ps34) : kTop Go.Proofs.Tryz.prog C34 (lookS S34) big 10 34 ps34 rs34 x = con34.f x := by kernel_rfl
theorem ok34 [Glob] [RngG Go.Proofs.Tryz.prog] (h : AllOK Go.Proofs.Tryz.prog L34) (h' : AllU Go.Proofs.Tryz.prog U34) : con34.OK Go.Proofs.Tryz.prog 34 := con_of_tree (lookC_ok h h') (rounds_of (l := S34) ⟨r34_8, trivial⟩) e34
abbrev ps12 : List Ty := [.row (.int .u8)]
abbrev rs12 : List RTy := [.val (.pair (.pair (.pair (.int .i64) (.int .i64)) (.pair (.pair (.int .i64) (.int .i64)) (.pair (.int .i64) (.pair (.int .i64) (.pair (.int .i64) (.int .i64)))))) (.pair (.pair (.int .i64) (.pair (.int .i64) (.pair (.int .i64) (.bool)))) (.pair (.int .i64) (.pair (.row (.pair (.int .i64) (.pair (.int .i64) (.int .i64)))) (.pair (.row (.pair (.int .i64) (.pair (.int .i64) (.pair (.int .i64) (.pair (.int .i64) (.int .i64)))))) (.row (.pair (.int .i64) (.pair (.int .i64) (.int .i64))))))))), .val (.bool)]
noncomputable abbrev L12 : List (Nat × Con) := [(14, con14), (30, con30), (31, con31), (33, con33), (34, con34)]
noncomputable abbrev U12 : List (Nat × UCon) := []
noncomputable abbrev C12 : Cons := lookC L12 U12
abbrev s12_63_1_0 : LShape := ⟨31, [(0, .fix (.yld 4295000064)), (1, .fix (.ptr 18446849768559738880 0)), (2, .fix (.ptr 18446849768559738896 0)), (4, .int .i64)], [(4294967296, .box 32 [.int .i64, .int .i64, .int .i64, .int .i64, .int .i64, .int .i64, .int .i64, .int .i64, .int .i64, .int .i64, .int .i64, .bool, .int .i64, .fix (.sl 18446884823787841600 0), .fix (.sl 18446884823787841601 0), .fix (.sl 18446884823787841602 0)]), (4294971472, .box 66 [.cont (.int .u8), .cont (.int .u8), .cont (.int .u8), .cont (.int .u8), .cont (.int .u8)]), (4294988496, .box 32 [.int .i64, .int .i64, .int .i64, .int .i64, .int .i64, .int .i64, .int .i64, .int .i64, .int .i64, .int .i64, .int .i64, .bool, .int .i64, .fix (.sl 18446884823787841603 0), .fix (.sl 18446884823787841604 0), .fix (.sl 18446884823787841605 0)]), (18446849768559738880, .box 61 [.cont (.int .i64)]), (18446849768559738896, .box 3 [.int .i64]), (4295000064, .loop 12 8 .ready [.fix .junk, .fix .junk, .fix .junk, .fix .junk, .fix .junk, .fix .junk, .fix .junk, .fix .junk, .fix (.ptr 4294988496 0), .fix (.lit (.tuple #[])), .fix .junk, .fix .junk, .fix .junk, .fix .junk, .fix .junk, .fix .junk, .fix .junk, .fix .junk, .fix .junk, .fix .junk, .fix .junk, .fix .junk, .fix .junk, .fix .junk, .fix .junk, .fix .junk, .fix .junk, .fix .junk, .fix .junk, .fix .junk, .fix .junk, .fix .junk, .fix .junk, .fix .junk, .fix .junk, .fix .junk, .fix .junk, .fix .junk, .fix .junk, .fix .junk, .fix .junk, .fix .junk, .fix .junk, .fix .junk, .fix .junk, .fix .junk, .fix .junk, .fix .junk, .fix .junk, .fix .junk, .fix .junk, .fix .junk, .fix .junk, .fix .junk, .fix .junk, .fix .junk, .fix .junk, .fix .junk, .fix .junk, .fix .junk, .fix .junk, .fix .junk, .fix .junk, .fix .junk, .fix .junk, .fix .junk, .fix .junk, .fix .junk, .fix .junk, .fix .junk, .fix .junk, .fix .junk, .fix .junk, .fix .junk, .fix .junk, .fix .junk, .fix .junk, .fix .junk, .fix .junk, .fix .junk, .fix .junk, .fix .junk, .fix .junk, .fix .junk, .fix .junk, .fix .junk, .fix .junk, .fix .junk, .fix .junk, .fix .junk, .fix .junk, .fix .junk, .fix .junk, .fix .junk, .fix .junk, .fix .junk, .fix .junk, .fix .junk, .fix .junk, .fix .junk, .fix .junk, .fix .junk, .fix .junk, .fix .junk, .fix .junk, .fix .junk, .fix .junk, .fix (.lit (.tuple #[])), .fix (.lit (.tuple #[])), .fix (.lit (.tuple #[])), .fix (.lit (.tuple #[])), .fix (.lit (.tuple #[])), .fix (.lit (.tuple #[])), .fix (.lit (.tuple #[])), .fix (.lit (.tuple #[])), .fix (.lit (.tuple #[])), .fix (.lit (.tuple #[])), .fix (.lit (.tuple #[])), .fix (.lit (.tuple #[])), .fix (.lit (.tuple #[])), .fix (.lit (.tuple #[])), .fix (.lit (.tuple #[])), .fix (.lit (.tuple #[])), .fix .junk, .fix .junk, .fix .junk, .fix .junk, .fix .junk, .fix .junk, .fix .junk, .fix .junk, .fix .junk, .fix .junk, .fix .junk, .fix .junk, .fix .junk, .fix .junk, .fix .junk, .fix .junk, .fix .junk, .fix .junk, .fix .junk, .fix .junk, .fix .junk, .fix .junk, .fix .junk, .fix .junk, .fix .junk, .fix .junk, .fix .junk, .fix .junk, .fix .junk, .fix .junk, .fix .junk, .fix .junk, .fix .junk, .fix .junk, .fix .junk, .fix .junk, .fix .junk, .fix .junk, .fix .junk, .fix .junk, .fix .junk, .fix .junk, .fix .junk, .fix .junk, .fix .junk, .fix .junk, .fix .junk, .fix .junk, .fix .junk, .fix .junk, .fix .junk, .fix .junk, .fix .junk, .fix .junk, .fix .junk, .fix .junk, .fix .junk, .fix .junk, .fix .junk, .fix .junk, .fix .junk, .fix .junk, .fix .junk, .fix .junk, .fix .junk, .fix .junk, .fix .junk, .fix .junk, .fix .junk, .fix .junk, .fix .junk, .fix .junk, .fix .junk, .fix .junk, .fix .junk, .fix .junk, .fix .junk, .fix .junk, .fix .junk, .fix .junk, .fix .junk, .fix .junk, .fix .junk, .fix .junk, .fix .junk, .fix .junk, .fix .junk, .fix .junk, .fix .junk, .fix .junk, .fix .junk, .fix .junk, .fix .junk, .fix .junk, .fix .junk, .fix .junk, .fix .junk, .fix .junk, .fix .junk, .fix .junk, .fix .junk, .fix .junk, .fix .junk, .fix .junk, .fix .junk, .fix .junk, .fix .junk, .fix .junk, .fix .junk, .fix .junk, .fix .junk, .fix .junk, .fix .junk, .fix .junk])], [], [⟨.c 4294967296 13, 18446884823787841600, 80, (.pair (.int .i64) (.pair (.int .i64) (.int .i64)))⟩, ⟨.c 4294967296 14, 18446884823787841601, 55, (.pair (.int .i64) (.pair (.int .i64) (.pair (.int .i64) (.pair (.int .i64) (.int .i64)))))⟩, ⟨.c 4294967296 15, 18446884823787841602, 65, (.pair (.int .i64) (.pair (.int .i64) (.int .i64)))⟩, ⟨.c 4294988496 13, 18446884823787841603, 80, (.pair (.int .i64) (.pair (.int .i64) (.int .i64)))⟩, ⟨.c 4294988496 14, 18446884823787841604, 55, (.pair (.int .i64) (.pair (.int .i64) (.pair (.int .i64) (.pair (.int .i64) (.int .i64)))))⟩, ⟨.c 4294988496 15, 18446884823787841605, 65, (.pair (.int .i64) (.pair (.int .i64) (.int .i64)))⟩]⟩
abbrev o12_63_1_0 : LShape := ⟨31, [], [(4294967296, .box 32 [.int .i64, .int .i64, .int .i64, .int .i64, .int .i64, .int .i64, .int .i64, .int .i64, .int .i64, .int .i64, .int .i64, .bool, .int .i64, .fix (.sl 18446884823787841632 0), .fix (.sl 18446884823787841633 0), .fix (.sl 18446884823787841634 0)]), (4294971472, .box 66 [.cont (.int .u8), .cont (.int .u8), .cont (.int .u8), .cont (.int .u8), .cont (.int .u8)]), (4294988496, .box 32 [.int .i64, .int .i64, .int .i64, .int .i64, .int .i64, .int .i64, .int .i64, .int .i64, .int .i64, .int .i64, .int .i64, .bool, .int .i64, .fix (.sl 18446884823787841635 0), .fix (.sl 18446884823787841636 0), .fix (.sl 18446884823787841637 0)]), (18446849768559738880, .box 61 [.cont (.int .i64)]), (18446849768559738896, .box 3 [.int .i64]), (4295000064, .loop 12 8 .ready [.fix .junk, .fix .junk, .fix .junk, .fix .junk, .fix .junk, .fix .junk, .fix .junk, .fix .junk, .fix (.ptr 4294988496 0), .fix (.lit (.tuple #[])), .fix .junk, .fix .junk, .fix .junk, .fix .junk, .fix .junk, .fix .junk, .fix .junk, .fix .junk, .fix .junk, .fix .junk, .fix .junk, .fix .junk, .fix .junk, .fix .junk, .fix .junk, .fix .junk, .fix .junk, .fix .junk, .fix .junk, .fix .junk, .fix .junk, .fix .junk, .fix .junk, .fix .junk, .fix .junk, .fix .junk, .fix .junk, .fix .junk, .fix .junk, .fix .junk, .fix .junk, .fix .junk, .fix .junk, .fix .junk, .fix .junk, .fix .junk, .fix .junk, .fix .junk, .fix .junk, .fix .junk, .fix .junk, .fix .junk, .fix .junk, .fix .junk, .fix .junk, .fix .junk, .fix .junk, .fix .junk, .fix .junk, .fix .junk, .fix .junk, .fix .junk, .fix .junk, .fix .junk, .fix .junk, .fix .junk, .fix .junk, .fix .junk, .fix .junk, .fix .junk, .fix .junk, .fix .junk, .fix .junk, .fix .junk, .fix .junk, .fix .junk, .fix .junk, .fix .junk, .fix .junk, .fix .junk, .fix .junk, .fix .junk, .fix .junk, .fix .junk, .fix .junk, .fix .junk, .fix .junk, .fix .junk, .fix .junk, .fix .junk, .fix .junk, .fix .junk, .fix .junk, .fix .junk, .fix .junk, .fix .junk, .fix .junk, .fix .junk, .fix .junk, .fix .junk, .fix .junk, .fix .junk, .fix .junk, .fix .junk, .fix .junk, .fix .junk, .fix .junk, .fix (.lit (.tuple #[])), .fix (.lit (.tuple #[])), .fix (.lit (.tuple #[])), .fix (.lit (.tuple #[])), .fix (.lit (.tuple #[])), .fix (.lit (.tuple #[])), .fix (.lit (.tuple #[])), .fix (.lit (.tuple #[])), .fix (.lit (.tuple #[])), .fix (.lit (.tuple #[])), .fix (.lit (.tuple #[])), .fix (.lit (.tuple #[])), .fix (.lit (.tuple #[])), .fix (.lit (.tuple #[])), .fix (.lit (.tuple #[])), .fix (.lit (.tuple #[])), .fix .junk, .fix .junk, .fix .junk, .fix .junk, .fix .junk, .fix .junk, .fix .junk, .fix .junk, .fix .junk, .fix .junk, .fix .junk, .fix .junk, .fix .junk, .fix .junk, .fix .junk, .fix .junk, .fix .junk, .fix .junk, .fix .junk, .fix .junk, .fix .junk, .fix .junk, .fix .junk, .fix .junk, .fix .junk, .fix .junk, .fix .junk, .fix .junk, .fix .junk, .fix .junk, .fix .junk, .fix .junk, .fix .junk, .fix .junk, .fix .junk, .fix .junk, .fix .junk, .fix .junk, .fix .junk, .fix .junk, .fix .junk, .fix .junk, .fix .junk, .fix .junk, .fix .junk, .fix .junk, .fix .junk, .fix .junk, .fix .junk, .fix .junk, .fix .junk, .fix .junk, .fix .junk, .fix .junk, .fix .junk, .fix .junk, .fix .junk, .fix .junk, .fix .junk, .fix .junk, .fix .junk, .fix .junk, .fix .junk, .fix .junk, .fix .junk, .fix .junk, .fix .junk, .fix .junk, .fix .junk, .fix .junk, .fix .junk, .fix .junk, .fix .junk, .fix .junk, .fix .junk, .fix .junk, .fix .junk, .fix .junk, .fix .junk, .fix .junk, .fix .junk, .fix .junk, .fix .junk, .fix .junk, .fix .junk, .fix .junk, .fix .junk, .fix .junk, .fix .junk, .fix .junk, .fix .junk, .fix .junk, .fix .junk, .fix .junk, .fix .junk, .fix .junk, .fix .junk, .fix .junk, .fix .junk, .fix .junk, .fix .junk, .fix .junk, .fix .junk, .fix .junk, .fix .junk, .fix .junk, .fix .junk, .fix .junk, .fix .junk, .fix .junk, .fix .junk, .fix .junk, .fix .junk, .fix .junk])], [], [⟨.c 4294967296 13, 18446884823787841632, 80, (.pair (.int .i64) (.pair (.int .i64) (.int .i64)))⟩, ⟨.c 4294967296 14, 18446884823787841633, 55, (.pair (.int .i64) (.pair (.int .i64) (.pair (.int .i64) (.pair (.int .i64) (.int .i64)))))⟩, ⟨.c 4294967296 15, 18446884823787841634, 65, (.pair (.int .i64) (.pair (.int .i64) (.int .i64)))⟩, ⟨.c 4294988496 13, 18446884823787841635, 80, (.pair (.int .i64) (.pair (.int .i64) (.int .i64)))⟩, ⟨.c 4294988496 14, 18446884823787841636, 55, (.pair (.int .i64) (.pair (.int .i64) (.pair (.int .i64) (.pair (.int .i64) (.int .i64)))))⟩, ⟨.c 4294988496 15, 18446884823787841637, 65, (.pair (.int .i64) (.pair (.int .i64) (.int .i64)))⟩]⟩
abbrev q12_63_1_0 : LShape := ⟨31, [], [(4294967296, .box 32 [.int .i64, .int .i64, .int .i64, .int .i64, .int .i64, .int .i64, .int .i64, .int .i64, .int .i64, .int .i64, .int .i64, .bool, .int .i64, .fix (.sl 18446884823787841632 0), .fix (.sl 18446884823787841633 0), .fix (.sl 18446884823787841634 0)]), (4294971472, .box 66 [.cont (.int .u8), .cont (.int .u8), .cont (.int .u8), .cont (.int .u8), .cont (.int .u8)]), (4294988496, .box 32 [.int .i64, .int .i64, .int .i64, .int .i64, .int .i64, .int .i64, .int .i64, .int .i64, .int .i64, .int .i64, .int .i64, .bool, .int .i64, .fix (.sl 18446884823787841635 0), .fix (.sl 18446884823787841636 0), .fix (.sl 18446884823787841637 0)]), (18446849768559738880, .box 61 [.cont (.int .i64)]), (18446849768559738896, .box 3 [.int .i64]), (4295000064, .loop 12 8 .ready [.fix .junk, .fix .junk, .fix .junk, .fix .junk, .fix .junk, .fix .junk, .fix .junk, .fix .junk, .fix (.ptr 4294988496 0), .fix (.lit (.tuple #[])), .fix .junk, .fix .junk, .fix .junk, .fix .junk, .fix .junk, .fix .junk, .fix .junk, .fix .junk, .fix .junk, .fix .junk, .fix .junk, .fix .junk, .fix .junk, .fix .junk, .fix .junk, .fix .junk, .fix .junk, .fix .junk, .fix .junk, .fix .junk, .fix .junk, .fix .junk, .fix .junk, .fix .junk, .fix .junk, .fix .junk, .fix .junk, .fix .junk, .fix .junk, .fix .junk, .fix .junk, .fix .junk, .fix .junk, .fix .junk, .fix .junk, .fix .junk, .fix .junk, .fix .junk, .fix .junk, .fix .junk, .fix .junk, .fix .junk, .fix .junk, .fix .junk, .fix .junk, .fix .junk, .fix .junk, .fix .junk, .fix .junk, .fix .junk, .fix .junk, .fix .junk, .fix .junk, .fix .junk, .fix .junk, .fix .junk, .fix .junk, .fix .junk, .fix .junk, .fix .junk, .fix .junk, .fix .junk, .fix .junk, .fix .junk, .fix .junk, .fix .junk, .fix .junk, .fix .junk, .fix .junk, .fix .junk, .fix .junk, .fix .junk, .fix .junk, .fix .junk, .fix .junk, .fix .junk, .fix .junk, .fix .junk, .fix .junk, .fix .junk, .fix .junk, .fix .junk, .fix .junk, .fix .junk, .fix .junk, .fix .junk, .fix .junk, .fix .junk, .fix .junk, .fix .junk, .fix .junk, .fix .junk, .fix .junk, .fix .junk, .fix .junk, .fix .junk, .fix .junk, .fix (.lit (.tuple #[])), .fix (.lit (.tuple #[])), .fix (.lit (.tuple #[])), .fix (.lit (.tuple #[])), .fix (.lit (.tuple #[])), .fix (.lit (.tuple #[])), .fix (.lit (.tuple #[])), .fix (.lit (.tuple #[])), .fix (.lit (.tuple #[])), .fix (.lit (.tuple #[])), .fix (.lit (.tuple #[])), .fix (.lit (.tuple #[])), .fix (.lit (.tuple #[])), .fix (.lit (.tuple #[])), .fix (.lit (.tuple #[])), .fix (.lit (.tuple #[])), .fix .junk, .fix .junk, .fix .junk, .fix .junk, .fix .junk, .fix .junk, .fix .junk, .fix .junk, .fix .junk, .fix .junk, .fix .junk, .fix .junk, .fix .junk, .fix .junk, .fix .junk, .fix .junk, .fix .junk, .fix .junk, .fix .junk, .fix .junk, .fix .junk, .fix .junk, .fix .junk, .fix .junk, .fix .junk, .fix .junk, .fix .junk, .fix .junk, .fix .junk, .fix .junk, .fix .junk, .fix .junk, .fix .junk, .fix .junk, .fix .junk, .fix .junk, .fix .junk, .fix .junk, .fix .junk, .fix .junk, .fix .junk, .fix .junk, .fix .junk, .fix .junk, .fix .junk, .fix .junk, .fix .junk, .fix .junk, .fix .junk, .fix .junk, .fix .junk, .fix .junk, .fix .junk, .fix .junk, .fix .junk, .fix .junk, .fix .junk, .fix .junk, .fix .junk, .fix .junk, .fix .junk, .fix .junk, .fix .junk, .fix .junk, .fix .junk, .fix .junk, .fix .junk, .fix .junk, .fix .junk, .fix .junk, .fix .junk, .fix .junk, .fix .junk, .fix .junk, .fix .junk, .fix .junk, .fix .junk, .fix .junk, .fix .junk, .fix .junk, .fix .junk, .fix .junk, .fix .junk, .fix .junk, .fix .junk, .fix .junk, .fix .junk, .fix .junk, .fix .junk, .fix .junk, .fix .junk, .fix .junk, .fix .junk, .fix .junk, .fix .junk, .fix .junk, .fix .junk, .fix .junk, .fix .junk, .fix .junk, .fix .junk, .fix .junk, .fix .junk, .fix .junk, .fix .junk, .fix .junk, .fix .junk, .fix .junk, .fix .junk, .fix .junk, .fix .junk, .fix .junk, .fix .junk, .fix .junk])], [], [⟨.c 4294967296 13, 18446884823787841632, 80, (.pair (.int .i64) (.pair (.int .i64) (.int .i64)))⟩, ⟨.c 4294967296 14, 18446884823787841633, 55, (.pair (.int .i64) (.pair (.int .i64) (.pair (.int .i64) (.pair (.int .i64) (.int .i64)))))⟩, ⟨.c 4294967296 15, 18446884823787841634, 65, (.pair (.int .i64) (.pair (.int .i64) (.int .i64)))⟩, ⟨.c 4294988496 13, 18446884823787841635, 80, (.pair (.int .i64) (.pair (.int .i64) (.int .i64)))⟩, ⟨.c 4294988496 14, 18446884823787841636, 55, (.pair (.int .i64) (.pair (.int .i64) (.pair (.int .i64) (.pair (.int .i64) (.int .i64)))))⟩, ⟨.c 4294988496 15, 18446884823787841637, 65, (.pair (.int .i64) (.pair (.int .i64) (.int .i64)))⟩]⟩
noncomputable def l12_63_1_0 : LSum := ⟨8, 63, s12_63_1_0, 0, o12_63_1_0, q12_63_1_0, u12_63_1_0, false, none⟩
abbrev s12_16 : LShape := ⟨237, [(2, .fix (.ptr 4294967296 0)), (8, .fix (.ptr 4294988496 0)), (12, .cont (.int .i64)), (14, .cont (.int .i64)), (16, .cont (.int .i64)), (182, .cont (.int .i64)), (183, .int .i64), (184, .int .i64)], [], [(4294967296, .box 32 [.int .i64, .int .i64, .int .i64, .int .i64, .int .i64, .int .i64, .int .i64, .int .i64, .int .i64, .int .i64, .int .i64, .bool, .int .i64, .fix (.sl 8294968320 0), .fix (.sl 8294968321 0), .fix (.sl 8294968322 0)]), (4294988496, .box 32 [.int .i64, .int .i64, .int .i64, .int .i64, .int .i64, .int .i64, .int .i64, .int .i64, .int .i64, .int .i64, .int .i64, .bool, .int .i64, .fix (.sl 8294968323 0), .fix (.sl 8294968324 0), .fix (.sl 8294968325 0)])], [⟨.c 4294967296 13, 8294968320, 80, (.pair (.int .i64) (.pair (.int .i64) (.int .i64)))⟩, ⟨.c 4294967296 14, 8294968321, 55, (.pair (.int .i64) (.pair (.int .i64) (.pair (.int .i64) (.pair (.int .i64) (.int .i64)))))⟩, ⟨.c 4294967296 15, 8294968322, 65, (.pair (.int .i64) (.pair (.int .i64) (.int .i64)))⟩, ⟨.c 4294988496 13, 8294968323, 80, (.pair (.int .i64) (.pair (.int .i64) (.int .i64)))⟩, ⟨.c 4294988496 14, 8294968324, 55, (.pair (.int .i64) (.pair (.int .i64) (.pair (.int .i64) (.pair (.int .i64) (.int .i64)))))⟩, ⟨.c 4294988496 15, 8294968325, 65, (.pair (.int .i64) (.pair (.int .i64) (.int .i64)))⟩]⟩
abbrev o12_16 : LShape := ⟨237, [(2, .fix (.ptr 4294967296 0)), (8, .fix (.ptr 4294988496 0)), (14, .cont (.int .i64)), (16, .cont (.int .i64))], [], [(4294967296, .box 32 [.int .i64, .int .i64, .int .i64, .int .i64, .int .i64, .int .i64, .int .i64, .int .i64, .int .i64, .int .i64, .int .i64, .bool, .int .i64, .fix (.sl 8294968352 0), .fix (.sl 8294968353 0), .fix (.sl 8294968354 0)]), (4294988496, .box 32 [.int .i64, .int .i64, .int .i64, .int .i64, .int .i64, .int .i64, .int .i64, .int .i64, .int .i64, .int .i64, .int .i64, .bool, .int .i64, .fix (.sl 8294968355 0), .fix (.sl 8294968356 0), .fix (.sl 8294968357 0)])], [⟨.c 4294967296 13, 8294968352, 80, (.pair (.int .i64) (.pair (.int .i64) (.int .i64)))⟩, ⟨.c 4294967296 14, 8294968353, 55, (.pair (.int .i64) (.pair (.int .i64) (.pair (.int .i64) (.pair (.int .i64) (.int .i64)))))⟩, ⟨.c 4294967296 15, 8294968354, 65, (.pair (.int .i64) (.pair (.int .i64) (.int .i64)))⟩, ⟨.c 4294988496 13, 8294968355, 80, (.pair (.int .i64) (.pair (.int .i64) (.int .i64)))⟩, ⟨.c 4294988496 14, 8294968356, 55, (.pair (.int .i64) (.pair (.int .i64) (.pair (.int .i64) (.pair (.int .i64) (.int .i64)))))⟩, ⟨.c 4294988496 15, 8294968357, 65, (.pair (.int .i64) (.pair (.int .i64) (.int .i64)))⟩]⟩
abbrev q12_16 : LShape := ⟨237, [], [], [], []⟩
noncomputable def l12_16 : LSum := ⟨9, 12, s12_16, 2, o12_16, q12_16, u12_16, false, none⟩
abbrev s12_22 : LShape := ⟨237, [(2, .fix (.ptr 4294967296 0)), (8, .fix (.ptr 4294988496 0)), (16, .cont (.int .i64)), (210, .cont (.int .i64)), (211, .int .i64), (212, .int .i64)], [], [(4294967296, .box 32 [.int .i64, .int .i64, .int .i64, .int .i64, .int .i64, .int .i64, .int .i64, .int .i64, .int .i64, .int .i64, .int .i64, .bool, .int .i64, .fix (.sl 8294968704 0), .fix (.sl 8294968705 0), .fix (.sl 8294968706 0)]), (4294988496, .box 32 [.int .i64, .int .i64, .int .i64, .int .i64, .int .i64, .int .i64, .int .i64, .int .i64, .int .i64, .int .i64, .int .i64, .bool, .int .i64, .fix (.sl 8294968707 0), .fix (.sl 8294968708 0), .fix (.sl 8294968709 0)])], [⟨.c 4294967296 13, 8294968704, 80, (.pair (.int .i64) (.pair (.int .i64) (.int .i64)))⟩, ⟨.c 4294967296 14, 8294968705, 55, (.pair (.int .i64) (.pair (.int .i64) (.pair (.int .i64) (.pair (.int .i64) (.int .i64)))))⟩, ⟨.c 4294967296 15, 8294968706, 65, (.pair (.int .i64) (.pair (.int .i64) (.int .i64)))⟩, ⟨.c 4294988496 13, 8294968707, 80, (.pair (.int .i64) (.pair (.int .i64) (.int .i64)))⟩, ⟨.c 4294988496 14, 8294968708, 55, (.pair (.int .i64) (.pair (.int .i64) (.pair (.int .i64) (.pair (.int .i64) (.int .i64)))))⟩, ⟨.c 4294988496 15, 8294968709, 65, (.pair (.int .i64) (.pair (.int .i64) (.int .i64)))⟩]⟩
abbrev o12_22 : LShape := ⟨237, [(2, .fix (.ptr 4294967296 0)), (8, .fix (.ptr 4294988496 0))], [], [(4294967296, .box 32 [.int .i64, .int .i64, .int .i64, .int .i64, .int .i64, .int .i64, .int .i64, .int .i64, .int .i64, .int .i64, .int .i64, .bool, .int .i64, .fix (.sl 8294968736 0), .fix (.sl 8294968737 0), .fix (.sl 8294968738 0)]), (4294988496, .box 32 [.int .i64, .int .i64, .int .i64, .int .i64, .int .i64, .int .i64, .int .i64, .int .i64, .int .i64, .int .i64, .int .i64, .bool, .int .i64, .fix (.sl 8294968739 0), .fix (.sl 8294968740 0), .fix (.sl 8294968741 0)])], [⟨.c 4294967296 13, 8294968736, 80, (.pair (.int .i64) (.pair (.int .i64) (.int .i64)))⟩, ⟨.c 4294967296 14, 8294968737, 55, (.pair (.int .i64) (.pair (.int .i64) (.pair (.int .i64) (.pair (.int .i64) (.int .i64)))))⟩, ⟨.c 4294967296 15, 8294968738, 65, (.pair (.int .i64) (.pair (.int .i64) (.int .i64)))⟩, ⟨.c 4294988496 13, 8294968739, 80, (.pair (.int .i64) (.pair (.int .i64) (.int .i64)))⟩, ⟨.c 4294988496 14, 8294968740, 55, (.pair (.int .i64) (.pair (.int .i64) (.pair (.int .i64) (.pair (.int .i64) (.int .i64)))))⟩, ⟨.c 4294988496 15, 8294968741, 65, (.pair (.int .i64) (.pair (.int .i64) (.int .i64)))⟩]⟩
abbrev q12_22 : LShape := ⟨237, [], [], [], []⟩
noncomputable def l12_22 : LSum := ⟨9, 12, s12_22, 4, o12_22, q12_22, u12_22, false, none⟩
noncomputable abbrev S12 : List (Nat × Nat × LSum) := [(18446884819787841536, 1, l12_63_1_0), (4294967296, 16, l12_16), (4294967296, 22, l12_22)]
noncomputable def con12 : Con := ⟨ps12, rs12, fun x => f12 x.1⟩
theorem r12_63_1_0 : Round Go.Proofs.Tryz.prog C12 (lookS S12) big 18446884819787841536 1 l12_63_1_0 := ⟨by kernel_rfl, fun z => by kernel_rfl⟩
theorem r12_16 : Round Go.Proofs.Tryz.prog C12 (lookS S12) big 4294967296 16 l12_16 := ⟨by kernel_rfl, fun z => by kernel_rfl⟩
theorem r12_22 : Round Go.Proofs.Tryz.prog C12 (lookS S12) big 4294967296 22 l12_22 := ⟨by kernel_rfl, fun z => by kernel_rfl⟩
theorem e12 (x : Args ps12) : kTop Go.Proofs.Tryz.prog C12 (lookS S12) big 10 12 ps12 rs12 x = con12.f x := by kernel_rfl
theorem ok12 [Glob] [RngG Go.Proofs.Tryz.prog] (h : AllOK Go.Proofs.Tryz.prog L12) (h' : AllU Go.Proofs.Tryz.prog U12) : con12.OK Go.Proofs.Tryz.prog 12 := con_of_tree (lookC_ok h h') (rounds_of (l := S12) ⟨r12_63_1_0, r12_16, r12_22, trivial⟩) e12
abbrev ps66 : List Ty := [.row (.pair (.int .i64) (.pair (.int .i64) (.int .i64))), .row (.pair (.int .i64) (.pair (.int .i64) (.int .i64)))]
abbrev rs66 : List RTy := [.val (.bool)]
noncomputable abbrev L66 : List (Nat × Con) := []
noncomputable abbrev U66 : List (Nat × UCon) := []
noncomputable abbrev C66 : Cons := lookC L66 U66
abbrev s66_4 : LShape := ⟨26, [(0, .cont (.pair (.int .i64) (.pair (.int .i64) (.int .i64)))), (1, .cont (.pair (.int .i64) (.pair (.int .i64) (.int .i64)))), (12, .int .i64), (13, .int .i64)], [], [], []⟩
abbrev o66_4 : LShape := ⟨26, [], [], [], []⟩
abbrev q66_4 : LShape := ⟨26, [(4, .bool)], [], [], []⟩
noncomputable def l66_4 : LSum := ⟨9, 66, s66_4, 0, o66_4, q66_4, u66_4, false, none⟩
noncomputable abbrev S66 : List (Nat × Nat × LSum) := [(4294967296, 4, l66_4)]
noncomputable def con66 : Con := ⟨ps66, rs66, fun x => f66 x.1 x.2.1⟩
theorem r66_4 : Round Go.Proofs.Tryz.prog C66 (lookS S66) big 4294967296 4 l66_4 := ⟨by kernel_rfl, fun z => by kernel_rfl⟩
theorem e66 (x : Args ps66) : kTop Go.Proofs.Tryz.prog C66 (lookS S66) big 10 66 ps66 rs66 x = con66.f x := by kernel_rfl
theorem ok66 [Glob] [RngG Go.Proofs.Tryz.prog] (h : AllOK Go.Proofs.Tryz.prog L66) (h' : AllU Go.Proofs.Tryz.prog U66) : con66.OK Go.Proofs.Tryz.prog 66 := con_of_tree (lookC_ok h h') (rounds_of (l := S66) ⟨r66_4, trivial⟩) e66
abbrev ps35 : List Ty := [.row (.pair (.int .i64) (.pair (.int .i64) (.int .i64))), .row (.pair (.int .i64) (.pair (.int .i64) (.int .i64)))]
abbrev rs35 : List RTy := [.val (.bool)]
noncomputable abbrev L35 : List (Nat × Con) := [(66, con66)]
noncomputable abbrev U35 : List (Nat × UCon) := []
noncomputable abbrev C35 : Cons := lookC L35 U35
noncomputable abbrev S35 : List (Nat × Nat × LSum) := []
noncomputable def con35 : Con := ⟨ps35, rs35, fun x => f35 x.1 x.2.1⟩
theorem e35 (x : Args ps35) : kTop Go.Proofs.Tryz.prog C35 (lookS S35) big 10 35 ps35 rs35 x = con35.f x := by kernel_rfl
theorem ok35 [Glob] [RngG Go.Proofs.Tryz.prog] (h : AllOK Go.Proofs.Tryz.prog L35) (h' : AllU Go.Proofs.Tryz.prog U35) : con35.OK Go.Proofs.Tryz.prog 35 := con_of_tree (lookC_ok h h') (rounds_of (l := S35) trivial) e35
abbrev ps67 : List Ty := [.row (.pair (.int .i64) (.pair (.int .i64) (.pair (.int .i64) (.pair (.int .i64) (.int .i64))))), .row (.pair (.int .i64) (.pair (.int .i64) (.pair (.int .i64) (.pair (.int .i64) (.int .i64)))))]
abbrev rs67 : List RTy := [.val (.bool)]
noncomputable abbrev L67 : List (Nat × Con) := []
noncomputable abbrev U67 : List (Nat × UCon) := []
noncomputable abbrev C67 : Cons := lookC L67 U67
abbrev s67_4 : LShape := ⟨26, [(0, .cont (.pair (.int .i64) (.pair (.int .i64) (.pair (.int .i64) (.pair (.int .i64) (.int .i64)))))), (1, .cont (.pair (.int .i64) (.pair (.int .i64) (.pair (.int .i64) (.pair (.int .i64) (.int .i64)))))), (12, .int .i64), (13, .int .i64)], [], [], []⟩
abbrev o67_4 : LShape := ⟨26, [], [], [], []⟩
abbrev q67_4 : LShape := ⟨26, [(4, .bool)], [], [], []⟩
noncomputable def l67_4 : LSum := ⟨9, 67, s67_4, 0, o67_4, q67_4, u67_4, false, none⟩
noncomputable abbrev S67 : List (Nat × Nat × LSum) := [(4294967296, 4, l67_4)]
noncomputable def con67 : Con := ⟨ps67, rs67, fun x => f67 x.1 x.2.1⟩
theorem r67_4 : Round Go.Proofs.Tryz.prog C67 (lookS S67) big 4294967296 4 l67_4 := ⟨by kernel_rfl, fun z => by kernel_rfl⟩
theorem e67 (x : Args ps67) : kTop Go.Proofs.Tryz.prog C67 (lookS S67) big 10 67 ps67 rs67 x = con67.f x := by kernel_rfl
theorem ok67 [Glob] [RngG Go.Proofs.Tryz.prog] (h : AllOK Go.Proofs.Tryz.prog L67) (h' : AllU Go.Proofs.Tryz.prog U67) : con67.OK Go.Proofs.Tryz.prog 67 := con_of_tree (lookC_ok h h') (rounds_of (l := S67) ⟨r67_4, trivial⟩) e67
abbrev ps36 : List Ty := [.row (.pair (.int .i64) (.pair (.int .i64) (.pair (.int .i64) (.pair (.int .i64) (.int .i64))))), .row (.pair (.int .i64) (.pair (.int .i64) (.pair (.int .i64) (.pair (.int .i64) (.int .i64)))))]
abbrev rs36 : List RTy := [.val (.bool)]
noncomputable abbrev L36 : List (Nat × Con) := [(67, con67)]
noncomputable abbrev U36 : List (Nat × UCon) := []
noncomputable abbrev C36 : Cons := lookC L36 U36
noncomputable abbrev S36 : List (Nat × Nat × LSum) := []
noncomputable def con36 : Con := ⟨ps36, rs36, fun x => f36 x.1 x.2.1⟩
theorem e36 (x : Args ps36) : kTop Go.Proofs.Tryz.prog C36 (lookS S36) big 10 36 ps36 rs36 x = con36.f x := by kernel_rfl
theorem ok36 [Glob] [RngG Go.Proofs.Tryz.prog] (h : AllOK Go.Proofs.Tryz.prog L36) (h' : AllU Go.Proofs.Tryz.prog U36) : con36.OK Go.Proofs.Tryz.prog 36 := con_of_tree (lookC_ok h h') (rounds_of (l := S36) trivial) e36
abbrev ps68 : List Ty := [.row (.pair (.int .i64) (.pair (.int .i64) (.int .i64))), .row (.pair (.int .i64) (.pair (.int .i64) (.int .i64)))]
abbrev rs68 : List RTy := [.val (.bool)]
noncomputable abbrev L68 : List (Nat × Con) := []
noncomputable abbrev U68 : List (Nat × UCon) := []
noncomputable abbrev C68 : Cons := lookC L68 U68
abbrev s68_4 : LShape := ⟨26, [(0, .cont (.pair (.int .i64) (.pair (.int .i64) (.int .i64)))), (1, .cont (.pair (.int .i64) (.pair (.int .i64) (.int .i64)))), (12, .int .i64), (13, .int .i64)], [], [], []⟩
abbrev o68_4 : LShape := ⟨26, [], [], [], []⟩
abbrev q68_4 : LShape := ⟨26, [(4, .bool)], [], [], []⟩
noncomputable def l68_4 : LSum := ⟨9, 68, s68_4, 0, o68_4, q68_4, u68_4, false, none⟩
noncomputable abbrev S68 : List (Nat × Nat × LSum) := [(4294967296, 4, l68_4)]
noncomputable def con68 : Con := ⟨ps68, rs68, fun x => f68 x.1 x.2.1⟩
theorem r68_4 : Round Go.Proofs.Tryz.prog C68 (lookS S68) big 4294967296 4 l68_4 := ⟨by kernel_rfl, fun z => by kernel_rfl⟩
theorem e68 (x : Args ps68) : kTop Go.Proofs.Tryz.prog C68 (lookS S68) big 10 68 ps68 rs68 x = con68.f x := by kernel_rfl
theorem ok68 [Glob] [RngG Go.Proofs.Tryz.prog] (h : AllOK Go.Proofs.Tryz.prog L68) (h' : AllU Go.Proofs.Tryz.prog U68) : con68.OK Go.Proofs.Tryz.prog 68 := con_of_tree (lookC_ok h h') (rounds_of (l := S68) ⟨r68_4, trivial⟩) e68
abbrev ps37 : List Ty := [.row (.pair (.int .i64) (.pair (.int .i64) (.int .i64))), .row (.pair (.int .i64) (.pair (.int .i64) (.int .i64)))]
abbrev rs37 : List RTy := [.val (.bool)]
noncomputable abbrev L37 : List (Nat × Con) := [(68, con68)]
noncomputable abbrev U37 : List (Nat × UCon) := []
noncomputable abbrev C37 : Cons := lookC L37 U37
noncomputable abbrev S37 : List (Nat × Nat × LSum) := []
noncomputable def con37 : Con := ⟨ps37, rs37, fun x => f37 x.1 x.2.1⟩
theorem e37 (x : Args ps37) : kTop Go.Proofs.Tryz.prog C37 (lookS S37) big 10 37 ps37 rs37 x = con37.f x := by kernel_rfl
theorem ok37 [Glob] [RngG Go.Proofs.Tryz.prog] (h : AllOK Go.Proofs.Tryz.prog L37) (h' : AllU Go.Proofs.Tryz.prog U37) : con37.OK Go.Proofs.Tryz.prog 37 := con_of_tree (lookC_ok h h') (rounds_of (l := S37) trivial) e37
abbrev ps13 : List Ty := [.pair (.pair (.pair (.int .i64) (.int .i64)) (.pair (.pair (.int .i64) (.int .i64)) (.pair (.int .i64) (.pair (.int .i64) (.pair (.int .i64) (.int .i64)))))) (.pair (.pair (.int .i64) (.pair (.int .i64) (.pair (.int .i64) (.bool)))) (.pair (.int .i64) (.pair (.row (.pair (.int .i64) (.pair (.int .i64) (.int .i64)))) (.pair (.row (.pair (.int .i64) (.pair (.int .i64) (.pair (.int .i64) (.pair (.int .i64) (.int .i64)))))) (.row (.pair (.int .i64) (.pair (.int .i64) (.int .i64)))))))), .pair (.pair (.pair (.int .i64) (.int .i64)) (.pair (.pair (.int .i64) (.int .i64)) (.pair (.int .i64) (.pair (.int .i64) (.pair (.int .i64) (.int .i64)))))) (.pair (.pair (.int .i64) (.pair (.int .i64) (.pair (.int .i64) (.bool)))) (.pair (.int .i64) (.pair (.row (.pair (.int .i64) (.pair (.int .i64) (.int .i64)))) (.pair (.row (.pair (.int .i64) (.pair (.int .i64) (.pair (.int .i64) (.pair (.int .i64) (.int .i64)))))) (.row (.pair (.int .i64) (.pair (.int .i64) (.int .i64))))))))]
abbrev rs13 : List RTy := [.val (.bool)]
noncomputable abbrev L13 : List (Nat × Con) := [(35, con35), (36, con36), (37, con37)]
noncomputable abbrev U13 : List (Nat × UCon) := []
noncomputable abbrev C13 : Cons := lookC L13 U13
noncomputable abbrev S13 : List (Nat × Nat × LSum) := []
noncomputable def con13 : Con := ⟨ps13, rs13, fun x => f13 x.1.1.1.1 x.1.1.1.2 x.1.1.2.1.1 x.1.1.2.1.2 x.1.1.2.2.1 x.1.1.2.2.2.1 x.1.1.2.2.2.2.1 x.1.1.2.2.2.2.2 x.1.2.1.1 x.1.2.1.2.1 x.1.2.1.2.2.1 x.1.2.1.2.2.2 x.1.2.2.1 x.1.2.2.2.1 x.1.2.2.2.2.1 x.1.2.2.2.2.2 x.2.1.1.1.1 x.2.1.1.1.2 x.2.1.1.2.1.1 x.2.1.1.2.1.2 x.2.1.1.2.2.1 x.2.1.1.2.2.2.1 x.2.1.1.2.2.2.2.1 x.2.1.1.2.2.2.2.2 x.2.1.2.1.1 x.2.1.2.1.2.1 x.2.1.2.1.2.2.1 x.2.1.2.1.2.2.2 x.2.1.2.2.1 x.2.1.2.2.2.1 x.2.1.2.2.2.2.1 x.2.1.2.2.2.2.2⟩
theorem e13 (x : Args ps13) : kTop Go.Proofs.Tryz.prog C13 (lookS S13) big 10 13 ps13 rs13 x = con13.f x := by kernel_rfl
theorem ok13 [Glob] [RngG Go.Proofs.Tryz.prog] (h : AllOK Go.Proofs.Tryz.prog L13) (h' : AllU Go.Proofs.Tryz.prog U13) : con13.OK Go.Proofs.Tryz.prog 13 := con_of_tree (lookC_ok h h') (rounds_of (l := S13) trivial) e13
abbrev ps90 : List Ty := [.int .i64, .int .i64, .int .i64]
abbrev rs90 : List RTy := [.val (.bool)]
noncomputable abbrev L90 : List (Nat × Con) := []
noncomputable abbrev U90 : List (Nat × UCon) := []
noncomputable abbrev C90 : Cons := lookC L90 U90
noncomputable abbrev S90 : List (Nat × Nat × LSum) := []
noncomputable def con90 : Con := ⟨ps90, rs90, fun x => f90 x.1 x.2.1 x.2.2.1⟩
theorem e90 (x : Args ps90) : kTop Go.Proofs.Tryz.prog C90 (lookS S90) big 10 90 ps90 rs90 x = con90.f x := by kernel_rfl
theorem ok90 [Glob] [RngG Go.Proofs.Tryz.prog] (h : AllOK Go.Proofs.Tryz.prog L90) (h' : AllU Go.Proofs.Tryz.prog U90) : con90.OK Go.Proofs.Tryz.prog 90 := con_of_tree (lookC_ok h h') (rounds_of (l := S90) trivial) e90
abbrev ps45 : List Ty := [.pair (.int .i64) (.pair (.int .i64) (.pair (.int .i64) (.pair (.int .i64) (.pair (.int .i64) (.pair (.int .i64) (.pair (.int .i64) (.pair (.int .i64) (.bool))))))))]
abbrev rs45 : List RTy := [.val (.bool)]
noncomputable abbrev L45 : List (Nat × Con) := [(39, con39), (90, con90)]
noncomputable abbrev U45 : List (Nat × UCon) := []
noncomputable abbrev C45 : Cons := lookC L45 U45
noncomputable abbrev S45 : List (Nat × Nat × LSum) := []
noncomputable def con45 : Con := ⟨ps45, rs45, fun x => f45 x.1.1 x.1.2.1 x.1.2.2.1 x.1.2.2.2.1 x.1.2.2.2.2.1 x.1.2.2.2.2.2.1 x.1.2.2.2.2.2.2.1 x.1.2.2.2.2.2.2.2.1 x.1.2.2.2.2.2.2.2.2⟩
theorem e45 (x : Args ps45) : kTop Go.Proofs.Tryz.prog C45 (lookS S45) big 10 45 ps45 rs45 x = con45.f x := by kernel_rfl
theorem ok45 [Glob] [RngG Go.Proofs.Tryz.prog] (h : AllOK Go.Proofs.Tryz.prog L45) (h' : AllU Go.Proofs.Tryz.prog U45) : con45.OK Go.Proofs.Tryz.prog 45 := con_of_tree (lookC_ok h h') (rounds_of (l := S45) trivial) e45
abbrev ps142 : List Ty := [.row (.int .i64)]
abbrev rs142 : List RTy := [.val (.int .i64)]
noncomputable abbrev L142 : List (Nat × Con) := []
noncomputable abbrev U142 : List (Nat × UCon) := []
noncomputable abbrev C142 : Cons := lookC L142 U142
abbrev s142_3 : LShape := ⟨18, [(3, .int .i64), (6, .cont (.int .i64)), (7, .int .i64), (8, .int .i64)], [], [], []⟩
abbrev o142_3 : LShape := ⟨18, [(3, .int .i64)], [], [], []⟩
abbrev q142_3 : LShape := ⟨18, [(2, .int .i64)], [], [], []⟩
noncomputable def l142_3 : LSum := ⟨9, 142, s142_3, 0, o142_3, q142_3, u142_3, false, none⟩
noncomputable abbrev S142 : List (Nat × Nat × LSum) := [(4294967296, 3, l142_3)]
noncomputable def con142 : Con := ⟨ps142, rs142, fun x => f142 x.1⟩
theorem r142_3 : Round Go.Proofs.Tryz.prog C142 (lookS S142) big 4294967296 3 l142_3 := ⟨by kernel_rfl, fun z => by kernel_rfl⟩
theorem e142 (x : Args ps142) : kTop Go.Proofs.Tryz.prog C142 (lookS S142) big 10 142 ps142 rs142 x = con142.f x := by kernel_rfl
theorem ok142 [Glob] [RngG Go.Proofs.Tryz.prog] (h : AllOK Go.Proofs.Tryz.prog L142) (h' : AllU Go.Proofs.Tryz.prog U142) : con142.OK Go.Proofs.Tryz.prog 142 := con_of_tree (lookC_ok h h') (rounds_of (l := S142) ⟨r142_3, trivial⟩) e142
abbrev ps160 : List Ty := [.int .i64]
abbrev rs160 : List RTy := [.val (.bool)]
noncomputable abbrev L160 : List (Nat × Con) := []
noncomputable abbrev U160 : List (Nat × UCon) := []
noncomputable abbrev C160 : Cons := lookC L160 U160
noncomputable abbrev S160 : List (Nat × Nat × LSum) := []
noncomputable def con160 : Con := ⟨ps160, rs160, fun x => f160 x.1⟩
theorem e160 (x : Args ps160) : kTop Go.Proofs.Tryz.prog C160 (lookS S160) big 10 160 ps160 rs160 x = con160.f x := by kernel_rfl
theorem ok160 [Glob] [RngG Go.Proofs.Tryz.prog] (h : AllOK Go.Proofs.Tryz.prog L160) (h' : AllU Go.Proofs.Tryz.prog U160) : con160.OK Go.Proofs.Tryz.prog 160 := con_of_tree (lookC_ok h h') (rounds_of (l := S160) trivial) e160
abbrev ps143 : List Ty := [.int .i64, .int .i64]
abbrev rs143 : List RTy := [.val (.int .i64)]
noncomputable abbrev L143 : List (Nat × Con) := [(160, con160)]
noncomputable abbrev U143 : List (Nat × UCon) := []
noncomputable abbrev C143 : Cons := lookC L143 U143
noncomputable abbrev S143 : List (Nat × Nat × LSum) := []
noncomputable def con143 : Con := ⟨ps143, rs143, fun x => f143 x.1 x.2.1⟩
theorem e143 (x : Args ps143) : kTop Go.Proofs.Tryz.prog C143 (lookS S143) big 10 143 ps143 rs143 x = con143.f x := by kernel_rfl
theorem ok143 [Glob] [RngG Go.Proofs.Tryz.prog] (h : AllOK Go.Proofs.Tryz.prog L143) (h' : AllU Go.Proofs.Tryz.prog U143) : con143.OK Go.Proofs.Tryz.prog 143 := con_of_tree (lookC_ok h h') (rounds_of (l := S143) trivial) e143
abbrev ps132 : List Ty := [.pair (.int .i64) (.int .i64), .pair (.int .i64) (.int .i64)]
abbrev rs132 : List RTy := [.val (.int .i64)]
noncomputable abbrev L132 : List (Nat × Con) := [(142, con142), (143, con143)]
noncomputable abbrev U132 : List (Nat × UCon) := []
noncomputable abbrev C132 : Cons := lookC L132 U132
noncomputable abbrev S132 : List (Nat × Nat × LSum) := []
noncomputable def con132 : Con := ⟨ps132, rs132, fun x => f132 x.1.1 x.1.2 x.2.1.1 x.2.1.2⟩
theorem e132 (x : Args ps132) : kTop Go.Proofs.Tryz.prog C132 (lookS S132) big 10 132 ps132 rs132 x = con132.f x := by kernel_rfl
theorem ok132 [Glob] [RngG Go.Proofs.Tryz.prog] (h : AllOK Go.Proofs.Tryz.prog L132) (h' : AllU Go.Proofs.Tryz.prog U132) : con132.OK Go.Proofs.Tryz.prog 132 := con_of_tree (lookC_ok h h') (rounds_of (l := S132) trivial) e132
abbrev ps120 : List Ty := [.row (.pair (.int .i64) (.pair (.int .i64) (.pair (.int .i64) (.pair (.int .i64) (.int .i64))))), .pair (.int .i64) (.int .i64), .fnc 108]
abbrev rs120 : List RTy := [.val (.int .i64)]
noncomputable abbrev L120 : List (Nat × Con) := [(108, con108), (132, con132)]
noncomputable abbrev U120 : List (Nat × UCon) := []
noncomputable abbrev C120 : Cons := lookC L120 U120
abbrev s120_52_2_0 : LShape := ⟨19, [(0, .cont (.pair (.int .i64) (.pair (.int .i64) (.pair (.int .i64) (.pair (.int .i64) (.int .i64)))))), (1, .fix (.fn (.func 131) [] [(.ptr 4294967312 0), (.ptr 4294967296 0)])), (7, .int .i64), (8, .int .i64)], [(4294967296, .box 143 [.int .i64, .int .i64]), (4294967312, .box 144 [.fix (.fn (.func 108) [] [])])], [], []⟩
abbrev o120_52_2_0 : LShape := ⟨19, [], [(4294967296, .box 143 [.int .i64, .int .i64]), (4294967312, .box 144 [.fix (.fn (.func 108) [] [])])], [], []⟩
abbrev q120_52_2_0 : LShape := ⟨19, [(4, .int .i64)], [(4294967296, .box 143 [.int .i64, .int .i64]), (4294967312, .box 144 [.fix (.fn (.func 108) [] [])])], [], []⟩
noncomputable def l120_52_2_0 : LSum := ⟨8, 52, s120_52_2_0, 0, o120_52_2_0, q120_52_2_0, u120_52_2_0, false, none⟩
noncomputable abbrev S120 : List (Nat × Nat × LSum) := [(18446761807629516800, 2, l120_52_2_0)]
noncomputable def con120 : Con := ⟨ps120, rs120, fun x => f120 x.1 x.2.1.1 x.2.1.2⟩
theorem r120_52_2_0 : Round Go.Proofs.Tryz.prog C120 (lookS S120) big 18446761807629516800 2 l120_52_2_0 := ⟨by kernel_rfl, fun z => by kernel_rfl⟩
theorem e120 (x : Args ps120) : kTop Go.Proofs.Tryz.prog C120 (lookS S120) big 10 120 ps120 rs120 x = con120.f x := by kernel_rfl
theorem ok120 [Glob] [RngG Go.Proofs.Tryz.prog] (h : AllOK Go.Proofs.Tryz.prog L120) (h' : AllU Go.Proofs.Tryz.prog U120) : con120.OK Go.Proofs.Tryz.prog 120 := con_of_tree (lookC_ok h h') (rounds_of (l := S120) ⟨r120_52_2_0, trivial⟩) e120
abbrev ps109 : List Ty := [.row (.pair (.int .i64) (.pair (.int .i64) (.pair (.int .i64) (.pair (.int .i64) (.int .i64))))), .pair (.int .i64) (.pair (.int .i64) (.pair (.int .i64) (.pair (.int .i64) (.int .i64))))]
abbrev rs109 : List RTy := [.val (.row (.pair (.int .i64) (.pair (.int .i64) (.pair (.int .i64) (.pair (.int .i64) (.int .i64)))))), .val (.bool)]
noncomputable abbrev L109 : List (Nat × Con) := [(48, conCLease), (89, con89), (108, con108), (120, con120)]
noncomputable abbrev U109 : List (Nat × UCon) := [(119, uILease)]
noncomputable abbrev C109 : Cons := lookC L109 U109
noncomputable abbrev S109 : List (Nat × Nat × LSum) := []
noncomputable def con109 : Con := ⟨ps109, rs109, fun x => f109 x.1 x.2.1.1 x.2.1.2.1 x.2.1.2.2.1 x.2.1.2.2.2.1 x.2.1.2.2.2.2⟩
theorem e109 (x : Args ps109) : kTop Go.Proofs.Tryz.prog C109 (lookS S109) big 10 109 ps109 rs109 x = con109.f x := by kernel_rfl
theorem ok109 [Glob] [RngG Go.Proofs.Tryz.prog] (h : AllOK Go.Proofs.Tryz.prog L109) (h' : AllU Go.Proofs.Tryz.prog U109) : con109.OK Go.Proofs.Tryz.prog 109 := con_of_tree (lookC_ok h h') (rounds_of (l := S109) trivial) e109
abbrev ps110 : List Ty := [.row (.pair (.int .i64) (.pair (.int .i64) (.pair (.int .i64) (.pair (.int .i64) (.int .i64))))), .int .i64, .int .i64]
abbrev rs110 : List RTy := [.val (.row (.pair (.int .i64) (.pair (.int .i64) (.pair (.int .i64) (.pair (.int .i64) (.int .i64)))))), .val (.bool)]
noncomputable abbrev L110 : List (Nat × Con) := [(48, conCLease), (89, con89)]
noncomputable abbrev U110 : List (Nat × UCon) := []
noncomputable abbrev C110 : Cons := lookC L110 U110
noncomputable abbrev S110 : List (Nat × Nat × LSum) := []
noncomputable def con110 : Con := ⟨ps110, rs110, fun x => f110 x.1 x.2.1 x.2.2.1⟩
theorem e110 (x : Args ps110) : kTop Go.Proofs.Tryz.prog C110 (lookS S110) big 10 110 ps110 rs110 x = con110.f x := by kernel_rfl
theorem ok110 [Glob] [RngG Go.Proofs.Tryz.prog] (h : AllOK Go.Proofs.Tryz.prog L110) (h' : AllU Go.Proofs.Tryz.prog U110) : con110.OK Go.Proofs.Tryz.prog 110 := con_of_tree (lookC_ok h h') (rounds_of (l := S110) trivial) e110
abbrev ps133 : List Ty := [.pair (.int .i64) (.pair (.int .i64) (.int .i64))]
abbrev rs133 : List RTy := [.val (.pair (.pair (.int .i64) (.int .i64)) (.pair (.int .i64) (.pair (.int .i64) (.int .i64))))]
noncomputable abbrev L133 : List (Nat × Con) := []
noncomputable abbrev U133 : List (Nat × UCon) := []
noncomputable abbrev C133 : Cons := lookC L133 U133
noncomputable abbrev S133 : List (Nat × Nat × LSum) := []
noncomputable def con133 : Con := ⟨ps133, rs133, fun x => f133 x.1.1 x.1.2.1 x.1.2.2⟩
theorem e133 (x : Args ps133) : kTop Go.Proofs.Tryz.prog C133 (lookS S133) big 10 133 ps133 rs133 x = con133.f x := by kernel_rfl
theorem ok133 [Glob] [RngG Go.Proofs.Tryz.prog] (h : AllOK Go.Proofs.Tryz.prog L133) (h' : AllU Go.Proofs.Tryz.prog U133) : con133.OK Go.Proofs.Tryz.prog 133 := con_of_tree (lookC_ok h h') (rounds_of (l := S133) trivial) e133
abbrev ps123 : List Ty := [.pair (.int .i64) (.pair (.int .i64) (.int .i64))]
abbrev rs123 : List RTy := [.val (.pair (.int .i64) (.int .i64))]
noncomputable abbrev L123 : List (Nat × Con) := [(133, con133)]
noncomputable abbrev U123 : List (Nat × UCon) := []
noncomputable abbrev C123 : Cons := lookC L123 U123
noncomputable abbrev S123 : List (Nat × Nat × LSum) := []
noncomputable def con123 : Con := ⟨ps123, rs123, fun x => f123 x.1.1 x.1.2.1 x.1.2.2⟩
theorem e123 (x : Args ps123) : kTop Go.Proofs.Tryz.prog C123 (lookS S123) big 10 123 ps123 rs123 x = con123.f x := by kernel_rfl
theorem ok123 [Glob] [RngG Go.Proofs.Tryz.prog] (h : AllOK Go.Proofs.Tryz.prog L123) (h' : AllU Go.Proofs.Tryz.prog U123) : con123.OK Go.Proofs.Tryz.prog 123 := con_of_tree (lookC_ok h h') (rounds_of (l := S123) trivial) e123
abbrev ps125 : List Ty := [.row (.pair (.int .i64) (.pair (.int .i64) (.int .i64))), .pair (.int .i64) (.int .i64), .fnc 123]
abbrev rs125 : List RTy := [.val (.int .i64)]
noncomputable abbrev L125 : List (Nat × Con) := [(123, con123), (132, con132)]
noncomputable abbrev U125 : List (Nat × UCon) := []
noncomputable abbrev C125 : Cons := lookC L125 U125
abbrev s125_94_2_0 : LShape := ⟨19, [(0, .cont (.pair (.int .i64) (.pair (.int .i64) (.int .i64)))), (1, .fix (.fn (.func 136) [] [(.ptr 4294967312 0), (.ptr 4294967296 0)])), (7, .int .i64), (8, .int .i64)], [(4294967296, .box 143 [.int .i64, .int .i64]), (4294967312, .box 160 [.fix (.fn (.func 123) [] [])])], [], []⟩
abbrev o125_94_2_0 : LShape := ⟨19, [], [(4294967296, .box 143 [.int .i64, .int .i64]), (4294967312, .box 160 [.fix (.fn (.func 123) [] [])])], [], []⟩
abbrev q125_94_2_0 : LShape := ⟨19, [(4, .int .i64)], [(4294967296, .box 143 [.int .i64, .int .i64]), (4294967312, .box 160 [.fix (.fn (.func 123) [] [])])], [], []⟩
noncomputable def l125_94_2_0 : LSum := ⟨8, 94, s125_94_2_0, 0, o125_94_2_0, q125_94_2_0, u125_94_2_0, false, none⟩
noncomputable abbrev S125 : List (Nat × Nat × LSum) := [(18446761807629516800, 2, l125_94_2_0)]
noncomputable def con125 : Con := ⟨ps125, rs125, fun x => f125 x.1 x.2.1.1 x.2.1.2⟩
theorem r125_94_2_0 : Round Go.Proofs.Tryz.prog C125 (lookS S125) big 18446761807629516800 2 l125_94_2_0 := ⟨by kernel_rfl, fun z => by kernel_rfl⟩
theorem e125 (x : Args ps125) : kTop Go.Proofs.Tryz.prog C125 (lookS S125) big 10 125 ps125 rs125 x = con125.f x := by kernel_rfl
theorem ok125 [Glob] [RngG Go.Proofs.Tryz.prog] (h : AllOK Go.Proofs.Tryz.prog L125) (h' : AllU Go.Proofs.Tryz.prog U125) : con125.OK Go.Proofs.Tryz.prog 125 := con_of_tree (lookC_ok h h') (rounds_of (l := S125) ⟨r125_94_2_0, trivial⟩) e125
abbrev ps111 : List Ty := [.row (.pair (.int .i64) (.pair (.int .i64) (.int .i64))), .pair (.int .i64) (.pair (.int .i64) (.int .i64))]
abbrev rs111 : List RTy := [.val (.row (.pair (.int .i64) (.pair (.int .i64) (.int .i64))))]
noncomputable abbrev L111 : List (Nat × Con) := [(49, conCHeld), (123, con123), (125, con125)]
noncomputable abbrev U111 : List (Nat × UCon) := [(124, uIHeld)]
noncomputable abbrev C111 : Cons := lookC L111 U111
abbrev s111_94_2_0 : LShape := ⟨19, [(0, .fix (.sl 4294971408 0)), (1, .fix (.fn (.func 122) [] [(.ptr 4294967296 0)])), (7, .int .i64), (8, .int .i64)], [(4294967296, .box 65 [.int .i64, .int .i64, .int .i64]), (4294971408, .row 65 (.pair (.int .i64) (.pair (.int .i64) (.int .i64))) 0)], [], []⟩
abbrev o111_94_2_0 : LShape := ⟨19, [], [(4294967296, .box 65 [.int .i64, .int .i64, .int .i64]), (4294971408, .row 65 (.pair (.int .i64) (.pair (.int .i64) (.int .i64))) 0)], [], []⟩
abbrev q111_94_2_0 : LShape := ⟨19, [(4, .int .i64)], [(4294967296, .box 65 [.int .i64, .int .i64, .int .i64]), (4294971408, .row 65 (.pair (.int .i64) (.pair (.int .i64) (.int .i64))) 0)], [], []⟩
noncomputable def l111_94_2_0 : LSum := ⟨7, 94, s111_94_2_0, 0, o111_94_2_0, q111_94_2_0, u111_94_2_0, false, none⟩
abbrev s111_50_5_0 : LShape := ⟨42, [(0, .fix (.sl 4294971408 0)), (1, .fix (.fn (.func 122) [] [(.ptr 4294967296 0)])), (5, .int .i64), (6, .int .i64)], [(4294967296, .box 65 [.int .i64, .int .i64, .int .i64]), (4294971408, .row 65 (.pair (.int .i64) (.pair (.int .i64) (.int .i64))) 0)], [], []⟩
abbrev o111_50_5_0 : LShape := ⟨42, [(0, .fix (.sl 4294971408 0)), (5, .int .i64)], [(4294967296, .box 65 [.int .i64, .int .i64, .int .i64]), (4294971408, .row 65 (.pair (.int .i64) (.pair (.int .i64) (.int .i64))) 0)], [], []⟩
abbrev q111_50_5_0 : LShape := ⟨42, [], [(4294967296, .box 65 [.int .i64, .int .i64, .int .i64]), (4294971408, .row 65 (.pair (.int .i64) (.pair (.int .i64) (.int .i64))) 0)], [], []⟩
noncomputable def l111_50_5_0 : LSum := ⟨8, 50, s111_50_5_0, 0, o111_50_5_0, q111_50_5_0, u111_50_5_0, false, none⟩
noncomputable abbrev S111 : List (Nat × Nat × LSum) := [(79228238976018540853555363840, 2, l111_94_2_0), (18446761876348993536, 5, l111_50_5_0)]
noncomputable def con111 : Con := ⟨ps111, rs111, fun x => f111 x.1 x.2.1.1 x.2.1.2.1 x.2.1.2.2⟩
theorem r111_94_2_0 : Round Go.Proofs.Tryz.prog C111 (lookS S111) big 79228238976018540853555363840 2 l111_94_2_0 := ⟨by kernel_rfl, fun z => by kernel_rfl⟩
theorem r111_50_5_0 : Round Go.Proofs.Tryz.prog C111 (lookS S111) big 18446761876348993536 5 l111_50_5_0 := ⟨by kernel_rfl, fun z => by kernel_rfl⟩
theorem e111 (x : Args ps111) : kTop Go.Proofs.Tryz.prog C111 (lookS S111) big 10 111 ps111 rs111 x = con111.f x := by kernel_rfl
theorem ok111 [Glob] [RngG Go.Proofs.Tryz.prog] (h : AllOK Go.Proofs.Tryz.prog L111) (h' : AllU Go.Proofs.Tryz.prog U111) : con111.OK Go.Proofs.Tryz.prog 111 := con_of_tree (lookC_ok h h') (rounds_of (l := S111) ⟨r111_94_2_0, r111_50_5_0, trivial⟩) e111
abbrev ps112 : List Ty := [.row (.pair (.int .i64) (.pair (.int .i64) (.pair (.int .i64) (.pair (.int .i64) (.int .i64)))))]
abbrev rs112 : List RTy := [.val (.row (.int .i64))]
noncomputable abbrev L112 : List (Nat × Con) := [(118, con118)]
noncomputable abbrev U112 : List (Nat × UCon) := [(126, uSort), (127, uCompact)]
noncomputable abbrev C112 : Cons := lookC L112 U112
abbrev s112_3 : LShape := ⟨24, [(6, .cont (.pair (.int .i64) (.pair (.int .i64) (.pair (.int .i64) (.pair (.int .i64) (.int .i64)))))), (7, .int .i64), (8, .int .i64)], [], [], [⟨.t 3, 8294967488, 3, (.int .i64)⟩]⟩
abbrev o112_3 : LShape := ⟨24, [], [], [], [⟨.t 3, 8294967520, 3, (.int .i64)⟩]⟩
abbrev q112_3 : LShape := ⟨24, [], [], [], []⟩
noncomputable def l112_3 : LSum := ⟨9, 112, s112_3, 0, o112_3, q112_3, u112_3, false, none⟩
noncomputable abbrev S112 : List (Nat × Nat × LSum) := [(4294967296, 3, l112_3)]
noncomputable def con112 : Con := ⟨ps112, rs112, fun x => f112 x.1⟩
theorem r112_3 : Round Go.Proofs.Tryz.prog C112 (lookS S112) big 4294967296 3 l112_3 := ⟨by kernel_rfl, fun z => by kernel_rfl⟩
theorem e112 (x : Args ps112) : kTop Go.Proofs.Tryz.prog C112 (lookS S112) big 10 112 ps112 rs112 x = con112.f x := by kernel_rfl
theorem ok112 [Glob] [RngG Go.Proofs.Tryz.prog] (h : AllOK Go.Proofs.Tryz.prog L112) (h' : AllU Go.Proofs.Tryz.prog U112) : con112.OK Go.Proofs.Tryz.prog 112 := con_of_tree (lookC_ok h h') (rounds_of (l := S112) ⟨r112_3, trivial⟩) e112
abbrev ps158 : List Ty := [.pair (.int .i64) (.pair (.int .i64) (.pair (.int .i64) (.pair (.pair (.int .i64) (.pair (.int .i64) (.int .i64))) (.row (.int .i64))))), .row (.pair (.int .i64) (.pair (.int .i64) (.int .i64))), .int .i64, .pair (.int .i64) (.pair (.int .i64) (.int .i64))]
abbrev rs158 : List RTy := [.val (.int .i64)]
noncomputable abbrev L158 : List (Nat × Con) := [(82, con82), (83, con83)]
noncomputable abbrev U158 : List (Nat × UCon) := []
noncomputable abbrev C158 : Cons := lookC L158 U158
abbrev s158_4 : LShape := ⟨37, [(1, .cont (.pair (.int .i64) (.pair (.int .i64) (.int .i64)))), (2, .int .i64), (7, .fix (.ptr 4294967312 0)), (16, .cont (.pair (.int .i64) (.pair (.int .i64) (.int .i64)))), (17, .int .i64), (18, .int .i64)], [], [(4294967312, .box 80 [.int .i64, .int .i64, .int .i64])], []⟩
abbrev o158_4 : LShape := ⟨37, [(1, .cont (.pair (.int .i64) (.pair (.int .i64) (.int .i64)))), (2, .int .i64)], [], [], []⟩
abbrev q158_4 : LShape := ⟨37, [(8, .int .i64)], [], [], []⟩
noncomputable def l158_4 : LSum := ⟨9, 158, s158_4, 0, o158_4, q158_4, u158_4, false, none⟩
noncomputable abbrev S158 : List (Nat × Nat × LSum) := [(4294967296, 4, l158_4)]
noncomputable def con158 : Con := ⟨ps158, rs158, fun x => f158 x.1.1 x.1.2.1 x.1.2.2.1 x.1.2.2.2.1.1 x.1.2.2.2.1.2.1 x.1.2.2.2.1.2.2 x.1.2.2.2.2 x.2.1 x.2.2.1 x.2.2.2.1.1 x.2.2.2.1.2.1 x.2.2.2.1.2.2⟩
theorem r158_4 : Round Go.Proofs.Tryz.prog C158 (lookS S158) big 4294967296 4 l158_4 := ⟨by kernel_rfl, fun z => by kernel_rfl⟩
theorem e158 (x : Args ps158) : kTop Go.Proofs.Tryz.prog C158 (lookS S158) big 10 158 ps158 rs158 x = con158.f x := by kernel_rfl
theorem ok158 [Glob] [RngG Go.Proofs.Tryz.prog] (h : AllOK Go.Proofs.Tryz.prog L158) (h' : AllU Go.Proofs.Tryz.prog U158) : con158.OK Go.Proofs.Tryz.prog 158 := con_of_tree (lookC_ok h h') (rounds_of (l := S158) ⟨r158_4, trivial⟩) e158
abbrev ps139 : List Ty := [.pair (.int .i64) (.pair (.int .i64) (.pair (.int .i64) (.pair (.pair (.int .i64) (.pair (.int .i64) (.int .i64))) (.row (.int .i64))))), .row (.pair (.int .i64) (.pair (.int .i64) (.int .i64)))]
abbrev rs139 : List RTy := [.val (.int .i64)]
noncomputable abbrev L139 : List (Nat × Con) := [(41, con41), (106, con106), (158, con158)]
noncomputable abbrev U139 : List (Nat × UCon) := []
noncomputable abbrev C139 : Cons := lookC L139 U139
abbrev s139_95_2_0 : LShape := ⟨19, [(0, .cont (.int .i64)), (1, .fix (.fn (.func 157) [] [(.ptr 4294967312 0), (.ptr 4294967296 0), (.ptr 18447060874792271872 0)])), (7, .int .i64), (8, .int .i64)], [(4294967296, .box 166 [.int .i64, .int .i64, .int .i64, .int .i64, .int .i64, .int .i64, .cont (.int .i64)]), (4294967312, .box 28 [.cont (.pair (.int .i64) (.pair (.int .i64) (.int .i64)))]), (4295020624, .box 80 [.int .i64, .int .i64, .int .i64]), (18447060874792271872, .box 80 [.int .i64, .int .i64, .int .i64])], [], []⟩
abbrev o139_95_2_0 : LShape := ⟨19, [], [(4294967296, .box 166 [.int .i64, .int .i64, .int .i64, .int .i64, .int .i64, .int .i64, .cont (.int .i64)]), (4294967312, .box 28 [.cont (.pair (.int .i64) (.pair (.int .i64) (.int .i64)))]), (4295020624, .box 80 [.int .i64, .int .i64, .int .i64]), (18447060874792271872, .box 80 [.int .i64, .int .i64, .int .i64])], [], []⟩
abbrev q139_95_2_0 : LShape := ⟨19, [(4, .int .i64)], [(4294967296, .box 166 [.int .i64, .int .i64, .int .i64, .int .i64, .int .i64, .int .i64, .cont (.int .i64)]), (4294967312, .box 28 [.cont (.pair (.int .i64) (.pair (.int .i64) (.int .i64)))]), (4295020624, .box 80 [.int .i64, .int .i64, .int .i64]), (18447060874792271872, .box 80 [.int .i64, .int .i64, .int .i64])], [], []⟩
noncomputable def l139_95_2_0 : LSum := ⟨6, 95, s139_95_2_0, 0, o139_95_2_0, q139_95_2_0, u139_95_2_0, false, none⟩
abbrev s139_95_2_1 : LShape := ⟨19, [(0, .cont (.int .i64)), (1, .fix (.fn (.func 157) [] [(.ptr 4294967312 0), (.ptr 4294967296 0), (.ptr 18447114201106219008 0)])), (7, .int .i64), (8, .int .i64)], [(4294967296, .box 166 [.int .i64, .int .i64, .int .i64, .int .i64, .int .i64, .int .i64, .cont (.int .i64)]), (4294967312, .box 28 [.cont (.pair (.int .i64) (.pair (.int .i64) (.int .i64)))]), (18447114201106219008, .box 80 [.int .i64, .int .i64, .int .i64])], [], []⟩
abbrev o139_95_2_1 : LShape := ⟨19, [], [(4294967296, .box 166 [.int .i64, .int .i64, .int .i64, .int .i64, .int .i64, .int .i64, .cont (.int .i64)]), (4294967312, .box 28 [.cont (.pair (.int .i64) (.pair (.int .i64) (.int .i64)))]), (18447114201106219008, .box 80 [.int .i64, .int .i64, .int .i64])], [], []⟩
abbrev q139_95_2_1 : LShape := ⟨19, [(4, .int .i64)], [(4294967296, .box 166 [.int .i64, .int .i64, .int .i64, .int .i64, .int .i64, .int .i64, .cont (.int .i64)]), (4294967312, .box 28 [.cont (.pair (.int .i64) (.pair (.int .i64) (.int .i64)))]), (18447114201106219008, .box 80 [.int .i64, .int .i64, .int .i64])], [], []⟩
noncomputable def l139_95_2_1 : LSum := ⟨6, 95, s139_95_2_1, 0, o139_95_2_1, q139_95_2_1, u139_95_2_1, false, none⟩
noncomputable abbrev S139 : List (Nat × Nat × LSum) := [(340288210869433754576934048087100358656, 2, l139_95_2_0), (340289194566299531682949609528787730432, 2, l139_95_2_1)]
noncomputable def con139 : Con := ⟨ps139, rs139, fun x => f139 x.1.1 x.1.2.1 x.1.2.2.1 x.1.2.2.2.1.1 x.1.2.2.2.1.2.1 x.1.2.2.2.1.2.2 x.1.2.2.2.2 x.2.1⟩
theorem r139_95_2_0 : Round Go.Proofs.Tryz.prog C139 (lookS S139) big 340288210869433754576934048087100358656 2 l139_95_2_0 := ⟨by kernel_rfl, fun z => by kernel_rfl⟩
theorem r139_95_2_1 : Round Go.Proofs.Tryz.prog C139 (lookS S139) big 340289194566299531682949609528787730432 2 l139_95_2_1 := ⟨by kernel_rfl, fun z => by kernel_rfl⟩
theorem e139 (x : Args ps139) : kTop Go.Proofs.Tryz.prog C139 (lookS S139) big 10 139 ps139 rs139 x = con139.f x := by kernel_rfl
theorem ok139 [Glob] [RngG Go.Proofs.Tryz.prog] (h : AllOK Go.Proofs.Tryz.prog L139) (h' : AllU Go.Proofs.Tryz.prog U139) : con139.OK Go.Proofs.Tryz.prog 139 := con_of_tree (lookC_ok h h') (rounds_of (l := S139) ⟨r139_95_2_0, r139_95_2_1, trivial⟩) e139
abbrev ps128 : List Ty := [.pair (.int .i64) (.pair (.int .i64) (.pair (.int .i64) (.pair (.pair (.int .i64) (.pair (.int .i64) (.int .i64))) (.row (.int .i64))))), .row (.pair (.int .i64) (.pair (.int .i64) (.int .i64)))]
abbrev rs128 : List RTy := [.val (.row (.pair (.int .i64) (.pair (.int .i64) (.int .i64)))), .val (.int .i64)]
noncomputable abbrev L128 : List (Nat × Con) := [(47, conCPool), (139, con139)]
noncomputable abbrev U128 : List (Nat × UCon) := []
noncomputable abbrev C128 : Cons := lookC L128 U128
noncomputable abbrev S128 : List (Nat × Nat × LSum) := []
noncomputable def con128 : Con := ⟨ps128, rs128, fun x => f128 x.1.1 x.1.2.1 x.1.2.2.1 x.1.2.2.2.1.1 x.1.2.2.2.1.2.1 x.1.2.2.2.1.2.2 x.1.2.2.2.2 x.2.1⟩
theorem e128 (x : Args ps128) : kTop Go.Proofs.Tryz.prog C128 (lookS S128) big 10 128 ps128 rs128 x = con128.f x := by kernel_rfl
theorem ok128 [Glob] [RngG Go.Proofs.Tryz.prog] (h : AllOK Go.Proofs.Tryz.prog L128) (h' : AllU Go.Proofs.Tryz.prog U128) : con128.OK Go.Proofs.Tryz.prog 128 := con_of_tree (lookC_ok h h') (rounds_of (l := S128) trivial) e128
abbrev ps113 : List Ty := [.row (.pair (.int .i64) (.pair (.int .i64) (.int .i64))), .int .i64, .int .i64, .int .i64]
abbrev rs113 : List RTy := [.val (.row (.pair (.int .i64) (.pair (.int .i64) (.int .i64)))), .val (.int .i64)]
noncomputable abbrev L113 : List (Nat × Con) := [(128, con128)]
noncomputable abbrev U113 : List (Nat × UCon) := []
noncomputable abbrev C113 : Cons := lookC L113 U113
noncomputable abbrev S113 : List (Nat × Nat × LSum) := []
noncomputable def con113 : Con := ⟨ps113, rs113, fun x => f113 x.1 x.2.1 x.2.2.1 x.2.2.2.1⟩
theorem e113 (x : Args ps113) : kTop Go.Proofs.Tryz.prog C113 (lookS S113) big 10 113 ps113 rs113 x = con113.f x := by kernel_rfl
theorem ok113 [Glob] [RngG Go.Proofs.Tryz.prog] (h : AllOK Go.Proofs.Tryz.prog L113) (h' : AllU Go.Proofs.Tryz.prog U113) : con113.OK Go.Proofs.Tryz.prog 113 := con_of_tree (lookC_ok h h') (rounds_of (l := S113) trivial) e113
abbrev ps114 : List Ty := [.row (.pair (.int .i64) (.pair (.int .i64) (.int .i64))), .int .i64, .int .i64]
abbrev rs114 : List RTy := [.val (.row (.pair (.int .i64) (.pair (.int .i64) (.int .i64)))), .val (.int .i64)]
noncomputable abbrev L114 : List (Nat × Con) := [(128, con128)]
noncomputable abbrev U114 : List (Nat × UCon) := []
noncomputable abbrev C114 : Cons := lookC L114 U114
noncomputable abbrev S114 : List (Nat × Nat × LSum) := []
noncomputable def con114 : Con := ⟨ps114, rs114, fun x => f114 x.1 x.2.1 x.2.2.1⟩
theorem e114 (x : Args ps114) : kTop Go.Proofs.Tryz.prog C114 (lookS S114) big 10 114 ps114 rs114 x = con114.f x := by kernel_rfl
theorem ok114 [Glob] [RngG Go.Proofs.Tryz.prog] (h : AllOK Go.Proofs.Tryz.prog L114) (h' : AllU Go.Proofs.Tryz.prog U114) : con114.OK Go.Proofs.Tryz.prog 114 := con_of_tree (lookC_ok h h') (rounds_of (l := S114) trivial) e114
abbrev ps115 : List Ty := [.row (.pair (.int .i64) (.pair (.int .i64) (.int .i64))), .int .i64, .int .i64, .int .i64, .row (.int .i64)]
abbrev rs115 : List RTy := [.val (.row (.pair (.int .i64) (.pair (.int .i64) (.int .i64)))), .val (.int .i64)]
noncomputable abbrev L115 : List (Nat × Con) := [(128, con128)]
noncomputable abbrev U115 : List (Nat × UCon) := []
noncomputable abbrev C115 : Cons := lookC L115 U115
noncomputable abbrev S115 : List (Nat × Nat × LSum) := []
noncomputable def con115 : Con := ⟨ps115, rs115, fun x => f115 x.1 x.2.1 x.2.2.1 x.2.2.2.1 x.2.2.2.2.1⟩
theorem e115 (x : Args ps115) : kTop Go.Proofs.Tryz.prog C115 (lookS S115) big 10 115 ps115 rs115 x = con115.f x := by kernel_rfl
theorem ok115 [Glob] [RngG Go.Proofs.Tryz.prog] (h : AllOK Go.Proofs.Tryz.prog L115) (h' : AllU Go.Proofs.Tryz.prog U115) : con115.OK Go.Proofs.Tryz.prog 115 := con_of_tree (lookC_ok h h') (rounds_of (l := S115) trivial) e115
abbrev ps116 : List Ty := [.row (.pair (.int .i64) (.pair (.int .i64) (.int .i64))), .int .i64, .int .i64, .row (.int .i64)]
abbrev rs116 : List RTy := [.val (.row (.pair (.int .i64) (.pair (.int .i64) (.int .i64)))), .val (.int .i64)]
noncomputable abbrev L116 : List (Nat × Con) := [(128, con128)]
noncomputable abbrev U116 : List (Nat × UCon) := []
noncomputable abbrev C116 : Cons := lookC L116 U116
noncomputable abbrev S116 : List (Nat × Nat × LSum) := []
noncomputable def con116 : Con := ⟨ps116, rs116, fun x => f116 x.1 x.2.1 x.2.2.1 x.2.2.2.1⟩
theorem e116 (x : Args ps116) : kTop Go.Proofs.Tryz.prog C116 (lookS S116) big 10 116 ps116 rs116 x = con116.f x := by kernel_rfl
theorem ok116 [Glob] [RngG Go.Proofs.Tryz.prog] (h : AllOK Go.Proofs.Tryz.prog L116) (h' : AllU Go.Proofs.Tryz.prog U116) : con116.OK Go.Proofs.Tryz.prog 116 := con_of_tree (lookC_ok h h') (rounds_of (l := S116) trivial) e116
abbrev ps15 : List Ty := [.pair (.pair (.pair (.int .i64) (.int .i64)) (.pair (.pair (.int .i64) (.int .i64)) (.pair (.int .i64) (.pair (.int .i64) (.pair (.int .i64) (.int .i64)))))) (.pair (.pair (.int .i64) (.pair (.int .i64) (.pair (.int .i64) (.bool)))) (.pair (.int .i64) (.pair (.row (.pair (.int .i64) (.pair (.int .i64) (.int .i64)))) (.pair (.row (.pair (.int .i64) (.pair (.int .i64) (.pair (.int .i64) (.pair (.int .i64) (.int .i64)))))) (.row (.pair (.int .i64) (.pair (.int .i64) (.int .i64)))))))), .pair (.int .i64) (.pair (.int .i64) (.pair (.int .i64) (.pair (.int .i64) (.pair (.int .i64) (.pair (.int .i64) (.pair (.int .i64) (.pair (.int .i64) (.bool))))))))]
abbrev rs15 : List RTy := [.val (.pair (.pair (.pair (.int .i64) (.int .i64)) (.pair (.pair (.int .i64) (.int .i64)) (.pair (.int .i64) (.pair (.int .i64) (.pair (.int .i64) (.int .i64)))))) (.pair (.pair (.int .i64) (.pair (.int .i64) (.pair (.int .i64) (.bool)))) (.pair (.int .i64) (.pair (.row (.pair (.int .i64) (.pair (.int .i64) (.int .i64)))) (.pair (.row (.pair (.int .i64) (.pair (.int .i64) (.pair (.int .i64) (.pair (.int .i64) (.int .i64)))))) (.row (.pair (.int .i64) (.pair (.int .i64) (.int .i64))))))))), .val (.int .i64)]
noncomputable abbrev L15 : List (Nat × Con) := [(10, con10), (14, con14), (20, con20), (45, con45), (71, con71), (89, con89), (109, con109), (110, con110), (111, con111), (112, con112), (113, con113), (114, con114), (115, con115), (116, con116)]
noncomputable abbrev U15 : List (Nat × UCon) := []
noncomputable abbrev C15 : Cons := lookC L15 U15
noncomputable abbrev S15 : List (Nat × Nat × LSum) := []
noncomputable def con15 : Con := ⟨ps15, rs15, fun x => f15 x.1.1.1.1 x.1.1.1.2 x.1.1.2.1.1 x.1.1.2.1.2 x.1.1.2.2.1 x.1.1.2.2.2.1 x.1.1.2.2.2.2.1 x.1.1.2.2.2.2.2 x.1.2.1.1 x.1.2.1.2.1 x.1.2.1.2.2.1 x.1.2.1.2.2.2 x.1.2.2.1 x.1.2.2.2.1 x.1.2.2.2.2.1 x.1.2.2.2.2.2 x.2.1.1 x.2.1.2.1 x.2.1.2.2.1 x.2.1.2.2.2.1 x.2.1.2.2.2.2.1 x.2.1.2.2.2.2.2.1 x.2.1.2.2.2.2.2.2.1 x.2.1.2.2.2.2.2.2.2.1 x.2.1.2.2.2.2.2.2.2.2⟩
theorem e15 (x : Args ps15) : kTop Go.Proofs.Tryz.prog C15 (lookS S15) big 10 15 ps15 rs15 x = con15.f x := by kernel_rfl
theorem ok15 [Glob] [RngG Go.Proofs.Tryz.prog] (h : AllOK Go.Proofs.Tryz.prog L15) (h' : AllU Go.Proofs.Tryz.prog U15) : con15.OK Go.Proofs.Tryz.prog 15 := con_of_tree (lookC_ok h h') (rounds_of (l := S15) trivial) e15
abbrev ps17 : List Ty := [.pair (.pair (.int .i64) (.int .i64)) (.pair (.pair (.int .i64) (.int .i64)) (.pair (.int .i64) (.pair (.int .i64) (.pair (.int .i64) (.int .i64))))), .pair (.int .i64) (.pair (.int .i64) (.pair (.int .i64) (.bool)))]
abbrev rs17 : List RTy := [.val (.pair (.pair (.pair (.int .i64) (.int .i64)) (.pair (.pair (.int .i64) (.int .i64)) (.pair (.int .i64) (.pair (.int .i64) (.pair (.int .i64) (.int .i64)))))) (.pair (.pair (.int .i64) (.pair (.int .i64) (.pair (.int .i64) (.bool)))) (.pair (.int .i64) (.pair (.row (.pair (.int .i64) (.pair (.int .i64) (.int .i64)))) (.pair (.row (.pair (.int .i64) (.pair (.int .i64) (.pair (.int .i64) (.pair (.int .i64) (.int .i64)))))) (.row (.pair (.int .i64) (.pair (.int .i64) (.int .i64))))))))), .val (.bool)]
noncomputable abbrev L17 : List (Nat × Con) := [(14, con14)]
noncomputable abbrev U17 : List (Nat × UCon) := []
noncomputable abbrev C17 : Cons := lookC L17 U17
noncomputable abbrev S17 : List (Nat × Nat × LSum) := []
noncomputable def con17 : Con := ⟨ps17, rs17, fun x => f17 x.1.1.1 x.1.1.2 x.1.2.1.1 x.1.2.1.2 x.1.2.2.1 x.1.2.2.2.1 x.1.2.2.2.2.1 x.1.2.2.2.2.2 x.2.1.1 x.2.1.2.1 x.2.1.2.2.1 x.2.1.2.2.2⟩
theorem e17 (x : Args ps17) : kTop Go.Proofs.Tryz.prog C17 (lookS S17) big 10 17 ps17 rs17 x = con17.f x := by kernel_rfl
theorem ok17 [Glob] [RngG Go.Proofs.Tryz.prog] (h : AllOK Go.Proofs.Tryz.prog L17) (h' : AllU Go.Proofs.Tryz.prog U17) : con17.OK Go.Proofs.Tryz.prog 17 := con_of_tree (lookC_ok h h') (rounds_of (l := S17) trivial) e17
abbrev ps18 : List Ty := []
abbrev rs18 : List RTy := [.val (.pair (.pair (.int .i64) (.int .i64)) (.pair (.pair (.int .i64) (.int .i64)) (.pair (.int .i64) (.pair (.int .i64) (.pair (.int .i64) (.int .i64))))))]
noncomputable abbrev L18 : List (Nat × Con) := []
noncomputable abbrev U18 : List (Nat × UCon) := []
noncomputable abbrev C18 : Cons := lookC L18 U18
noncomputable abbrev S18 : List (Nat × Nat × LSum) := []
noncomputable def con18 : Con := ⟨ps18, rs18, fun x => f18 ⟩
theorem e18 (x : Args ps18) : kTop Go.Proofs.Tryz.prog C18 (lookS S18) big 10 18 ps18 rs18 x = con18.f x := by kernel_rfl
theorem ok18 [Glob] [RngG Go.Proofs.Tryz.prog] (h : AllOK Go.Proofs.Tryz.prog L18) (h' : AllU Go.Proofs.Tryz.prog U18) : con18.OK Go.Proofs.Tryz.prog 18 := con_of_tree (lookC_ok h h') (rounds_of (l := S18) trivial) e18
abbrev ps8 : List Ty := []
abbrev rs8 : List RTy := [.val (.bool)]
noncomputable abbrev L8 : List (Nat × Con) := [(10, con10), (11, con11), (12, con12), (13, con13), (15, con15), (17, con17), (18, con18)]
noncomputable abbrev U8 : List (Nat × UCon) := []
noncomputable abbrev C8 : Cons := lookC L8 U8
noncomputable abbrev S8 : List (Nat × Nat × LSum) := []
noncomputable def con8 : Con := ⟨ps8, rs8, fun x => f8 ⟩
theorem e8 (x : Args ps8) : kTop Go.Proofs.Tryz.prog C8 (lookS S8) big 10 8 ps8 rs8 x = con8.f x := by kernel_rfl
theorem ok8 [Glob] [RngG Go.Proofs.Tryz.prog] (h : AllOK Go.Proofs.Tryz.prog L8) (h' : AllU Go.Proofs.Tryz.prog U8) : con8.OK Go.Proofs.Tryz.prog 8 := con_of_tree (lookC_ok h h') (rounds_of (l := S8) trivial) e8
abbrev ps19 : List Ty := [.row (.pair (.int .i64) (.pair (.int .i64) (.pair (.int .i64) (.pair (.int .i64) (.int .i64))))), .row (.pair (.int .i64) (.pair (.int .i64) (.int .i64)))]
abbrev rs19 : List RTy := [.val (.bool)]
noncomputable abbrev L19 : List (Nat × Con) := []
noncomputable abbrev U19 : List (Nat × UCon) := []
noncomputable abbrev C19 : Cons := lookC L19 U19
noncomputable abbrev S19 : List (Nat × Nat × LSum) := []
noncomputable def con19 : Con := ⟨ps19, rs19, fun x => f19 x.1 x.2.1⟩
theorem e19 (x : Args ps19) : kTop Go.Proofs.Tryz.prog C19 (lookS S19) big 10 19 ps19 rs19 x = con19.f x := by kernel_rfl
theorem ok19 [Glob] [RngG Go.Proofs.Tryz.prog] (h : AllOK Go.Proofs.Tryz.prog L19) (h' : AllU Go.Proofs.Tryz.prog U19) : con19.OK Go.Proofs.Tryz.prog 19 := con_of_tree (lookC_ok h h') (rounds_of (l := S19) trivial) e19
abbrev ps9 : List Ty := [.pair (.pair (.pair (.int .i64) (.int .i64)) (.pair (.pair (.int .i64) (.int .i64)) (.pair (.int .i64) (.pair (.int .i64) (.pair (.int .i64) (.int .i64)))))) (.pair (.pair (.int .i64) (.pair (.int .i64) (.pair (.int .i64) (.bool)))) (.pair (.int .i64) (.pair (.row (.pair (.int .i64) (.pair (.int .i64) (.int .i64)))) (.pair (.row (.pair (.int .i64) (.pair (.int .i64) (.pair (.int .i64) (.pair (.int .i64) (.int .i64)))))) (.row (.pair (.int .i64) (.pair (.int .i64) (.int .i64))))))))]
abbrev rs9 : List RTy := [.val (.bool)]
noncomputable abbrev L9 : List (Nat × Con) := [(19, con19)]
noncomputable abbrev U9 : List (Nat × UCon) := []
noncomputable abbrev C9 : Cons := lookC L9 U9
noncomputable abbrev S9 : List (Nat × Nat × LSum) := []
noncomputable def con9 : Con := ⟨ps9, rs9, fun x => f9 x.1.1.1.1 x.1.1.1.2 x.1.1.2.1.1 x.1.1.2.1.2 x.1.1.2.2.1 x.1.1.2.2.2.1 x.1.1.2.2.2.2.1 x.1.1.2.2.2.2.2 x.1.2.1.1 x.1.2.1.2.1 x.1.2.1.2.2.1 x.1.2.1.2.2.2 x.1.2.2.1 x.1.2.2.2.1 x.1.2.2.2.2.1 x.1.2.2.2.2.2⟩
theorem e9 (x : Args ps9) : kTop Go.Proofs.Tryz.prog C9 (lookS S9) big 10 9 ps9 rs9 x = con9.f x := by kernel_rfl
theorem ok9 [Glob] [RngG Go.Proofs.Tryz.prog] (h : AllOK Go.Proofs.Tryz.prog L9) (h' : AllU Go.Proofs.Tryz.prog U9) : con9.OK Go.Proofs.Tryz.prog 9 := con_of_tree (lookC_ok h h') (rounds_of (l := S9) trivial) e9
abbrev ps3 : List Ty := [.pair (.pair (.pair (.int .i64) (.int .i64)) (.pair (.pair (.int .i64) (.int .i64)) (.pair (.int .i64) (.pair (.int .i64) (.pair (.int .i64) (.int .i64)))))) (.pair (.pair (.int .i64) (.pair (.int .i64) (.pair (.int .i64) (.bool)))) (.pair (.int .i64) (.pair (.row (.pair (.int .i64) (.pair (.int .i64) (.int .i64)))) (.pair (.row (.pair (.int .i64) (.pair (.int .i64) (.pair (.int .i64) (.pair (.int .i64) (.int .i64)))))) (.row (.pair (.int .i64) (.pair (.int .i64) (.int .i64)))))))), .int .i64, .row (.int .u8)]
abbrev rs3 : List RTy := [.val (.bool)]
noncomputable abbrev L3 : List (Nat × Con) := [(8, con8), (9, con9), (10, con10), (11, con11), (12, con12), (13, con13), (14, con14)]
noncomputable abbrev U3 : List (Nat × UCon) := []
noncomputable abbrev C3 : Cons := lookC L3 U3
noncomputable abbrev S3 : List (Nat × Nat × LSum) := []
noncomputable def con3 : Con := ⟨ps3, rs3, fun x => f3 x.1.1.1.1 x.1.1.1.2 x.1.1.2.1.1 x.1.1.2.1.2 x.1.1.2.2.1 x.1.1.2.2.2.1 x.1.1.2.2.2.2.1 x.1.1.2.2.2.2.2 x.1.2.1.1 x.1.2.1.2.1 x.1.2.1.2.2.1 x.1.2.1.2.2.2 x.1.2.2.1 x.1.2.2.2.1 x.1.2.2.2.2.1 x.1.2.2.2.2.2 x.2.1 x.2.2.1⟩
theorem e3 (x : Args ps3) : kTop Go.Proofs.Tryz.prog C3 (lookS S3) big 10 3 ps3 rs3 x = con3.f x := by kernel_rfl
theorem ok3 [Glob] [RngG Go.Proofs.Tryz.prog] (h : AllOK Go.Proofs.Tryz.prog L3) (h' : AllU Go.Proofs.Tryz.prog U3) : con3.OK Go.Proofs.Tryz.prog 3 := con_of_tree (lookC_ok h h') (rounds_of (l := S3) trivial) e3
abbrev ps4 : List Ty := [.pair (.pair (.pair (.int .i64) (.int .i64)) (.pair (.pair (.int .i64) (.int .i64)) (.pair (.int .i64) (.pair (.int .i64) (.pair (.int .i64) (.int .i64)))))) (.pair (.pair (.int .i64) (.pair (.int .i64) (.pair (.int .i64) (.bool)))) (.pair (.int .i64) (.pair (.row (.pair (.int .i64) (.pair (.int .i64) (.int .i64)))) (.pair (.row (.pair (.int .i64) (.pair (.int .i64) (.pair (.int .i64) (.pair (.int .i64) (.int .i64)))))) (.row (.pair (.int .i64) (.pair (.int .i64) (.int .i64)))))))), .pair (.int .i64) (.pair (.int .i64) (.pair (.int .i64) (.pair (.int .i64) (.pair (.int .i64) (.pair (.int .i64) (.pair (.int .i64) (.pair (.int .i64) (.bool)))))))), .int .i64]
abbrev rs4 : List RTy := [.val (.bool)]
noncomputable abbrev L4 : List (Nat × Con) := [(8, con8), (9, con9), (10, con10), (13, con13), (14, con14), (15, con15)]
noncomputable abbrev U4 : List (Nat × UCon) := []
noncomputable abbrev C4 : Cons := lookC L4 U4
noncomputable abbrev S4 : List (Nat × Nat × LSum) := []
noncomputable def con4 : Con := ⟨ps4, rs4, fun x => f4 x.1.1.1.1 x.1.1.1.2 x.1.1.2.1.1 x.1.1.2.1.2 x.1.1.2.2.1 x.1.1.2.2.2.1 x.1.1.2.2.2.2.1 x.1.1.2.2.2.2.2 x.1.2.1.1 x.1.2.1.2.1 x.1.2.1.2.2.1 x.1.2.1.2.2.2 x.1.2.2.1 x.1.2.2.2.1 x.1.2.2.2.2.1 x.1.2.2.2.2.2 x.2.1.1 x.2.1.2.1 x.2.1.2.2.1 x.2.1.2.2.2.1 x.2.1.2.2.2.2.1 x.2.1.2.2.2.2.2.1 x.2.1.2.2.2.2.2.2.1 x.2.1.2.2.2.2.2.2.2.1 x.2.1.2.2.2.2.2.2.2.2 x.2.2.1⟩
theorem e4 (x : Args ps4) : kTop Go.Proofs.Tryz.prog C4 (lookS S4) big 10 4 ps4 rs4 x = con4.f x := by kernel_rfl
theorem ok4 [Glob] [RngG Go.Proofs.Tryz.prog] (h : AllOK Go.Proofs.Tryz.prog L4) (h' : AllU Go.Proofs.Tryz.prog U4) : con4.OK Go.Proofs.Tryz.prog 4 := con_of_tree (lookC_ok h h') (rounds_of (l := S4) trivial) e4
abbrev ps5 : List Ty := [.pair (.pair (.pair (.int .i64) (.int .i64)) (.pair (.pair (.int .i64) (.int .i64)) (.pair (.int .i64) (.pair (.int .i64) (.pair (.int .i64) (.int .i64)))))) (.pair (.pair (.int .i64) (.pair (.int .i64) (.pair (.int .i64) (.bool)))) (.pair (.int .i64) (.pair (.row (.pair (.int .i64) (.pair (.int .i64) (.int .i64)))) (.pair (.row (.pair (.int .i64) (.pair (.int .i64) (.pair (.int .i64) (.pair (.int .i64) (.int .i64)))))) (.row (.pair (.int .i64) (.pair (.int .i64) (.int .i64))))))))]
abbrev rs5 : List RTy := [.val (.bool)]
noncomputable abbrev L5 : List (Nat × Con) := [(8, con8), (9, con9), (10, con10), (11, con11), (13, con13)]
noncomputable abbrev U5 : List (Nat × UCon) := []
noncomputable abbrev C5 : Cons := lookC L5 U5
noncomputable abbrev S5 : List (Nat × Nat × LSum) := []
noncomputable def con5 : Con := ⟨ps5, rs5, fun x => f5 x.1.1.1.1 x.1.1.1.2 x.1.1.2.1.1 x.1.1.2.1.2 x.1.1.2.2.1 x.1.1.2.2.2.1 x.1.1.2.2.2.2.1 x.1.1.2.2.2.2.2 x.1.2.1.1 x.1.2.1.2.1 x.1.2.1.2.2.1 x.1.2.1.2.2.2 x.1.2.2.1 x.1.2.2.2.1 x.1.2.2.2.2.1 x.1.2.2.2.2.2⟩
theorem e5 (x : Args ps5) : kTop Go.Proofs.Tryz.prog C5 (lookS S5) big 10 5 ps5 rs5 x = con5.f x := by kernel_rfl
theorem ok5 [Glob] [RngG Go.Proofs.Tryz.prog] (h : AllOK Go.Proofs.Tryz.prog L5) (h' : AllU Go.Proofs.Tryz.prog U5) : con5.OK Go.Proofs.Tryz.prog 5 := con_of_tree (lookC_ok h h') (rounds_of (l := S5) trivial) e5
abbrev ps16 : List Ty := [.pair (.pair (.pair (.int .i64) (.int .i64)) (.pair (.pair (.int .i64) (.int .i64)) (.pair (.int .i64) (.pair (.int .i64) (.pair (.int .i64) (.int .i64)))))) (.pair (.pair (.int .i64) (.pair (.int .i64) (.pair (.int .i64) (.bool)))) (.pair (.int .i64) (.pair (.row (.pair (.int .i64) (.pair (.int .i64) (.int .i64)))) (.pair (.row (.pair (.int .i64) (.pair (.int .i64) (.pair (.int .i64) (.pair (.int .i64) (.int .i64)))))) (.row (.pair (.int .i64) (.pair (.int .i64) (.int .i64)))))))), .row (.pair (.int .i64) (.pair (.int .i64) (.pair (.int .i64) (.pair (.int .i64) (.pair (.int .i64) (.pair (.int .i64) (.pair (.int .i64) (.pair (.int .i64) (.bool)))))))))]
abbrev rs16 : List RTy := [.val (.pair (.pair (.pair (.int .i64) (.int .i64)) (.pair (.pair (.int .i64) (.int .i64)) (.pair (.int .i64) (.pair (.int .i64) (.pair (.int .i64) (.int .i64)))))) (.pair (.pair (.int .i64) (.pair (.int .i64) (.pair (.int .i64) (.bool)))) (.pair (.int .i64) (.pair (.row (.pair (.int .i64) (.pair (.int .i64) (.int .i64)))) (.pair (.row (.pair (.int .i64) (.pair (.int .i64) (.pair (.int .i64) (.pair (.int .i64) (.int .i64)))))) (.row (.pair (.int .i64) (.pair (.int .i64) (.int .i64))))))))), .val (.int .i64)]
noncomputable abbrev L16 : List (Nat × Con) := [(15, con15), (20, con20)]
noncomputable abbrev U16 : List (Nat × UCon) := []
noncomputable abbrev C16 : Cons := lookC L16 U16
abbrev s16_4 : LShape := ⟨33, [(2, .fix (.ptr 4294967296 0)), (4, .fix (.ptr 4294967312 0)), (6, .fix (.ptr 4294971424 0)), (7, .int .i64), (12, .cont (.pair (.int .i64) (.pair (.int .i64) (.pair (.int .i64) (.pair (.int .i64) (.pair (.int .i64) (.pair (.int .i64) (.pair (.int .i64) (.pair (.int .i64) .bool))))))))), (13, .int .i64), (14, .int .i64)], [], [(4294967296, .box 32 [.int .i64, .int .i64, .int .i64, .int .i64, .int .i64, .int .i64, .int .i64, .int .i64, .int .i64, .int .i64, .int .i64, .bool, .int .i64, .cont (.pair (.int .i64) (.pair (.int .i64) (.int .i64))), .cont (.pair (.int .i64) (.pair (.int .i64) (.pair (.int .i64) (.pair (.int .i64) (.int .i64))))), .cont (.pair (.int .i64) (.pair (.int .i64) (.int .i64)))]), (4294967312, .box 32 [.int .i64, .int .i64, .int .i64, .int .i64, .int .i64, .int .i64, .int .i64, .int .i64, .int .i64, .int .i64, .int .i64, .bool, .int .i64, .fix (.sl 8294967552 0), .fix (.sl 8294967553 0), .fix (.sl 8294967554 0)]), (4294971424, .box 32 [.int .i64, .int .i64, .int .i64, .int .i64, .int .i64, .int .i64, .int .i64, .int .i64, .int .i64, .int .i64, .int .i64, .bool, .int .i64, .cont (.pair (.int .i64) (.pair (.int .i64) (.int .i64))), .cont (.pair (.int .i64) (.pair (.int .i64) (.pair (.int .i64) (.pair (.int .i64) (.int .i64))))), .cont (.pair (.int .i64) (.pair (.int .i64) (.int .i64)))])], [⟨.c 4294967312 13, 8294967552, 80, (.pair (.int .i64) (.pair (.int .i64) (.int .i64)))⟩, ⟨.c 4294967312 14, 8294967553, 55, (.pair (.int .i64) (.pair (.int .i64) (.pair (.int .i64) (.pair (.int .i64) (.int .i64)))))⟩, ⟨.c 4294967312 15, 8294967554, 65, (.pair (.int .i64) (.pair (.int .i64) (.int .i64)))⟩]⟩
abbrev o16_4 : LShape := ⟨33, [(2, .fix (.ptr 4294967296 0)), (4, .fix (.ptr 4294967312 0)), (6, .fix (.ptr 4294971424 0)), (7, .int .i64)], [], [(4294967296, .box 32 [.int .i64, .int .i64, .int .i64, .int .i64, .int .i64, .int .i64, .int .i64, .int .i64, .int .i64, .int .i64, .int .i64, .bool, .int .i64, .cont (.pair (.int .i64) (.pair (.int .i64) (.int .i64))), .cont (.pair (.int .i64) (.pair (.int .i64) (.pair (.int .i64) (.pair (.int .i64) (.int .i64))))), .cont (.pair (.int .i64) (.pair (.int .i64) (.int .i64)))]), (4294967312, .box 32 [.int .i64, .int .i64, .int .i64, .int .i64, .int .i64, .int .i64, .int .i64, .int .i64, .int .i64, .int .i64, .int .i64, .bool, .int .i64, .fix (.sl 8294967584 0), .fix (.sl 8294967585 0), .fix (.sl 8294967586 0)]), (4294971424, .box 32 [.int .i64, .int .i64, .int .i64, .int .i64, .int .i64, .int .i64, .int .i64, .int .i64, .int .i64, .int .i64, .int .i64, .bool, .int .i64, .cont (.pair (.int .i64) (.pair (.int .i64) (.int .i64))), .cont (.pair (.int .i64) (.pair (.int .i64) (.pair (.int .i64) (.pair (.int .i64) (.int .i64))))), .cont (.pair (.int .i64) (.pair (.int .i64) (.int .i64)))])], [⟨.c 4294967312 13, 8294967584, 80, (.pair (.int .i64) (.pair (.int .i64) (.int .i64)))⟩, ⟨.c 4294967312 14, 8294967585, 55, (.pair (.int .i64) (.pair (.int .i64) (.pair (.int .i64) (.pair (.int .i64) (.int .i64)))))⟩, ⟨.c 4294967312 15, 8294967586, 65, (.pair (.int .i64) (.pair (.int .i64) (.int .i64)))⟩]⟩
abbrev q16_4 : LShape := ⟨33, [], [], [], []⟩
noncomputable def l16_4 : LSum := ⟨9, 16, s16_4, 0, o16_4, q16_4, u16_4, false, none⟩
noncomputable abbrev S16 : List (Nat × Nat × LSum) := [(4294967296, 4, l16_4)]
noncomputable def con16 : Con := ⟨ps16, rs16, fun x => f16 x.1.1.1.1 x.1.1.1.2 x.1.1.2.1.1 x.1.1.2.1.2 x.1.1.2.2.1 x.1.1.2.2.2.1 x.1.1.2.2.2.2.1 x.1.1.2.2.2.2.2 x.1.2.1.1 x.1.2.1.2.1 x.1.2.1.2.2.1 x.1.2.1.2.2.2 x.1.2.2.1 x.1.2.2.2.1 x.1.2.2.2.2.1 x.1.2.2.2.2.2 x.2.1⟩
theorem r16_4 : Round Go.Proofs.Tryz.prog C16 (lookS S16) big 4294967296 4 l16_4 := ⟨by kernel_rfl, fun z => by kernel_rfl⟩
theorem e16 (x : Args ps16) : kTop Go.Proofs.Tryz.prog C16 (lookS S16) big 10 16 ps16 rs16 x = con16.f x := by kernel_rfl
theorem ok16 [Glob] [RngG Go.Proofs.Tryz.prog] (h : AllOK Go.Proofs.Tryz.prog L16) (h' : AllU Go.Proofs.Tryz.prog U16) : con16.OK Go.Proofs.Tryz.prog 16 := con_of_tree (lookC_ok h h') (rounds_of (l := S16) ⟨r16_4, trivial⟩) e16
abbrev ps7 : List Ty := [.pair (.pair (.pair (.int .i64) (.int .i64)) (.pair (.pair (.int .i64) (.int .i64)) (.pair (.int .i64) (.pair (.int .i64) (.pair (.int .i64) (.int .i64)))))) (.pair (.pair (.int .i64) (.pair (.int .i64) (.pair (.int .i64) (.bool)))) (.pair (.int .i64) (.pair (.row (.pair (.int .i64) (.pair (.int .i64) (.int .i64)))) (.pair (.row (.pair (.int .i64) (.pair (.int .i64) (.pair (.int .i64) (.pair (.int .i64) (.int .i64)))))) (.row (.pair (.int .i64) (.pair (.int .i64) (.int .i64)))))))), .row (.pair (.int .i64) (.pair (.int .i64) (.pair (.int .i64) (.pair (.int .i64) (.pair (.int .i64) (.pair (.int .i64) (.pair (.int .i64) (.pair (.int .i64) (.bool))))))))), .int .i64]
abbrev rs7 : List RTy := [.val (.bool)]
noncomputable abbrev L7 : List (Nat × Con) := [(8, con8), (9, con9), (13, con13), (16, con16)]
noncomputable abbrev U7 : List (Nat × UCon) := []
noncomputable abbrev C7 : Cons := lookC L7 U7
noncomputable abbrev S7 : List (Nat × Nat × LSum) := []
noncomputable def con7 : Con := ⟨ps7, rs7, fun x => f7 x.1.1.1.1 x.1.1.1.2 x.1.1.2.1.1 x.1.1.2.1.2 x.1.1.2.2.1 x.1.1.2.2.2.1 x.1.1.2.2.2.2.1 x.1.1.2.2.2.2.2 x.1.2.1.1 x.1.2.1.2.1 x.1.2.1.2.2.1 x.1.2.1.2.2.2 x.1.2.2.1 x.1.2.2.2.1 x.1.2.2.2.2.1 x.1.2.2.2.2.2 x.2.1 x.2.2.1⟩
theorem e7 (x : Args ps7) : kTop Go.Proofs.Tryz.prog C7 (lookS S7) big 10 7 ps7 rs7 x = con7.f x := by kernel_rfl
theorem ok7 [Glob] [RngG Go.Proofs.Tryz.prog] (h : AllOK Go.Proofs.Tryz.prog L7) (h' : AllU Go.Proofs.Tryz.prog U7) : con7.OK Go.Proofs.Tryz.prog 7 := con_of_tree (lookC_ok h h') (rounds_of (l := S7) trivial) e7

theorem k69 : con69.OK Go.Proofs.Tryz.prog 69 := ok69 trivial trivial
theorem k99 : con99.OK Go.Proofs.Tryz.prog 99 := ok99 trivial trivial
theorem k71 : con71.OK Go.Proofs.Tryz.prog 71 := ok71 ⟨k99, trivial⟩ trivial
theorem k100 : con100.OK Go.Proofs.Tryz.prog 100 := ok100 ⟨k99, trivial⟩ trivial
theorem k73 : con73.OK Go.Proofs.Tryz.prog 73 := ok73 ⟨k99, k100, trivial⟩ trivial
theorem k77 : con77.OK Go.Proofs.Tryz.prog 77 := ok77 trivial trivial
theorem k78 : con78.OK Go.Proofs.Tryz.prog 78 := ok78 ⟨k71, trivial⟩ trivial
theorem k38 : con38.OK Go.Proofs.Tryz.prog 38 := ok38 ⟨k69, k71, k73, k77, k78, trivial⟩ trivial
theorem k40 : con40.OK Go.Proofs.Tryz.prog 40 := ok40 trivial trivial
theorem k39 : con39.OK Go.Proofs.Tryz.prog 39 := ok39 ⟨k40, trivial⟩ trivial
theorem k82 : con82.OK Go.Proofs.Tryz.prog 82 := ok82 trivial trivial
theorem k83 : con83.OK Go.Proofs.Tryz.prog 83 := ok83 trivial trivial
theorem k41 : con41.OK Go.Proofs.Tryz.prog 41 := ok41 ⟨k82, k83, trivial⟩ trivial
theorem k42 : con42.OK Go.Proofs.Tryz.prog 42 := ok42 ⟨k71, trivial⟩ trivial
theorem k103 : con103.OK Go.Proofs.Tryz.prog 103 := ok103 ⟨k38, k77, k78, trivial⟩ trivial
theorem k85 : con85.OK Go.Proofs.Tryz.prog 85 := ok85 ⟨k38, k71, k78, k103, trivial⟩ trivial
theorem k104 : con104.OK Go.Proofs.Tryz.prog 104 := ok104 ⟨k38, trivial⟩ trivial
theorem k86 : con86.OK Go.Proofs.Tryz.prog 86 := ok86 ⟨k71, k104, trivial⟩ trivial
theorem k106 : con106.OK Go.Proofs.Tryz.prog 106 := ok106 trivial trivial
theorem k87 : con87.OK Go.Proofs.Tryz.prog 87 := ok87 ⟨k106, trivial⟩ trivial
theorem k88 : con88.OK Go.Proofs.Tryz.prog 88 := ok88 trivial trivial
theorem k43 : con43.OK Go.Proofs.Tryz.prog 43 := ok43 ⟨k85, k86, k87, k88, trivial⟩ trivial
theorem k118 : con118.OK Go.Proofs.Tryz.prog 118 := ok118 trivial trivial
theorem k108 : con108.OK Go.Proofs.Tryz.prog 108 := ok108 ⟨k118, trivial⟩ trivial
theorem k89 : con89.OK Go.Proofs.Tryz.prog 89 := ok89 ⟨k108, trivial⟩ trivial
theorem k44 : con44.OK Go.Proofs.Tryz.prog 44 := ok44 ⟨k40, k86, k88, k89, trivial⟩ trivial
theorem k14 : con14.OK Go.Proofs.Tryz.prog 14 := ok14 ⟨k38, k39, k40, k41, k42, k43, k44, trivial⟩ trivial
theorem k20 : con20.OK Go.Proofs.Tryz.prog 20 := ok20 ⟨okCPool, okCLease, okCHeld, trivial⟩ trivial
theorem k21 : con21.OK Go.Proofs.Tryz.prog 21 := ok21 ⟨okCHeld, trivial⟩ trivial
theorem k10 : con10.OK Go.Proofs.Tryz.prog 10 := ok10 ⟨k14, k21, okCPool, okCLease, okCHeld, trivial⟩ trivial
theorem k24 : con24.OK Go.Proofs.Tryz.prog 24 := ok24 trivial trivial
theorem k53 : con53.OK Go.Proofs.Tryz.prog 53 := ok53 trivial trivial
theorem k54 : ucn54.OK Go.Proofs.Tryz.prog 54 := ok54 trivial trivial
theorem k25 : con25.OK Go.Proofs.Tryz.prog 25 := ok25 ⟨k53, trivial⟩ ⟨k54, trivial⟩
theorem k26 : con26.OK Go.Proofs.Tryz.prog 26 := ok26 trivial trivial
theorem k55 : con55.OK Go.Proofs.Tryz.prog 55 := ok55 trivial trivial
theorem k27 : con27.OK Go.Proofs.Tryz.prog 27 := ok27 ⟨k55, trivial⟩ trivial
theorem k59 : con59.OK Go.Proofs.Tryz.prog 59 := ok59 trivial trivial
theorem k60 : con60.OK Go.Proofs.Tryz.prog 60 := ok60 trivial trivial
theorem k28 : con28.OK Go.Proofs.Tryz.prog 28 := ok28 ⟨k25, k59, k60, trivial⟩ trivial
theorem k29 : con29.OK Go.Proofs.Tryz.prog 29 := ok29 ⟨k53, trivial⟩ trivial
theorem k11 : con11.OK Go.Proofs.Tryz.prog 11 := ok11 ⟨k14, k24, k25, k26, k27, k28, k29, trivial⟩ trivial
theorem k97 : con97.OK Go.Proofs.Tryz.prog 97 := ok97 ⟨k53, trivial⟩ trivial
theorem k30 : con30.OK Go.Proofs.Tryz.prog 30 := ok30 ⟨k97, trivial⟩ trivial
theorem k31 : con31.OK Go.Proofs.Tryz.prog 31 := ok31 ⟨k97, trivial⟩ trivial
theorem k33 : con33.OK Go.Proofs.Tryz.prog 33 := ok33 ⟨k55, trivial⟩ trivial
theorem k65 : con65.OK Go.Proofs.Tryz.prog 65 := ok65 trivial trivial
theorem k34 : con34.OK Go.Proofs.Tryz.prog 34 := ok34 ⟨k31, k60, k65, trivial⟩ trivial
theorem k12 : con12.OK Go.Proofs.Tryz.prog 12 := ok12 ⟨k14, k30, k31, k33, k34, trivial⟩ trivial
theorem k66 : con66.OK Go.Proofs.Tryz.prog 66 := ok66 trivial trivial
theorem k35 : con35.OK Go.Proofs.Tryz.prog 35 := ok35 ⟨k66, trivial⟩ trivial
theorem k67 : con67.OK Go.Proofs.Tryz.prog 67 := ok67 trivial trivial
theorem k36 : con36.OK Go.Proofs.Tryz.prog 36 := ok36 ⟨k67, trivial⟩ trivial
theorem k68 : con68.OK Go.Proofs.Tryz.prog 68 := ok68 trivial trivial
theorem k37 : con37.OK Go.Proofs.Tryz.prog 37 := ok37 ⟨k68, trivial⟩ trivial
theorem k13 : con13.OK Go.Proofs.Tryz.prog 13 := ok13 ⟨k35, k36, k37, trivial⟩ trivial
theorem k90 : con90.OK Go.Proofs.Tryz.prog 90 := ok90 trivial trivial
theorem k45 : con45.OK Go.Proofs.Tryz.prog 45 := ok45 ⟨k39, k90, trivial⟩ trivial
theorem k142 : con142.OK Go.Proofs.Tryz.prog 142 := ok142 trivial trivial
theorem k160 : con160.OK Go.Proofs.Tryz.prog 160 := ok160 trivial trivial
theorem k143 : con143.OK Go.Proofs.Tryz.prog 143 := ok143 ⟨k160, trivial⟩ trivial
theorem k132 : con132.OK Go.Proofs.Tryz.prog 132 := ok132 ⟨k142, k143, trivial⟩ trivial
theorem k120 : con120.OK Go.Proofs.Tryz.prog 120 := ok120 ⟨k108, k132, trivial⟩ trivial
theorem k109 : con109.OK Go.Proofs.Tryz.prog 109 := ok109 ⟨okCLease, k89, k108, k120, trivial⟩ ⟨okILease, trivial⟩
theorem k110 : con110.OK Go.Proofs.Tryz.prog 110 := ok110 ⟨okCLease, k89, trivial⟩ trivial
theorem k133 : con133.OK Go.Proofs.Tryz.prog 133 := ok133 trivial trivial
theorem k123 : con123.OK Go.Proofs.Tryz.prog 123 := ok123 ⟨k133, trivial⟩ trivial
theorem k125 : con125.OK Go.Proofs.Tryz.prog 125 := ok125 ⟨k123, k132, trivial⟩ trivial
theorem k111 : con111.OK Go.Proofs.Tryz.prog 111 := ok111 ⟨okCHeld, k123, k125, trivial⟩ ⟨okIHeld, trivial⟩
theorem k112 : con112.OK Go.Proofs.Tryz.prog 112 := ok112 ⟨k118, trivial⟩ ⟨okSort, okCompact, trivial⟩
theorem k158 : con158.OK Go.Proofs.Tryz.prog 158 := ok158 ⟨k82, k83, trivial⟩ trivial
theorem k139 : con139.OK Go.Proofs.Tryz.prog 139 := ok139 ⟨k41, k106, k158, trivial⟩ trivial
theorem k128 : con128.OK Go.Proofs.Tryz.prog 128 := ok128 ⟨okCPool, k139, trivial⟩ trivial
theorem k113 : con113.OK Go.Proofs.Tryz.prog 113 := ok113 ⟨k128, trivial⟩ trivial
theorem k114 : con114.OK Go.Proofs.Tryz.prog 114 := ok114 ⟨k128, trivial⟩ trivial
theorem k115 : con115.OK Go.Proofs.Tryz.prog 115 := ok115 ⟨k128, trivial⟩ trivial
theorem k116 : con116.OK Go.Proofs.Tryz.prog 116 := ok116 ⟨k128, trivial⟩ trivial
theorem k15 : con15.OK Go.Proofs.Tryz.prog 15 := ok15 ⟨k10, k14, k20, k45, k71, k89, k109, k110, k111, k112, k113, k114, k115, k116, trivial⟩ trivial
theorem k17 : con17.OK Go.Proofs.Tryz.prog 17 := ok17 ⟨k14, trivial⟩ trivial
theorem k18 : con18.OK Go.Proofs.Tryz.prog 18 := ok18 trivial trivial
theorem k8 : con8.OK Go.Proofs.Tryz.prog 8 := ok8 ⟨k10, k11, k12, k13, k15, k17, k18, trivial⟩ trivial
theorem k19 : con19.OK Go.Proofs.Tryz.prog 19 := ok19 trivial trivial
theorem k9 : con9.OK Go.Proofs.Tryz.prog 9 := ok9 ⟨k19, trivial⟩ trivial
theorem k3 : con3.OK Go.Proofs.Tryz.prog 3 := ok3 ⟨k8, k9, k10, k11, k12, k13, k14, trivial⟩ trivial
theorem k4 : con4.OK Go.Proofs.Tryz.prog 4 := ok4 ⟨k8, k9, k10, k13, k14, k15, trivial⟩ trivial
theorem k5 : con5.OK Go.Proofs.Tryz.prog 5 := ok5 ⟨k8, k9, k10, k11, k13, trivial⟩ trivial
theorem k16 : con16.OK Go.Proofs.Tryz.prog 16 := ok16 ⟨k15, k20, trivial⟩ trivial
theorem k7 : con7.OK Go.Proofs.Tryz.prog 7 := ok7 ⟨k8, k9, k13, k16, trivial⟩ trivial
end Go.Proofs.Zz
