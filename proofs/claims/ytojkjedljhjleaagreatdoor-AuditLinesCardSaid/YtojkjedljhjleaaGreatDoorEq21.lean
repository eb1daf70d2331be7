/- What the functions come to: the equations, by the kernel, and their contracts. -/
import Derived.Test.YtojkjedljhjleaaGreatDoorPure21
namespace Go.Proofs.Zz
open Go Go.Sy
set_option linter.unusedVariables false
set_option maxHeartbeats 0
set_option maxRecDepth 100000
abbrev ps53 : List Ty := [.int .i64, .int .i64, .int .i64]
abbrev rs53 : List RTy := [.val (.bool)]
noncomputable abbrev L53 : List (Nat × Con) := []
noncomputable abbrev U53 : List (Nat × UCon) := []
noncomputable abbrev C53 : Cons := lookC L53 U53
noncomputable abbrev S53 : List (Nat × Nat × LSum) := []
noncomputable def con53 : Con := ⟨ps53, rs53, fun x => f53 x.1 x.2.1 x.2.2.1⟩
theorem e53 (x : Args ps53) : kTop Go.Proofs.Tryz.prog C53 (lookS S53) big 10 53 ps53 rs53 x = con53.f x := by kernel_rfl
theorem ok53 [Glob] [RngG Go.Proofs.Tryz.prog] (h : AllOK Go.Proofs.Tryz.prog L53) (h' : AllU Go.Proofs.Tryz.prog U53) : con53.OK Go.Proofs.Tryz.prog 53 := con_of_tree (lookC_ok h h') (rounds_of (l := S53) trivial) e53
abbrev ps68 : List Ty := [.pair (.int .i64) (.int .i64)]
abbrev rs68 : List RTy := [.val (.bool)]
noncomputable abbrev L68 : List (Nat × Con) := []
noncomputable abbrev U68 : List (Nat × UCon) := []
noncomputable abbrev C68 : Cons := lookC L68 U68
noncomputable abbrev S68 : List (Nat × Nat × LSum) := []
noncomputable def con68 : Con := ⟨ps68, rs68, fun x => f68 x.1.1 x.1.2⟩
theorem e68 (x : Args ps68) : kTop Go.Proofs.Tryz.prog C68 (lookS S68) big 10 68 ps68 rs68 x = con68.f x := by kernel_rfl
theorem ok68 [Glob] [RngG Go.Proofs.Tryz.prog] (h : AllOK Go.Proofs.Tryz.prog L68) (h' : AllU Go.Proofs.Tryz.prog U68) : con68.OK Go.Proofs.Tryz.prog 68 := con_of_tree (lookC_ok h h') (rounds_of (l := S68) trivial) e68
abbrev ps34 : List Ty := [.pair (.int .i64) (.int .i64)]
abbrev rs34 : List RTy := [.val (.int .i64)]
noncomputable abbrev L34 : List (Nat × Con) := [(68, con68)]
noncomputable abbrev U34 : List (Nat × UCon) := []
noncomputable abbrev C34 : Cons := lookC L34 U34
noncomputable abbrev S34 : List (Nat × Nat × LSum) := []
noncomputable def con34 : Con := ⟨ps34, rs34, fun x => f34 x.1.1 x.1.2⟩
theorem e34 (x : Args ps34) : kTop Go.Proofs.Tryz.prog C34 (lookS S34) big 10 34 ps34 rs34 x = con34.f x := by kernel_rfl
theorem ok34 [Glob] [RngG Go.Proofs.Tryz.prog] (h : AllOK Go.Proofs.Tryz.prog L34) (h' : AllU Go.Proofs.Tryz.prog U34) : con34.OK Go.Proofs.Tryz.prog 34 := con_of_tree (lookC_ok h h') (rounds_of (l := S34) trivial) e34
abbrev ps48 : List Ty := [.pair (.int .i64) (.int .i64), .int .i64]
abbrev rs48 : List RTy := [.val (.int .i64)]
noncomputable abbrev L48 : List (Nat × Con) := [(68, con68)]
noncomputable abbrev U48 : List (Nat × UCon) := []
noncomputable abbrev C48 : Cons := lookC L48 U48
noncomputable abbrev S48 : List (Nat × Nat × LSum) := []
noncomputable def con48 : Con := ⟨ps48, rs48, fun x => f48 x.1.1 x.1.2 x.2.1⟩
theorem e48 (x : Args ps48) : kTop Go.Proofs.Tryz.prog C48 (lookS S48) big 10 48 ps48 rs48 x = con48.f x := by kernel_rfl
theorem ok48 [Glob] [RngG Go.Proofs.Tryz.prog] (h : AllOK Go.Proofs.Tryz.prog L48) (h' : AllU Go.Proofs.Tryz.prog U48) : con48.OK Go.Proofs.Tryz.prog 48 := con_of_tree (lookC_ok h h') (rounds_of (l := S48) trivial) e48
abbrev ps56 : List Ty := [.pair (.int .i64) (.int .i64), .pair (.int .i64) (.int .i64)]
abbrev rs56 : List RTy := [.val (.bool)]
noncomputable abbrev L56 : List (Nat × Con) := [(48, con48), (68, con68)]
noncomputable abbrev U56 : List (Nat × UCon) := []
noncomputable abbrev C56 : Cons := lookC L56 U56
noncomputable abbrev S56 : List (Nat × Nat × LSum) := []
noncomputable def con56 : Con := ⟨ps56, rs56, fun x => f56 x.1.1 x.1.2 x.2.1.1 x.2.1.2⟩
theorem e56 (x : Args ps56) : kTop Go.Proofs.Tryz.prog C56 (lookS S56) big 10 56 ps56 rs56 x = con56.f x := by kernel_rfl
theorem ok56 [Glob] [RngG Go.Proofs.Tryz.prog] (h : AllOK Go.Proofs.Tryz.prog L56) (h' : AllU Go.Proofs.Tryz.prog U56) : con56.OK Go.Proofs.Tryz.prog 56 := con_of_tree (lookC_ok h h') (rounds_of (l := S56) trivial) e56
abbrev ps49 : List Ty := [.pair (.pair (.int .i64) (.int .i64)) (.pair (.pair (.int .i64) (.int .i64)) (.pair (.int .i64) (.pair (.int .i64) (.pair (.int .i64) (.int .i64)))))]
abbrev rs49 : List RTy := [.val (.int .i64)]
noncomputable abbrev L49 : List (Nat × Con) := [(34, con34)]
noncomputable abbrev U49 : List (Nat × UCon) := []
noncomputable abbrev C49 : Cons := lookC L49 U49
noncomputable abbrev S49 : List (Nat × Nat × LSum) := []
noncomputable def con49 : Con := ⟨ps49, rs49, fun x => f49 x.1.1.1 x.1.1.2 x.1.2.1.1 x.1.2.1.2 x.1.2.2.1 x.1.2.2.2.1 x.1.2.2.2.2.1 x.1.2.2.2.2.2⟩
theorem e49 (x : Args ps49) : kTop Go.Proofs.Tryz.prog C49 (lookS S49) big 10 49 ps49 rs49 x = con49.f x := by kernel_rfl
theorem ok49 [Glob] [RngG Go.Proofs.Tryz.prog] (h : AllOK Go.Proofs.Tryz.prog L49) (h' : AllU Go.Proofs.Tryz.prog U49) : con49.OK Go.Proofs.Tryz.prog 49 := con_of_tree (lookC_ok h h') (rounds_of (l := S49) trivial) e49
abbrev ps60 : List Ty := [.pair (.pair (.int .i64) (.int .i64)) (.pair (.pair (.int .i64) (.int .i64)) (.pair (.int .i64) (.pair (.int .i64) (.pair (.int .i64) (.int .i64)))))]
abbrev rs60 : List RTy := [.val (.int .i64)]
noncomputable abbrev L60 : List (Nat × Con) := []
noncomputable abbrev U60 : List (Nat × UCon) := []
noncomputable abbrev C60 : Cons := lookC L60 U60
noncomputable abbrev S60 : List (Nat × Nat × LSum) := []
noncomputable def con60 : Con := ⟨ps60, rs60, fun x => f60 x.1.1.1 x.1.1.2 x.1.2.1.1 x.1.2.1.2 x.1.2.2.1 x.1.2.2.2.1 x.1.2.2.2.2.1 x.1.2.2.2.2.2⟩
theorem e60 (x : Args ps60) : kTop Go.Proofs.Tryz.prog C60 (lookS S60) big 10 60 ps60 rs60 x = con60.f x := by kernel_rfl
theorem ok60 [Glob] [RngG Go.Proofs.Tryz.prog] (h : AllOK Go.Proofs.Tryz.prog L60) (h' : AllU Go.Proofs.Tryz.prog U60) : con60.OK Go.Proofs.Tryz.prog 60 := con_of_tree (lookC_ok h h') (rounds_of (l := S60) trivial) e60
abbrev ps27 : List Ty := [.pair (.pair (.int .i64) (.int .i64)) (.pair (.pair (.int .i64) (.int .i64)) (.pair (.int .i64) (.pair (.int .i64) (.pair (.int .i64) (.int .i64)))))]
abbrev rs27 : List RTy := [.val (.bool)]
noncomputable abbrev L27 : List (Nat × Con) := [(34, con34), (49, con49), (53, con53), (56, con56), (60, con60)]
noncomputable abbrev U27 : List (Nat × UCon) := []
noncomputable abbrev C27 : Cons := lookC L27 U27
noncomputable abbrev S27 : List (Nat × Nat × LSum) := []
noncomputable def con27 : Con := ⟨ps27, rs27, fun x => f27 x.1.1.1 x.1.1.2 x.1.2.1.1 x.1.2.1.2 x.1.2.2.1 x.1.2.2.2.1 x.1.2.2.2.2.1 x.1.2.2.2.2.2⟩
theorem e27 (x : Args ps27) : kTop Go.Proofs.Tryz.prog C27 (lookS S27) big 10 27 ps27 rs27 x = con27.f x := by kernel_rfl
theorem ok27 [Glob] [RngG Go.Proofs.Tryz.prog] (h : AllOK Go.Proofs.Tryz.prog L27) (h' : AllU Go.Proofs.Tryz.prog U27) : con27.OK Go.Proofs.Tryz.prog 27 := con_of_tree (lookC_ok h h') (rounds_of (l := S27) trivial) e27
abbrev ps29 : List Ty := [.int .i64, .int .i64, .int .i64]
abbrev rs29 : List RTy := [.val (.bool)]
noncomputable abbrev L29 : List (Nat × Con) := []
noncomputable abbrev U29 : List (Nat × UCon) := []
noncomputable abbrev C29 : Cons := lookC L29 U29
noncomputable abbrev S29 : List (Nat × Nat × LSum) := []
noncomputable def con29 : Con := ⟨ps29, rs29, fun x => f29 x.1 x.2.1 x.2.2.1⟩
theorem e29 (x : Args ps29) : kTop Go.Proofs.Tryz.prog C29 (lookS S29) big 10 29 ps29 rs29 x = con29.f x := by kernel_rfl
theorem ok29 [Glob] [RngG Go.Proofs.Tryz.prog] (h : AllOK Go.Proofs.Tryz.prog L29) (h' : AllU Go.Proofs.Tryz.prog U29) : con29.OK Go.Proofs.Tryz.prog 29 := con_of_tree (lookC_ok h h') (rounds_of (l := S29) trivial) e29
abbrev ps28 : List Ty := [.pair (.int .i64) (.pair (.int .i64) (.pair (.int .i64) (.bool)))]
abbrev rs28 : List RTy := [.val (.bool)]
noncomputable abbrev L28 : List (Nat × Con) := [(29, con29)]
noncomputable abbrev U28 : List (Nat × UCon) := []
noncomputable abbrev C28 : Cons := lookC L28 U28
noncomputable abbrev S28 : List (Nat × Nat × LSum) := []
noncomputable def con28 : Con := ⟨ps28, rs28, fun x => f28 x.1.1 x.1.2.1 x.1.2.2.1 x.1.2.2.2⟩
theorem e28 (x : Args ps28) : kTop Go.Proofs.Tryz.prog C28 (lookS S28) big 10 28 ps28 rs28 x = con28.f x := by kernel_rfl
theorem ok28 [Glob] [RngG Go.Proofs.Tryz.prog] (h : AllOK Go.Proofs.Tryz.prog L28) (h' : AllU Go.Proofs.Tryz.prog U28) : con28.OK Go.Proofs.Tryz.prog 28 := con_of_tree (lookC_ok h h') (rounds_of (l := S28) trivial) e28
abbrev ps64 : List Ty := [.pair (.int .i64) (.pair (.int .i64) (.int .i64)), .pair (.int .i64) (.pair (.int .i64) (.int .i64))]
abbrev rs64 : List RTy := [.val (.bool)]
noncomputable abbrev L64 : List (Nat × Con) := []
noncomputable abbrev U64 : List (Nat × UCon) := []
noncomputable abbrev C64 : Cons := lookC L64 U64
noncomputable abbrev S64 : List (Nat × Nat × LSum) := []
noncomputable def con64 : Con := ⟨ps64, rs64, fun x => f64 x.1.1 x.1.2.1 x.1.2.2 x.2.1.1 x.2.1.2.1 x.2.1.2.2⟩
theorem e64 (x : Args ps64) : kTop Go.Proofs.Tryz.prog C64 (lookS S64) big 10 64 ps64 rs64 x = con64.f x := by kernel_rfl
theorem ok64 [Glob] [RngG Go.Proofs.Tryz.prog] (h : AllOK Go.Proofs.Tryz.prog L64) (h' : AllU Go.Proofs.Tryz.prog U64) : con64.OK Go.Proofs.Tryz.prog 64 := con_of_tree (lookC_ok h h') (rounds_of (l := S64) trivial) e64
abbrev ps65 : List Ty := [.pair (.int .i64) (.pair (.int .i64) (.int .i64)), .int .i64]
abbrev rs65 : List RTy := [.val (.bool)]
noncomputable abbrev L65 : List (Nat × Con) := []
noncomputable abbrev U65 : List (Nat × UCon) := []
noncomputable abbrev C65 : Cons := lookC L65 U65
noncomputable abbrev S65 : List (Nat × Nat × LSum) := []
noncomputable def con65 : Con := ⟨ps65, rs65, fun x => f65 x.1.1 x.1.2.1 x.1.2.2 x.2.1⟩
theorem e65 (x : Args ps65) : kTop Go.Proofs.Tryz.prog C65 (lookS S65) big 10 65 ps65 rs65 x = con65.f x := by kernel_rfl
theorem ok65 [Glob] [RngG Go.Proofs.Tryz.prog] (h : AllOK Go.Proofs.Tryz.prog L65) (h' : AllU Go.Proofs.Tryz.prog U65) : con65.OK Go.Proofs.Tryz.prog 65 := con_of_tree (lookC_ok h h') (rounds_of (l := S65) trivial) e65
abbrev ps30 : List Ty := [.row (.pair (.int .i64) (.pair (.int .i64) (.int .i64))), .int .i64]
abbrev rs30 : List RTy := [.val (.bool)]
noncomputable abbrev L30 : List (Nat × Con) := [(64, con64), (65, con65)]
noncomputable abbrev U30 : List (Nat × UCon) := []
noncomputable abbrev C30 : Cons := lookC L30 U30
abbrev s30_4 : LShape := ⟨39, [(0, .cont (.pair (.int .i64) (.pair (.int .i64) (.int .i64)))), (1, .int .i64), (19, .cont (.pair (.int .i64) (.pair (.int .i64) (.int .i64)))), (20, .int .i64), (21, .int .i64)], [], [], []⟩
abbrev s30_69_2_0 : LShape := ⟨19, [(0, .cont (.pair (.int .i64) (.pair (.int .i64) (.int .i64)))), (1, .fix (.fn (.func 63) [] [(.ptr 4294987824 0)])), (7, .int .i64), (8, .int .i64)], [(4294987824, .box 44 [.int .i64, .int .i64, .int .i64])], [], []⟩
abbrev o30_69_2_0 : LShape := ⟨19, [], [(4294987824, .box 44 [.int .i64, .int .i64, .int .i64])], [], []⟩
abbrev q30_69_2_0 : LShape := ⟨19, [(4, .int .i64)], [(4294987824, .box 44 [.int .i64, .int .i64, .int .i64])], [], []⟩
noncomputable def l30_69_2_0 : LSum := ⟨7, 69, s30_69_2_0, 0, o30_69_2_0, q30_69_2_0, u30_69_2_0, false⟩
abbrev o30_4 : LShape := ⟨39, [], [], [], []⟩
abbrev q30_4 : LShape := ⟨39, [(4, .bool)], [], [], []⟩
noncomputable def l30_4 : LSum := ⟨9, 30, s30_4, 0, o30_4, q30_4, u30_4, false⟩
noncomputable abbrev S30 : List (Nat × Nat × LSum) := [(79228694094088327415612833792, 2, l30_69_2_0), (4294967296, 4, l30_4)]
noncomputable def con30 : Con := ⟨ps30, rs30, fun x => f30 x.1 x.2.1⟩
theorem r30_69_2_0 : Round Go.Proofs.Tryz.prog C30 (lookS S30) big 79228694094088327415612833792 2 l30_69_2_0 := ⟨by kernel_rfl, fun z => by kernel_rfl⟩
theorem r30_4 : Round Go.Proofs.Tryz.prog C30 (lookS S30) big 4294967296 4 l30_4 := ⟨by kernel_rfl, fun z => by kernel_rfl⟩
theorem e30 (x : Args ps30) : kTop Go.Proofs.Tryz.prog C30 (lookS S30) big 10 30 ps30 rs30 x = con30.f x := by kernel_rfl
theorem ok30 [Glob] [RngG Go.Proofs.Tryz.prog] (h : AllOK Go.Proofs.Tryz.prog L30) (h' : AllU Go.Proofs.Tryz.prog U30) : con30.OK Go.Proofs.Tryz.prog 30 := con_of_tree (lookC_ok h h') (rounds_of (l := S30) ⟨r30_69_2_0, r30_4, trivial⟩) e30
abbrev ps31 : List Ty := [.pair (.pair (.pair (.int .i64) (.int .i64)) (.pair (.pair (.int .i64) (.int .i64)) (.pair (.int .i64) (.pair (.int .i64) (.pair (.int .i64) (.int .i64)))))) (.pair (.pair (.int .i64) (.pair (.int .i64) (.pair (.int .i64) (.bool)))) (.pair (.int .i64) (.pair (.row (.pair (.int .i64) (.pair (.int .i64) (.int .i64)))) (.pair (.row (.pair (.int .i64) (.pair (.int .i64) (.pair (.int .i64) (.pair (.int .i64) (.int .i64)))))) (.row (.pair (.int .i64) (.pair (.int .i64) (.int .i64))))))))]
abbrev rs31 : List RTy := [.val (.int .i64)]
noncomputable abbrev L31 : List (Nat × Con) := [(34, con34)]
noncomputable abbrev U31 : List (Nat × UCon) := []
noncomputable abbrev C31 : Cons := lookC L31 U31
noncomputable abbrev S31 : List (Nat × Nat × LSum) := []
noncomputable def con31 : Con := ⟨ps31, rs31, fun x => f31 x.1.1.1.1 x.1.1.1.2 x.1.1.2.1.1 x.1.1.2.1.2 x.1.1.2.2.1 x.1.1.2.2.2.1 x.1.1.2.2.2.2.1 x.1.1.2.2.2.2.2 x.1.2.1.1 x.1.2.1.2.1 x.1.2.1.2.2.1 x.1.2.1.2.2.2 x.1.2.2.1 x.1.2.2.2.1 x.1.2.2.2.2.1 x.1.2.2.2.2.2⟩
theorem e31 (x : Args ps31) : kTop Go.Proofs.Tryz.prog C31 (lookS S31) big 10 31 ps31 rs31 x = con31.f x := by kernel_rfl
theorem ok31 [Glob] [RngG Go.Proofs.Tryz.prog] (h : AllOK Go.Proofs.Tryz.prog L31) (h' : AllU Go.Proofs.Tryz.prog U31) : con31.OK Go.Proofs.Tryz.prog 31 := con_of_tree (lookC_ok h h') (rounds_of (l := S31) trivial) e31
abbrev ps50 : List Ty := [.pair (.pair (.int .i64) (.int .i64)) (.pair (.pair (.int .i64) (.int .i64)) (.pair (.int .i64) (.pair (.int .i64) (.pair (.int .i64) (.int .i64)))))]
abbrev rs50 : List RTy := [.val (.int .i64)]
noncomputable abbrev L50 : List (Nat × Con) := [(27, con27), (49, con49), (60, con60)]
noncomputable abbrev U50 : List (Nat × UCon) := []
noncomputable abbrev C50 : Cons := lookC L50 U50
noncomputable abbrev S50 : List (Nat × Nat × LSum) := []
noncomputable def con50 : Con := ⟨ps50, rs50, fun x => f50 x.1.1.1 x.1.1.2 x.1.2.1.1 x.1.2.1.2 x.1.2.2.1 x.1.2.2.2.1 x.1.2.2.2.2.1 x.1.2.2.2.2.2⟩
theorem e50 (x : Args ps50) : kTop Go.Proofs.Tryz.prog C50 (lookS S50) big 10 50 ps50 rs50 x = con50.f x := by kernel_rfl
theorem ok50 [Glob] [RngG Go.Proofs.Tryz.prog] (h : AllOK Go.Proofs.Tryz.prog L50) (h' : AllU Go.Proofs.Tryz.prog U50) : con50.OK Go.Proofs.Tryz.prog 50 := con_of_tree (lookC_ok h h') (rounds_of (l := S50) trivial) e50
abbrev ps21 : List Ty := [.pair (.pair (.int .i64) (.int .i64)) (.pair (.pair (.int .i64) (.int .i64)) (.pair (.int .i64) (.pair (.int .i64) (.pair (.int .i64) (.int .i64))))), .int .i64]
abbrev rs21 : List RTy := [.val (.pair (.int .i64) (.pair (.int .i64) (.int .i64))), .val (.bool)]
noncomputable abbrev L21 : List (Nat × Con) := [(27, con27), (34, con34), (49, con49), (50, con50)]
noncomputable abbrev U21 : List (Nat × UCon) := []
noncomputable abbrev C21 : Cons := lookC L21 U21
noncomputable abbrev S21 : List (Nat × Nat × LSum) := []
noncomputable def con21 : Con := ⟨ps21, rs21, fun x => f21 x.1.1.1 x.1.1.2 x.1.2.1.1 x.1.2.1.2 x.1.2.2.1 x.1.2.2.2.1 x.1.2.2.2.2.1 x.1.2.2.2.2.2 x.2.1⟩
theorem e21 (x : Args ps21) : kTop Go.Proofs.Tryz.prog C21 (lookS S21) big 10 21 ps21 rs21 x = con21.f x := by kernel_rfl
theorem ok21 [Glob] [RngG Go.Proofs.Tryz.prog] (h : AllOK Go.Proofs.Tryz.prog L21) (h' : AllU Go.Proofs.Tryz.prog U21) : con21.OK Go.Proofs.Tryz.prog 21 := con_of_tree (lookC_ok h h') (rounds_of (l := S21) trivial) e21
abbrev ps13 : List Ty := [.pair (.pair (.int .i64) (.int .i64)) (.pair (.pair (.int .i64) (.int .i64)) (.pair (.int .i64) (.pair (.int .i64) (.pair (.int .i64) (.int .i64)))))]
abbrev rs13 : List RTy := [.val (.int .i64)]
noncomputable abbrev L13 : List (Nat × Con) := [(27, con27)]
noncomputable abbrev U13 : List (Nat × UCon) := []
noncomputable abbrev C13 : Cons := lookC L13 U13
noncomputable abbrev S13 : List (Nat × Nat × LSum) := []
noncomputable def con13 : Con := ⟨ps13, rs13, fun x => f13 x.1.1.1 x.1.1.2 x.1.2.1.1 x.1.2.1.2 x.1.2.2.1 x.1.2.2.2.1 x.1.2.2.2.2.1 x.1.2.2.2.2.2⟩
theorem e13 (x : Args ps13) : kTop Go.Proofs.Tryz.prog C13 (lookS S13) big 10 13 ps13 rs13 x = con13.f x := by kernel_rfl
theorem ok13 [Glob] [RngG Go.Proofs.Tryz.prog] (h : AllOK Go.Proofs.Tryz.prog L13) (h' : AllU Go.Proofs.Tryz.prog U13) : con13.OK Go.Proofs.Tryz.prog 13 := con_of_tree (lookC_ok h h') (rounds_of (l := S13) trivial) e13
abbrev ps23 : List Ty := [.pair (.pair (.int .i64) (.int .i64)) (.pair (.pair (.int .i64) (.int .i64)) (.pair (.int .i64) (.pair (.int .i64) (.pair (.int .i64) (.int .i64))))), .int .i64, .int .i64]
abbrev rs23 : List RTy := [.val (.pair (.int .i64) (.pair (.int .i64) (.int .i64))), .val (.bool)]
noncomputable abbrev L23 : List (Nat × Con) := [(13, con13), (34, con34)]
noncomputable abbrev U23 : List (Nat × UCon) := []
noncomputable abbrev C23 : Cons := lookC L23 U23
noncomputable abbrev S23 : List (Nat × Nat × LSum) := []
noncomputable def con23 : Con := ⟨ps23, rs23, fun x => f23 x.1.1.1 x.1.1.2 x.1.2.1.1 x.1.2.1.2 x.1.2.2.1 x.1.2.2.2.1 x.1.2.2.2.2.1 x.1.2.2.2.2.2 x.2.1 x.2.2.1⟩
theorem e23 (x : Args ps23) : kTop Go.Proofs.Tryz.prog C23 (lookS S23) big 10 23 ps23 rs23 x = con23.f x := by kernel_rfl
theorem ok23 [Glob] [RngG Go.Proofs.Tryz.prog] (h : AllOK Go.Proofs.Tryz.prog L23) (h' : AllU Go.Proofs.Tryz.prog U23) : con23.OK Go.Proofs.Tryz.prog 23 := con_of_tree (lookC_ok h h') (rounds_of (l := S23) trivial) e23
abbrev ps71 : List Ty := [.pair (.int .i64) (.pair (.int .i64) (.int .i64)), .int .i64]
abbrev rs71 : List RTy := [.val (.bool)]
noncomputable abbrev L71 : List (Nat × Con) := []
noncomputable abbrev U71 : List (Nat × UCon) := []
noncomputable abbrev C71 : Cons := lookC L71 U71
noncomputable abbrev S71 : List (Nat × Nat × LSum) := []
noncomputable def con71 : Con := ⟨ps71, rs71, fun x => f71 x.1.1 x.1.2.1 x.1.2.2 x.2.1⟩
theorem e71 (x : Args ps71) : kTop Go.Proofs.Tryz.prog C71 (lookS S71) big 10 71 ps71 rs71 x = con71.f x := by kernel_rfl
theorem ok71 [Glob] [RngG Go.Proofs.Tryz.prog] (h : AllOK Go.Proofs.Tryz.prog L71) (h' : AllU Go.Proofs.Tryz.prog U71) : con71.OK Go.Proofs.Tryz.prog 71 := con_of_tree (lookC_ok h h') (rounds_of (l := S71) trivial) e71
abbrev ps35 : List Ty := [.row (.pair (.int .i64) (.pair (.int .i64) (.int .i64))), .int .i64]
abbrev rs35 : List RTy := [.val (.int .i64)]
noncomputable abbrev L35 : List (Nat × Con) := [(71, con71)]
noncomputable abbrev U35 : List (Nat × UCon) := []
noncomputable abbrev C35 : Cons := lookC L35 U35
abbrev s35_69_2_0 : LShape := ⟨19, [(0, .cont (.pair (.int .i64) (.pair (.int .i64) (.int .i64)))), (1, .fix (.fn (.func 70) [] [(.ptr 4294967296 0)])), (7, .int .i64), (8, .int .i64)], [(4294967296, .box 3 [.int .i64])], [], []⟩
abbrev o35_69_2_0 : LShape := ⟨19, [], [(4294967296, .box 3 [.int .i64])], [], []⟩
abbrev q35_69_2_0 : LShape := ⟨19, [(4, .int .i64)], [(4294967296, .box 3 [.int .i64])], [], []⟩
noncomputable def l35_69_2_0 : LSum := ⟨8, 69, s35_69_2_0, 0, o35_69_2_0, q35_69_2_0, u35_69_2_0, false⟩
noncomputable abbrev S35 : List (Nat × Nat × LSum) := [(18446761807629516800, 2, l35_69_2_0)]
noncomputable def con35 : Con := ⟨ps35, rs35, fun x => f35 x.1 x.2.1⟩
theorem r35_69_2_0 : Round Go.Proofs.Tryz.prog C35 (lookS S35) big 18446761807629516800 2 l35_69_2_0 := ⟨by kernel_rfl, fun z => by kernel_rfl⟩
theorem e35 (x : Args ps35) : kTop Go.Proofs.Tryz.prog C35 (lookS S35) big 10 35 ps35 rs35 x = con35.f x := by kernel_rfl
theorem ok35 [Glob] [RngG Go.Proofs.Tryz.prog] (h : AllOK Go.Proofs.Tryz.prog L35) (h' : AllU Go.Proofs.Tryz.prog U35) : con35.OK Go.Proofs.Tryz.prog 35 := con_of_tree (lookC_ok h h') (rounds_of (l := S35) ⟨r35_69_2_0, trivial⟩) e35
abbrev ps67 : List Ty := [.int .i64, .int .i64, .int .i64, .int .i64]
abbrev rs67 : List RTy := [.val (.bool)]
noncomputable abbrev L67 : List (Nat × Con) := []
noncomputable abbrev U67 : List (Nat × UCon) := []
noncomputable abbrev C67 : Cons := lookC L67 U67
noncomputable abbrev S67 : List (Nat × Nat × LSum) := []
noncomputable def con67 : Con := ⟨ps67, rs67, fun x => f67 x.1 x.2.1 x.2.2.1 x.2.2.2.1⟩
theorem e67 (x : Args ps67) : kTop Go.Proofs.Tryz.prog C67 (lookS S67) big 10 67 ps67 rs67 x = con67.f x := by kernel_rfl
theorem ok67 [Glob] [RngG Go.Proofs.Tryz.prog] (h : AllOK Go.Proofs.Tryz.prog L67) (h' : AllU Go.Proofs.Tryz.prog U67) : con67.OK Go.Proofs.Tryz.prog 67 := con_of_tree (lookC_ok h h') (rounds_of (l := S67) trivial) e67
abbrev ps32 : List Ty := [.pair (.pair (.pair (.int .i64) (.int .i64)) (.pair (.pair (.int .i64) (.int .i64)) (.pair (.int .i64) (.pair (.int .i64) (.pair (.int .i64) (.int .i64)))))) (.pair (.pair (.int .i64) (.pair (.int .i64) (.pair (.int .i64) (.bool)))) (.pair (.int .i64) (.pair (.row (.pair (.int .i64) (.pair (.int .i64) (.int .i64)))) (.pair (.row (.pair (.int .i64) (.pair (.int .i64) (.pair (.int .i64) (.pair (.int .i64) (.int .i64)))))) (.row (.pair (.int .i64) (.pair (.int .i64) (.int .i64))))))))]
abbrev rs32 : List RTy := [.val (.bool)]
noncomputable abbrev L32 : List (Nat × Con) := [(21, con21), (23, con23), (35, con35), (67, con67)]
noncomputable abbrev U32 : List (Nat × UCon) := []
noncomputable abbrev C32 : Cons := lookC L32 U32
abbrev s32_3 : LShape := ⟨124, [(1, .fix (.ptr 4294967296 0)), (3, .fix (.mp 4294971392)), (12, .cont (.pair (.int .i64) (.pair (.int .i64) (.pair (.int .i64) (.pair (.int .i64) (.int .i64)))))), (13, .int .i64), (14, .int .i64)], [], [(4294967296, .box 32 [.int .i64, .int .i64, .int .i64, .int .i64, .int .i64, .int .i64, .int .i64, .int .i64, .int .i64, .int .i64, .int .i64, .bool, .int .i64, .cont (.pair (.int .i64) (.pair (.int .i64) (.int .i64))), .cont (.pair (.int .i64) (.pair (.int .i64) (.pair (.int .i64) (.pair (.int .i64) (.int .i64))))), .cont (.pair (.int .i64) (.pair (.int .i64) (.int .i64)))]), (4294971392, .map)], []⟩
abbrev o32_3 : LShape := ⟨124, [(1, .fix (.ptr 4294967296 0))], [], [(4294967296, .box 32 [.int .i64, .int .i64, .int .i64, .int .i64, .int .i64, .int .i64, .int .i64, .int .i64, .int .i64, .int .i64, .int .i64, .bool, .int .i64, .cont (.pair (.int .i64) (.pair (.int .i64) (.int .i64))), .cont (.pair (.int .i64) (.pair (.int .i64) (.pair (.int .i64) (.pair (.int .i64) (.int .i64))))), .cont (.pair (.int .i64) (.pair (.int .i64) (.int .i64)))])], []⟩
abbrev q32_3 : LShape := ⟨124, [(2, .bool)], [], [], []⟩
noncomputable def l32_3 : LSum := ⟨9, 32, s32_3, 0, o32_3, q32_3, u32_3, false⟩
noncomputable abbrev S32 : List (Nat × Nat × LSum) := [(4294967296, 3, l32_3)]
noncomputable def con32 : Con := ⟨ps32, rs32, fun x => f32 x.1.1.1.1 x.1.1.1.2 x.1.1.2.1.1 x.1.1.2.1.2 x.1.1.2.2.1 x.1.1.2.2.2.1 x.1.1.2.2.2.2.1 x.1.1.2.2.2.2.2 x.1.2.1.1 x.1.2.1.2.1 x.1.2.1.2.2.1 x.1.2.1.2.2.2 x.1.2.2.1 x.1.2.2.2.1 x.1.2.2.2.2.1 x.1.2.2.2.2.2⟩
theorem r32_3 : Round Go.Proofs.Tryz.prog C32 (lookS S32) big 4294967296 3 l32_3 := ⟨by kernel_rfl, fun z => by kernel_rfl⟩
theorem e32 (x : Args ps32) : kTop Go.Proofs.Tryz.prog C32 (lookS S32) big 10 32 ps32 rs32 x = con32.f x := by kernel_rfl
theorem ok32 [Glob] [RngG Go.Proofs.Tryz.prog] (h : AllOK Go.Proofs.Tryz.prog L32) (h' : AllU Go.Proofs.Tryz.prog U32) : con32.OK Go.Proofs.Tryz.prog 32 := con_of_tree (lookC_ok h h') (rounds_of (l := S32) ⟨r32_3, trivial⟩) e32
abbrev ps73 : List Ty := [.pair (.int .i64) (.pair (.int .i64) (.pair (.int .i64) (.pair (.int .i64) (.int .i64))))]
abbrev rs73 : List RTy := [.val (.pair (.pair (.int .i64) (.int .i64)) (.pair (.int .i64) (.pair (.int .i64) (.pair (.int .i64) (.pair (.int .i64) (.int .i64))))))]
noncomputable abbrev L73 : List (Nat × Con) := []
noncomputable abbrev U73 : List (Nat × UCon) := []
noncomputable abbrev C73 : Cons := lookC L73 U73
noncomputable abbrev S73 : List (Nat × Nat × LSum) := []
noncomputable def con73 : Con := ⟨ps73, rs73, fun x => f73 x.1.1 x.1.2.1 x.1.2.2.1 x.1.2.2.2.1 x.1.2.2.2.2⟩
theorem e73 (x : Args ps73) : kTop Go.Proofs.Tryz.prog C73 (lookS S73) big 10 73 ps73 rs73 x = con73.f x := by kernel_rfl
theorem ok73 [Glob] [RngG Go.Proofs.Tryz.prog] (h : AllOK Go.Proofs.Tryz.prog L73) (h' : AllU Go.Proofs.Tryz.prog U73) : con73.OK Go.Proofs.Tryz.prog 73 := con_of_tree (lookC_ok h h') (rounds_of (l := S73) trivial) e73
abbrev ps52 : List Ty := [.pair (.int .i64) (.pair (.int .i64) (.pair (.int .i64) (.pair (.int .i64) (.int .i64))))]
abbrev rs52 : List RTy := [.val (.pair (.int .i64) (.int .i64))]
noncomputable abbrev L52 : List (Nat × Con) := [(73, con73)]
noncomputable abbrev U52 : List (Nat × UCon) := []
noncomputable abbrev C52 : Cons := lookC L52 U52
noncomputable abbrev S52 : List (Nat × Nat × LSum) := []
noncomputable def con52 : Con := ⟨ps52, rs52, fun x => f52 x.1.1 x.1.2.1 x.1.2.2.1 x.1.2.2.2.1 x.1.2.2.2.2⟩
theorem e52 (x : Args ps52) : kTop Go.Proofs.Tryz.prog C52 (lookS S52) big 10 52 ps52 rs52 x = con52.f x := by kernel_rfl
theorem ok52 [Glob] [RngG Go.Proofs.Tryz.prog] (h : AllOK Go.Proofs.Tryz.prog L52) (h' : AllU Go.Proofs.Tryz.prog U52) : con52.OK Go.Proofs.Tryz.prog 52 := con_of_tree (lookC_ok h h') (rounds_of (l := S52) trivial) e52
abbrev ps25 : List Ty := [.row (.pair (.int .i64) (.pair (.int .i64) (.pair (.int .i64) (.pair (.int .i64) (.int .i64))))), .int .i64, .int .i64]
abbrev rs25 : List RTy := [.val (.int .i64)]
noncomputable abbrev L25 : List (Nat × Con) := [(52, con52)]
noncomputable abbrev U25 : List (Nat × UCon) := []
noncomputable abbrev C25 : Cons := lookC L25 U25
abbrev s25_86_2_0 : LShape := ⟨19, [(0, .cont (.pair (.int .i64) (.pair (.int .i64) (.pair (.int .i64) (.pair (.int .i64) (.int .i64)))))), (1, .fix (.fn (.func 87) [] [(.ptr 18446761945068470288 0), (.ptr 18446761945068470272 0)])), (7, .int .i64), (8, .int .i64)], [(18446761945068470272, .box 95 [.int .i64, .int .i64]), (18446761945068470288, .box 96 [.fix (.fn (.func 52) [] [])])], [], []⟩
abbrev o25_86_2_0 : LShape := ⟨19, [], [(18446761945068470272, .box 95 [.int .i64, .int .i64]), (18446761945068470288, .box 96 [.fix (.fn (.func 52) [] [])])], [], []⟩
abbrev q25_86_2_0 : LShape := ⟨19, [(4, .int .i64)], [(18446761945068470272, .box 95 [.int .i64, .int .i64]), (18446761945068470288, .box 96 [.fix (.fn (.func 52) [] [])])], [], []⟩
noncomputable def l25_86_2_0 : LSum := ⟨7, 86, s25_86_2_0, 0, o25_86_2_0, q25_86_2_0, u25_86_2_0, false⟩
noncomputable abbrev S25 : List (Nat × Nat × LSum) := [(79228239271166446032908189696, 2, l25_86_2_0)]
noncomputable def con25 : Con := ⟨ps25, rs25, fun x => f25 x.1 x.2.1 x.2.2.1⟩
theorem r25_86_2_0 : Round Go.Proofs.Tryz.prog C25 (lookS S25) big 79228239271166446032908189696 2 l25_86_2_0 := ⟨by kernel_rfl, fun z => by kernel_rfl⟩
theorem e25 (x : Args ps25) : kTop Go.Proofs.Tryz.prog C25 (lookS S25) big 10 25 ps25 rs25 x = con25.f x := by kernel_rfl
theorem ok25 [Glob] [RngG Go.Proofs.Tryz.prog] (h : AllOK Go.Proofs.Tryz.prog L25) (h' : AllU Go.Proofs.Tryz.prog U25) : con25.OK Go.Proofs.Tryz.prog 25 := con_of_tree (lookC_ok h h') (rounds_of (l := S25) ⟨r25_86_2_0, trivial⟩) e25
abbrev ps33 : List Ty := [.pair (.pair (.pair (.int .i64) (.int .i64)) (.pair (.pair (.int .i64) (.int .i64)) (.pair (.int .i64) (.pair (.int .i64) (.pair (.int .i64) (.int .i64)))))) (.pair (.pair (.int .i64) (.pair (.int .i64) (.pair (.int .i64) (.bool)))) (.pair (.int .i64) (.pair (.row (.pair (.int .i64) (.pair (.int .i64) (.int .i64)))) (.pair (.row (.pair (.int .i64) (.pair (.int .i64) (.pair (.int .i64) (.pair (.int .i64) (.int .i64)))))) (.row (.pair (.int .i64) (.pair (.int .i64) (.int .i64))))))))]
abbrev rs33 : List RTy := [.val (.bool)]
noncomputable abbrev L33 : List (Nat × Con) := [(23, con23), (25, con25), (29, con29), (67, con67)]
noncomputable abbrev U33 : List (Nat × UCon) := []
noncomputable abbrev C33 : Cons := lookC L33 U33
abbrev s33_2 : LShape := ⟨74, [(1, .fix (.ptr 4294967296 0)), (8, .cont (.pair (.int .i64) (.pair (.int .i64) (.int .i64)))), (9, .int .i64), (10, .int .i64)], [], [(4294967296, .box 32 [.int .i64, .int .i64, .int .i64, .int .i64, .int .i64, .int .i64, .int .i64, .int .i64, .int .i64, .int .i64, .int .i64, .bool, .int .i64, .cont (.pair (.int .i64) (.pair (.int .i64) (.int .i64))), .cont (.pair (.int .i64) (.pair (.int .i64) (.pair (.int .i64) (.pair (.int .i64) (.int .i64))))), .cont (.pair (.int .i64) (.pair (.int .i64) (.int .i64)))])], []⟩
abbrev o33_2 : LShape := ⟨74, [], [], [], []⟩
abbrev q33_2 : LShape := ⟨74, [(2, .bool)], [], [], []⟩
noncomputable def l33_2 : LSum := ⟨9, 33, s33_2, 0, o33_2, q33_2, u33_2, false⟩
noncomputable abbrev S33 : List (Nat × Nat × LSum) := [(4294967296, 2, l33_2)]
noncomputable def con33 : Con := ⟨ps33, rs33, fun x => f33 x.1.1.1.1 x.1.1.1.2 x.1.1.2.1.1 x.1.1.2.1.2 x.1.1.2.2.1 x.1.1.2.2.2.1 x.1.1.2.2.2.2.1 x.1.1.2.2.2.2.2 x.1.2.1.1 x.1.2.1.2.1 x.1.2.1.2.2.1 x.1.2.1.2.2.2 x.1.2.2.1 x.1.2.2.2.1 x.1.2.2.2.2.1 x.1.2.2.2.2.2⟩
theorem r33_2 : Round Go.Proofs.Tryz.prog C33 (lookS S33) big 4294967296 2 l33_2 := ⟨by kernel_rfl, fun z => by kernel_rfl⟩
theorem e33 (x : Args ps33) : kTop Go.Proofs.Tryz.prog C33 (lookS S33) big 10 33 ps33 rs33 x = con33.f x := by kernel_rfl
theorem ok33 [Glob] [RngG Go.Proofs.Tryz.prog] (h : AllOK Go.Proofs.Tryz.prog L33) (h' : AllU Go.Proofs.Tryz.prog U33) : con33.OK Go.Proofs.Tryz.prog 33 := con_of_tree (lookC_ok h h') (rounds_of (l := S33) ⟨r33_2, trivial⟩) e33
abbrev ps11 : List Ty := [.pair (.pair (.pair (.int .i64) (.int .i64)) (.pair (.pair (.int .i64) (.int .i64)) (.pair (.int .i64) (.pair (.int .i64) (.pair (.int .i64) (.int .i64)))))) (.pair (.pair (.int .i64) (.pair (.int .i64) (.pair (.int .i64) (.bool)))) (.pair (.int .i64) (.pair (.row (.pair (.int .i64) (.pair (.int .i64) (.int .i64)))) (.pair (.row (.pair (.int .i64) (.pair (.int .i64) (.pair (.int .i64) (.pair (.int .i64) (.int .i64)))))) (.row (.pair (.int .i64) (.pair (.int .i64) (.int .i64))))))))]
abbrev rs11 : List RTy := [.val (.bool)]
noncomputable abbrev L11 : List (Nat × Con) := [(27, con27), (28, con28), (29, con29), (30, con30), (31, con31), (32, con32), (33, con33)]
noncomputable abbrev U11 : List (Nat × UCon) := []
noncomputable abbrev C11 : Cons := lookC L11 U11
noncomputable abbrev S11 : List (Nat × Nat × LSum) := []
noncomputable def con11 : Con := ⟨ps11, rs11, fun x => f11 x.1.1.1.1 x.1.1.1.2 x.1.1.2.1.1 x.1.1.2.1.2 x.1.1.2.2.1 x.1.1.2.2.2.1 x.1.1.2.2.2.2.1 x.1.1.2.2.2.2.2 x.1.2.1.1 x.1.2.1.2.1 x.1.2.1.2.2.1 x.1.2.1.2.2.2 x.1.2.2.1 x.1.2.2.2.1 x.1.2.2.2.2.1 x.1.2.2.2.2.2⟩
theorem e11 (x : Args ps11) : kTop Go.Proofs.Tryz.prog C11 (lookS S11) big 10 11 ps11 rs11 x = con11.f x := by kernel_rfl
theorem ok11 [Glob] [RngG Go.Proofs.Tryz.prog] (h : AllOK Go.Proofs.Tryz.prog L11) (h' : AllU Go.Proofs.Tryz.prog U11) : con11.OK Go.Proofs.Tryz.prog 11 := con_of_tree (lookC_ok h h') (rounds_of (l := S11) trivial) e11
abbrev ps22 : List Ty := [.row (.pair (.int .i64) (.pair (.int .i64) (.pair (.int .i64) (.pair (.int .i64) (.int .i64))))), .int .i64]
abbrev rs22 : List RTy := [.own 3 (.int .i64)]
noncomputable abbrev L22 : List (Nat × Con) := []
noncomputable abbrev U22 : List (Nat × UCon) := []
noncomputable abbrev C22 : Cons := lookC L22 U22
abbrev s22_3 : LShape := ⟨25, [(1, .int .i64), (8, .cont (.pair (.int .i64) (.pair (.int .i64) (.pair (.int .i64) (.pair (.int .i64) (.int .i64)))))), (9, .int .i64), (10, .int .i64)], [], [], [⟨.t 5, 8294967488, 3, (.int .i64)⟩]⟩
abbrev o22_3 : LShape := ⟨25, [], [], [], [⟨.t 5, 8294967520, 3, (.int .i64)⟩]⟩
abbrev q22_3 : LShape := ⟨25, [], [], [], []⟩
noncomputable def l22_3 : LSum := ⟨9, 22, s22_3, 0, o22_3, q22_3, u22_3, false⟩
noncomputable abbrev S22 : List (Nat × Nat × LSum) := [(4294967296, 3, l22_3)]
noncomputable def con22 : Con := ⟨ps22, rs22, fun x => f22 x.1 x.2.1⟩
theorem r22_3 : Round Go.Proofs.Tryz.prog C22 (lookS S22) big 4294967296 3 l22_3 := ⟨by kernel_rfl, fun z => by kernel_rfl⟩
theorem e22 (x : Args ps22) : kTop Go.Proofs.Tryz.prog C22 (lookS S22) big 10 22 ps22 rs22 x = con22.f x := by kernel_rfl
theorem ok22 [Glob] [RngG Go.Proofs.Tryz.prog] (h : AllOK Go.Proofs.Tryz.prog L22) (h' : AllU Go.Proofs.Tryz.prog U22) : con22.OK Go.Proofs.Tryz.prog 22 := con_of_tree (lookC_ok h h') (rounds_of (l := S22) ⟨r22_3, trivial⟩) e22
abbrev ps9 : List Ty := [.pair (.pair (.pair (.int .i64) (.int .i64)) (.pair (.pair (.int .i64) (.int .i64)) (.pair (.int .i64) (.pair (.int .i64) (.pair (.int .i64) (.int .i64)))))) (.pair (.pair (.int .i64) (.pair (.int .i64) (.pair (.int .i64) (.bool)))) (.pair (.int .i64) (.pair (.row (.pair (.int .i64) (.pair (.int .i64) (.int .i64)))) (.pair (.row (.pair (.int .i64) (.pair (.int .i64) (.pair (.int .i64) (.pair (.int .i64) (.int .i64)))))) (.row (.pair (.int .i64) (.pair (.int .i64) (.int .i64)))))))), .int .i64]
abbrev rs9 : List RTy := [.own 39 (.pair (.int .i64) (.pair (.int .i64) (.int .i64)))]
noncomputable abbrev L9 : List (Nat × Con) := [(11, con11), (21, con21), (22, con22), (23, con23)]
noncomputable abbrev U9 : List (Nat × UCon) := []
noncomputable abbrev C9 : Cons := lookC L9 U9
abbrev s9_6 : LShape := ⟨61, [(2, .fix (.ptr 4294967296 0)), (32, .int .i64), (33, .int .i64)], [], [(4294967296, .box 32 [.int .i64, .int .i64, .int .i64, .int .i64, .int .i64, .int .i64, .int .i64, .int .i64, .int .i64, .int .i64, .int .i64, .bool, .int .i64, .cont (.pair (.int .i64) (.pair (.int .i64) (.int .i64))), .cont (.pair (.int .i64) (.pair (.int .i64) (.pair (.int .i64) (.pair (.int .i64) (.int .i64))))), .cont (.pair (.int .i64) (.pair (.int .i64) (.int .i64)))])], [⟨.t 7, 8294967680, 39, (.pair (.int .i64) (.pair (.int .i64) (.int .i64)))⟩, ⟨.t 31, 8294967681, 3, (.int .i64)⟩]⟩
abbrev o9_6 : LShape := ⟨61, [], [], [], [⟨.t 7, 8294967712, 39, (.pair (.int .i64) (.pair (.int .i64) (.int .i64)))⟩]⟩
abbrev q9_6 : LShape := ⟨61, [], [], [], []⟩
noncomputable def l9_6 : LSum := ⟨9, 9, s9_6, 0, o9_6, q9_6, u9_6, false⟩
noncomputable abbrev S9 : List (Nat × Nat × LSum) := [(4294967296, 6, l9_6)]
noncomputable def con9 : Con := ⟨ps9, rs9, fun x => f9 x.1.1.1.1 x.1.1.1.2 x.1.1.2.1.1 x.1.1.2.1.2 x.1.1.2.2.1 x.1.1.2.2.2.1 x.1.1.2.2.2.2.1 x.1.1.2.2.2.2.2 x.1.2.1.1 x.1.2.1.2.1 x.1.2.1.2.2.1 x.1.2.1.2.2.2 x.1.2.2.1 x.1.2.2.2.1 x.1.2.2.2.2.1 x.1.2.2.2.2.2 x.2.1⟩
theorem r9_6 : Round Go.Proofs.Tryz.prog C9 (lookS S9) big 4294967296 6 l9_6 := ⟨by kernel_rfl, fun z => by kernel_rfl⟩
theorem e9 (x : Args ps9) : kTop Go.Proofs.Tryz.prog C9 (lookS S9) big 10 9 ps9 rs9 x = con9.f x := by kernel_rfl
theorem ok9 [Glob] [RngG Go.Proofs.Tryz.prog] (h : AllOK Go.Proofs.Tryz.prog L9) (h' : AllU Go.Proofs.Tryz.prog U9) : con9.OK Go.Proofs.Tryz.prog 9 := con_of_tree (lookC_ok h h') (rounds_of (l := S9) ⟨r9_6, trivial⟩) e9
abbrev ps24 : List Ty := [.pair (.pair (.int .i64) (.int .i64)) (.pair (.pair (.int .i64) (.int .i64)) (.pair (.int .i64) (.pair (.int .i64) (.pair (.int .i64) (.int .i64))))), .int .i64, .int .i64]
abbrev rs24 : List RTy := [.val (.int .i64)]
noncomputable abbrev L24 : List (Nat × Con) := [(21, con21), (27, con27), (34, con34), (49, con49), (50, con50)]
noncomputable abbrev U24 : List (Nat × UCon) := []
noncomputable abbrev C24 : Cons := lookC L24 U24
noncomputable abbrev S24 : List (Nat × Nat × LSum) := []
noncomputable def con24 : Con := ⟨ps24, rs24, fun x => f24 x.1.1.1 x.1.1.2 x.1.2.1.1 x.1.2.1.2 x.1.2.2.1 x.1.2.2.2.1 x.1.2.2.2.2.1 x.1.2.2.2.2.2 x.2.1 x.2.2.1⟩
theorem e24 (x : Args ps24) : kTop Go.Proofs.Tryz.prog C24 (lookS S24) big 10 24 ps24 rs24 x = con24.f x := by kernel_rfl
theorem ok24 [Glob] [RngG Go.Proofs.Tryz.prog] (h : AllOK Go.Proofs.Tryz.prog L24) (h' : AllU Go.Proofs.Tryz.prog U24) : con24.OK Go.Proofs.Tryz.prog 24 := con_of_tree (lookC_ok h h') (rounds_of (l := S24) trivial) e24
abbrev ps26 : List Ty := [.pair (.pair (.int .i64) (.int .i64)) (.pair (.pair (.int .i64) (.int .i64)) (.pair (.int .i64) (.pair (.int .i64) (.pair (.int .i64) (.int .i64))))), .int .i64, .int .i64]
abbrev rs26 : List RTy := [.val (.int .i64)]
noncomputable abbrev L26 : List (Nat × Con) := [(13, con13), (27, con27), (34, con34)]
noncomputable abbrev U26 : List (Nat × UCon) := []
noncomputable abbrev C26 : Cons := lookC L26 U26
noncomputable abbrev S26 : List (Nat × Nat × LSum) := []
noncomputable def con26 : Con := ⟨ps26, rs26, fun x => f26 x.1.1.1 x.1.1.2 x.1.2.1.1 x.1.2.1.2 x.1.2.2.1 x.1.2.2.2.1 x.1.2.2.2.2.1 x.1.2.2.2.2.2 x.2.1 x.2.2.1⟩
theorem e26 (x : Args ps26) : kTop Go.Proofs.Tryz.prog C26 (lookS S26) big 10 26 ps26 rs26 x = con26.f x := by kernel_rfl
theorem ok26 [Glob] [RngG Go.Proofs.Tryz.prog] (h : AllOK Go.Proofs.Tryz.prog L26) (h' : AllU Go.Proofs.Tryz.prog U26) : con26.OK Go.Proofs.Tryz.prog 26 := con_of_tree (lookC_ok h h') (rounds_of (l := S26) trivial) e26
abbrev ps10 : List Ty := [.pair (.pair (.pair (.int .i64) (.int .i64)) (.pair (.pair (.int .i64) (.int .i64)) (.pair (.int .i64) (.pair (.int .i64) (.pair (.int .i64) (.int .i64)))))) (.pair (.pair (.int .i64) (.pair (.int .i64) (.pair (.int .i64) (.bool)))) (.pair (.int .i64) (.pair (.row (.pair (.int .i64) (.pair (.int .i64) (.int .i64)))) (.pair (.row (.pair (.int .i64) (.pair (.int .i64) (.pair (.int .i64) (.pair (.int .i64) (.int .i64)))))) (.row (.pair (.int .i64) (.pair (.int .i64) (.int .i64)))))))), .int .i64, .int .i64]
abbrev rs10 : List RTy := [.val (.int .i64)]
noncomputable abbrev L10 : List (Nat × Con) := [(11, con11), (24, con24), (25, con25), (26, con26)]
noncomputable abbrev U10 : List (Nat × UCon) := []
noncomputable abbrev C10 : Cons := lookC L10 U10
noncomputable abbrev S10 : List (Nat × Nat × LSum) := []
noncomputable def con10 : Con := ⟨ps10, rs10, fun x => f10 x.1.1.1.1 x.1.1.1.2 x.1.1.2.1.1 x.1.1.2.1.2 x.1.1.2.2.1 x.1.1.2.2.2.1 x.1.1.2.2.2.2.1 x.1.1.2.2.2.2.2 x.1.2.1.1 x.1.2.1.2.1 x.1.2.1.2.2.1 x.1.2.1.2.2.2 x.1.2.2.1 x.1.2.2.2.1 x.1.2.2.2.2.1 x.1.2.2.2.2.2 x.2.1 x.2.2.1⟩
theorem e10 (x : Args ps10) : kTop Go.Proofs.Tryz.prog C10 (lookS S10) big 10 10 ps10 rs10 x = con10.f x := by kernel_rfl
theorem ok10 [Glob] [RngG Go.Proofs.Tryz.prog] (h : AllOK Go.Proofs.Tryz.prog L10) (h' : AllU Go.Proofs.Tryz.prog U10) : con10.OK Go.Proofs.Tryz.prog 10 := con_of_tree (lookC_ok h h') (rounds_of (l := S10) trivial) e10
abbrev ps14 : List Ty := [.row (.pair (.int .i64) (.pair (.int .i64) (.int .i64))), .int .i64]
abbrev rs14 : List RTy := [.val (.bool)]
noncomputable abbrev L14 : List (Nat × Con) := [(35, con35)]
noncomputable abbrev U14 : List (Nat × UCon) := []
noncomputable abbrev C14 : Cons := lookC L14 U14
noncomputable abbrev S14 : List (Nat × Nat × LSum) := []
noncomputable def con14 : Con := ⟨ps14, rs14, fun x => f14 x.1 x.2.1⟩
theorem e14 (x : Args ps14) : kTop Go.Proofs.Tryz.prog C14 (lookS S14) big 10 14 ps14 rs14 x = con14.f x := by kernel_rfl
theorem ok14 [Glob] [RngG Go.Proofs.Tryz.prog] (h : AllOK Go.Proofs.Tryz.prog L14) (h' : AllU Go.Proofs.Tryz.prog U14) : con14.OK Go.Proofs.Tryz.prog 14 := con_of_tree (lookC_ok h h') (rounds_of (l := S14) trivial) e14
abbrev ps76 : List Ty := [.pair (.int .i64) (.int .i64)]
abbrev rs76 : List RTy := [.val (.bool)]
noncomputable abbrev L76 : List (Nat × Con) := []
noncomputable abbrev U76 : List (Nat × UCon) := []
noncomputable abbrev C76 : Cons := lookC L76 U76
noncomputable abbrev S76 : List (Nat × Nat × LSum) := []
noncomputable def con76 : Con := ⟨ps76, rs76, fun x => f76 x.1.1 x.1.2⟩
theorem e76 (x : Args ps76) : kTop Go.Proofs.Tryz.prog C76 (lookS S76) big 10 76 ps76 rs76 x = con76.f x := by kernel_rfl
theorem ok76 [Glob] [RngG Go.Proofs.Tryz.prog] (h : AllOK Go.Proofs.Tryz.prog L76) (h' : AllU Go.Proofs.Tryz.prog U76) : con76.OK Go.Proofs.Tryz.prog 76 := con_of_tree (lookC_ok h h') (rounds_of (l := S76) trivial) e76
abbrev ps72 : List Ty := [.int .i64]
abbrev rs72 : List RTy := [.val (.pair (.int .i64) (.int .i64)), .val (.bool)]
noncomputable abbrev L72 : List (Nat × Con) := [(76, con76)]
noncomputable abbrev U72 : List (Nat × UCon) := []
noncomputable abbrev C72 : Cons := lookC L72 U72
noncomputable abbrev S72 : List (Nat × Nat × LSum) := []
noncomputable def con72 : Con := ⟨ps72, rs72, fun x => f72 x.1⟩
theorem e72 (x : Args ps72) : kTop Go.Proofs.Tryz.prog C72 (lookS S72) big 10 72 ps72 rs72 x = con72.f x := by kernel_rfl
theorem ok72 [Glob] [RngG Go.Proofs.Tryz.prog] (h : AllOK Go.Proofs.Tryz.prog L72) (h' : AllU Go.Proofs.Tryz.prog U72) : con72.OK Go.Proofs.Tryz.prog 72 := con_of_tree (lookC_ok h h') (rounds_of (l := S72) trivial) e72
abbrev ps74 : List Ty := [.pair (.int .i64) (.pair (.int .i64) (.int .i64))]
abbrev rs74 : List RTy := [.val (.pair (.pair (.int .i64) (.int .i64)) (.pair (.int .i64) (.pair (.int .i64) (.int .i64))))]
noncomputable abbrev L74 : List (Nat × Con) := []
noncomputable abbrev U74 : List (Nat × UCon) := []
noncomputable abbrev C74 : Cons := lookC L74 U74
noncomputable abbrev S74 : List (Nat × Nat × LSum) := []
noncomputable def con74 : Con := ⟨ps74, rs74, fun x => f74 x.1.1 x.1.2.1 x.1.2.2⟩
theorem e74 (x : Args ps74) : kTop Go.Proofs.Tryz.prog C74 (lookS S74) big 10 74 ps74 rs74 x = con74.f x := by kernel_rfl
theorem ok74 [Glob] [RngG Go.Proofs.Tryz.prog] (h : AllOK Go.Proofs.Tryz.prog L74) (h' : AllU Go.Proofs.Tryz.prog U74) : con74.OK Go.Proofs.Tryz.prog 74 := con_of_tree (lookC_ok h h') (rounds_of (l := S74) trivial) e74
abbrev ps100 : List Ty := [.pair (.int .i64) (.int .i64), .int .i64]
abbrev rs100 : List RTy := [.val (.bool)]
noncomputable abbrev L100 : List (Nat × Con) := [(76, con76)]
noncomputable abbrev U100 : List (Nat × UCon) := []
noncomputable abbrev C100 : Cons := lookC L100 U100
noncomputable abbrev S100 : List (Nat × Nat × LSum) := []
noncomputable def con100 : Con := ⟨ps100, rs100, fun x => f100 x.1.1 x.1.2 x.2.1⟩
theorem e100 (x : Args ps100) : kTop Go.Proofs.Tryz.prog C100 (lookS S100) big 10 100 ps100 rs100 x = con100.f x := by kernel_rfl
theorem ok100 [Glob] [RngG Go.Proofs.Tryz.prog] (h : AllOK Go.Proofs.Tryz.prog L100) (h' : AllU Go.Proofs.Tryz.prog U100) : con100.OK Go.Proofs.Tryz.prog 100 := con_of_tree (lookC_ok h h') (rounds_of (l := S100) trivial) e100
abbrev ps101 : List Ty := [.pair (.int .i64) (.int .i64), .int .i64]
abbrev rs101 : List RTy := [.val (.bool)]
noncomputable abbrev L101 : List (Nat × Con) := [(100, con100)]
noncomputable abbrev U101 : List (Nat × UCon) := []
noncomputable abbrev C101 : Cons := lookC L101 U101
noncomputable abbrev S101 : List (Nat × Nat × LSum) := []
noncomputable def con101 : Con := ⟨ps101, rs101, fun x => f101 x.1.1 x.1.2 x.2.1⟩
theorem e101 (x : Args ps101) : kTop Go.Proofs.Tryz.prog C101 (lookS S101) big 10 101 ps101 rs101 x = con101.f x := by kernel_rfl
theorem ok101 [Glob] [RngG Go.Proofs.Tryz.prog] (h : AllOK Go.Proofs.Tryz.prog L101) (h' : AllU Go.Proofs.Tryz.prog U101) : con101.OK Go.Proofs.Tryz.prog 101 := con_of_tree (lookC_ok h h') (rounds_of (l := S101) trivial) e101
abbrev ps89 : List Ty := [.pair (.int .i64) (.int .i64), .int .i64, .bool]
abbrev rs89 : List RTy := [.val (.pair (.int .i64) (.int .i64)), .val (.bool)]
noncomputable abbrev L89 : List (Nat × Con) := [(100, con100), (101, con101)]
noncomputable abbrev U89 : List (Nat × UCon) := []
noncomputable abbrev C89 : Cons := lookC L89 U89
noncomputable abbrev S89 : List (Nat × Nat × LSum) := []
noncomputable def con89 : Con := ⟨ps89, rs89, fun x => f89 x.1.1 x.1.2 x.2.1 x.2.2.1⟩
theorem e89 (x : Args ps89) : kTop Go.Proofs.Tryz.prog C89 (lookS S89) big 10 89 ps89 rs89 x = con89.f x := by kernel_rfl
theorem ok89 [Glob] [RngG Go.Proofs.Tryz.prog] (h : AllOK Go.Proofs.Tryz.prog L89) (h' : AllU Go.Proofs.Tryz.prog U89) : con89.OK Go.Proofs.Tryz.prog 89 := con_of_tree (lookC_ok h h') (rounds_of (l := S89) trivial) e89
abbrev ps75 : List Ty := [.pair (.int .i64) (.int .i64), .int .i64]
abbrev rs75 : List RTy := [.val (.pair (.int .i64) (.int .i64)), .val (.bool)]
noncomputable abbrev L75 : List (Nat × Con) := [(89, con89)]
noncomputable abbrev U75 : List (Nat × UCon) := []
noncomputable abbrev C75 : Cons := lookC L75 U75
noncomputable abbrev S75 : List (Nat × Nat × LSum) := []
noncomputable def con75 : Con := ⟨ps75, rs75, fun x => f75 x.1.1 x.1.2 x.2.1⟩
theorem e75 (x : Args ps75) : kTop Go.Proofs.Tryz.prog C75 (lookS S75) big 10 75 ps75 rs75 x = con75.f x := by kernel_rfl
theorem ok75 [Glob] [RngG Go.Proofs.Tryz.prog] (h : AllOK Go.Proofs.Tryz.prog L75) (h' : AllU Go.Proofs.Tryz.prog U75) : con75.OK Go.Proofs.Tryz.prog 75 := con_of_tree (lookC_ok h h') (rounds_of (l := S75) trivial) e75
abbrev ps36 : List Ty := [.pair (.pair (.int .i64) (.int .i64)) (.pair (.pair (.int .i64) (.int .i64)) (.pair (.int .i64) (.pair (.int .i64) (.pair (.int .i64) (.int .i64))))), .row (.pair (.int .i64) (.pair (.int .i64) (.pair (.int .i64) (.pair (.int .i64) (.int .i64))))), .row (.pair (.int .i64) (.pair (.int .i64) (.int .i64))), .int .i64]
abbrev rs36 : List RTy := [.val (.pair (.int .i64) (.int .i64))]
noncomputable abbrev L36 : List (Nat × Con) := [(13, con13), (72, con72), (73, con73), (74, con74), (75, con75)]
noncomputable abbrev U36 : List (Nat × UCon) := []
noncomputable abbrev C36 : Cons := lookC L36 U36
abbrev s36_4 : LShape := ⟨69, [(2, .cont (.pair (.int .i64) (.pair (.int .i64) (.int .i64)))), (3, .int .i64), (8, .fix (.ptr 4294967312 0)), (9, .fix (.ptr 4294971488 0)), (24, .cont (.pair (.int .i64) (.pair (.int .i64) (.pair (.int .i64) (.pair (.int .i64) (.int .i64)))))), (25, .int .i64), (26, .int .i64)], [], [(4294967312, .box 77 [.int .i64, .int .i64]), (4294971488, .box 77 [.int .i64, .int .i64])], [⟨.t 11, 8294967552, 95, (.pair (.int .i64) (.int .i64))⟩]⟩
abbrev o36_4 : LShape := ⟨69, [(2, .cont (.pair (.int .i64) (.pair (.int .i64) (.int .i64)))), (3, .int .i64), (8, .fix (.ptr 4294967312 0)), (9, .fix (.ptr 4294971488 0))], [], [(4294967312, .box 77 [.int .i64, .int .i64]), (4294971488, .box 77 [.int .i64, .int .i64])], [⟨.t 11, 8294967584, 95, (.pair (.int .i64) (.int .i64))⟩]⟩
abbrev q36_4 : LShape := ⟨69, [], [], [], []⟩
noncomputable def l36_4 : LSum := ⟨9, 36, s36_4, 0, o36_4, q36_4, u36_4, false⟩
abbrev s36_9 : LShape := ⟨69, [(3, .int .i64), (8, .fix (.ptr 4294967312 0)), (9, .fix (.ptr 4294971488 0)), (37, .cont (.pair (.int .i64) (.pair (.int .i64) (.int .i64)))), (38, .int .i64), (39, .int .i64)], [], [(4294967312, .box 77 [.int .i64, .int .i64]), (4294971488, .box 77 [.int .i64, .int .i64])], [⟨.t 11, 8294967872, 95, (.pair (.int .i64) (.int .i64))⟩]⟩
abbrev o36_9 : LShape := ⟨69, [(3, .int .i64), (8, .fix (.ptr 4294967312 0)), (9, .fix (.ptr 4294971488 0))], [], [(4294967312, .box 77 [.int .i64, .int .i64]), (4294971488, .box 77 [.int .i64, .int .i64])], [⟨.t 11, 8294967904, 95, (.pair (.int .i64) (.int .i64))⟩]⟩
abbrev q36_9 : LShape := ⟨69, [], [], [], []⟩
noncomputable def l36_9 : LSum := ⟨9, 36, s36_9, 2, o36_9, q36_9, u36_9, false⟩
abbrev s36_14 : LShape := ⟨69, [(3, .int .i64), (8, .fix (.ptr 4294967312 0)), (9, .fix (.ptr 4294971488 0)), (51, .int .i64), (52, .int .i64)], [], [(4294967312, .box 77 [.int .i64, .int .i64]), (4294971488, .box 77 [.int .i64, .int .i64])], [⟨.t 50, 8294968192, 95, (.pair (.int .i64) (.int .i64))⟩]⟩
abbrev o36_14 : LShape := ⟨69, [(8, .fix (.ptr 4294967312 0)), (9, .fix (.ptr 4294971488 0))], [], [(4294967312, .box 77 [.int .i64, .int .i64]), (4294971488, .box 77 [.int .i64, .int .i64])], []⟩
abbrev q36_14 : LShape := ⟨69, [], [], [], []⟩
noncomputable def l36_14 : LSum := ⟨9, 36, s36_14, 4, o36_14, q36_14, u36_14, false⟩
noncomputable abbrev S36 : List (Nat × Nat × LSum) := [(4294967296, 4, l36_4), (4294967296, 9, l36_9), (4294967296, 14, l36_14)]
noncomputable def con36 : Con := ⟨ps36, rs36, fun x => f36 x.1.1.1 x.1.1.2 x.1.2.1.1 x.1.2.1.2 x.1.2.2.1 x.1.2.2.2.1 x.1.2.2.2.2.1 x.1.2.2.2.2.2 x.2.1 x.2.2.1 x.2.2.2.1⟩
theorem r36_4 : Round Go.Proofs.Tryz.prog C36 (lookS S36) big 4294967296 4 l36_4 := ⟨by kernel_rfl, fun z => by kernel_rfl⟩
theorem r36_9 : Round Go.Proofs.Tryz.prog C36 (lookS S36) big 4294967296 9 l36_9 := ⟨by kernel_rfl, fun z => by kernel_rfl⟩
theorem r36_14 : Round Go.Proofs.Tryz.prog C36 (lookS S36) big 4294967296 14 l36_14 := ⟨by kernel_rfl, fun z => by kernel_rfl⟩
theorem e36 (x : Args ps36) : kTop Go.Proofs.Tryz.prog C36 (lookS S36) big 10 36 ps36 rs36 x = con36.f x := by kernel_rfl
theorem ok36 [Glob] [RngG Go.Proofs.Tryz.prog] (h : AllOK Go.Proofs.Tryz.prog L36) (h' : AllU Go.Proofs.Tryz.prog U36) : con36.OK Go.Proofs.Tryz.prog 36 := con_of_tree (lookC_ok h h') (rounds_of (l := S36) ⟨r36_4, r36_9, r36_14, trivial⟩) e36
abbrev ps90 : List Ty := [.int .u32]
abbrev rs90 : List RTy := [.val (.int .i64)]
noncomputable abbrev L90 : List (Nat × Con) := []
noncomputable abbrev U90 : List (Nat × UCon) := []
noncomputable abbrev C90 : Cons := lookC L90 U90
noncomputable abbrev S90 : List (Nat × Nat × LSum) := []
noncomputable def con90 : Con := ⟨ps90, rs90, fun x => f90 x.1⟩
theorem e90 (x : Args ps90) : kTop Go.Proofs.Tryz.prog C90 (lookS S90) big 10 90 ps90 rs90 x = con90.f x := by kernel_rfl
theorem ok90 [Glob] [RngG Go.Proofs.Tryz.prog] (h : AllOK Go.Proofs.Tryz.prog L90) (h' : AllU Go.Proofs.Tryz.prog U90) : con90.OK Go.Proofs.Tryz.prog 90 := con_of_tree (lookC_ok h h') (rounds_of (l := S90) trivial) e90
abbrev ps91 : List Ty := [.int .u64]
abbrev rs91 : List RTy := [.val (.int .i64)]
noncomputable abbrev L91 : List (Nat × Con) := []
noncomputable abbrev U91 : List (Nat × UCon) := []
noncomputable abbrev C91 : Cons := lookC L91 U91
noncomputable abbrev S91 : List (Nat × Nat × LSum) := []
noncomputable def con91 : Con := ⟨ps91, rs91, fun x => f91 x.1⟩
theorem e91 (x : Args ps91) : kTop Go.Proofs.Tryz.prog C91 (lookS S91) big 10 91 ps91 rs91 x = con91.f x := by kernel_rfl
theorem ok91 [Glob] [RngG Go.Proofs.Tryz.prog] (h : AllOK Go.Proofs.Tryz.prog L91) (h' : AllU Go.Proofs.Tryz.prog U91) : con91.OK Go.Proofs.Tryz.prog 91 := con_of_tree (lookC_ok h h') (rounds_of (l := S91) trivial) e91
abbrev ps77 : List Ty := [.int .u64]
abbrev rs77 : List RTy := [.val (.int .i64)]
noncomputable abbrev L77 : List (Nat × Con) := [(90, con90), (91, con91)]
noncomputable abbrev U77 : List (Nat × UCon) := []
noncomputable abbrev C77 : Cons := lookC L77 U77
noncomputable abbrev S77 : List (Nat × Nat × LSum) := []
noncomputable def con77 : Con := ⟨ps77, rs77, fun x => f77 x.1⟩
theorem e77 (x : Args ps77) : kTop Go.Proofs.Tryz.prog C77 (lookS S77) big 10 77 ps77 rs77 x = con77.f x := by kernel_rfl
theorem ok77 [Glob] [RngG Go.Proofs.Tryz.prog] (h : AllOK Go.Proofs.Tryz.prog L77) (h' : AllU Go.Proofs.Tryz.prog U77) : con77.OK Go.Proofs.Tryz.prog 77 := con_of_tree (lookC_ok h h') (rounds_of (l := S77) trivial) e77
abbrev ps37 : List Ty := [.pair (.int .i64) (.int .i64)]
abbrev rs37 : List RTy := [.val (.int .i64)]
noncomputable abbrev L37 : List (Nat × Con) := [(76, con76), (77, con77)]
noncomputable abbrev U37 : List (Nat × UCon) := []
noncomputable abbrev C37 : Cons := lookC L37 U37
noncomputable abbrev S37 : List (Nat × Nat × LSum) := []
noncomputable def con37 : Con := ⟨ps37, rs37, fun x => f37 x.1.1 x.1.2⟩
theorem e37 (x : Args ps37) : kTop Go.Proofs.Tryz.prog C37 (lookS S37) big 10 37 ps37 rs37 x = con37.f x := by kernel_rfl
theorem ok37 [Glob] [RngG Go.Proofs.Tryz.prog] (h : AllOK Go.Proofs.Tryz.prog L37) (h' : AllU Go.Proofs.Tryz.prog U37) : con37.OK Go.Proofs.Tryz.prog 37 := con_of_tree (lookC_ok h h') (rounds_of (l := S37) trivial) e37
abbrev ps12 : List Ty := [.pair (.pair (.pair (.int .i64) (.int .i64)) (.pair (.pair (.int .i64) (.int .i64)) (.pair (.int .i64) (.pair (.int .i64) (.pair (.int .i64) (.int .i64)))))) (.pair (.pair (.int .i64) (.pair (.int .i64) (.pair (.int .i64) (.bool)))) (.pair (.int .i64) (.pair (.row (.pair (.int .i64) (.pair (.int .i64) (.int .i64)))) (.pair (.row (.pair (.int .i64) (.pair (.int .i64) (.pair (.int .i64) (.pair (.int .i64) (.int .i64)))))) (.row (.pair (.int .i64) (.pair (.int .i64) (.int .i64))))))))]
abbrev rs12 : List RTy := [.val (.int .i64), .val (.int .i64), .val (.int .i64)]
noncomputable abbrev L12 : List (Nat × Con) := [(11, con11), (14, con14), (34, con34), (35, con35), (36, con36), (37, con37)]
noncomputable abbrev U12 : List (Nat × UCon) := []
noncomputable abbrev C12 : Cons := lookC L12 U12
abbrev s12_5 : LShape := ⟨66, [(1, .fix (.ptr 4294967296 0)), (5, .int .i64), (6, .int .i64), (7, .int .i64), (17, .int .i64), (18, .int .i64)], [], [(4294967296, .box 32 [.int .i64, .int .i64, .int .i64, .int .i64, .int .i64, .int .i64, .int .i64, .int .i64, .int .i64, .int .i64, .int .i64, .bool, .int .i64, .cont (.pair (.int .i64) (.pair (.int .i64) (.int .i64))), .cont (.pair (.int .i64) (.pair (.int .i64) (.pair (.int .i64) (.pair (.int .i64) (.int .i64))))), .cont (.pair (.int .i64) (.pair (.int .i64) (.int .i64)))])], []⟩
abbrev o12_5 : LShape := ⟨66, [(5, .int .i64), (6, .int .i64), (7, .int .i64)], [], [], []⟩
abbrev q12_5 : LShape := ⟨66, [], [], [], []⟩
noncomputable def l12_5 : LSum := ⟨9, 12, s12_5, 0, o12_5, q12_5, u12_5, false⟩
noncomputable abbrev S12 : List (Nat × Nat × LSum) := [(4294967296, 5, l12_5)]
noncomputable def con12 : Con := ⟨ps12, rs12, fun x => f12 x.1.1.1.1 x.1.1.1.2 x.1.1.2.1.1 x.1.1.2.1.2 x.1.1.2.2.1 x.1.1.2.2.2.1 x.1.1.2.2.2.2.1 x.1.1.2.2.2.2.2 x.1.2.1.1 x.1.2.1.2.1 x.1.2.1.2.2.1 x.1.2.1.2.2.2 x.1.2.2.1 x.1.2.2.2.1 x.1.2.2.2.2.1 x.1.2.2.2.2.2⟩
theorem r12_5 : Round Go.Proofs.Tryz.prog C12 (lookS S12) big 4294967296 5 l12_5 := ⟨by kernel_rfl, fun z => by kernel_rfl⟩
theorem e12 (x : Args ps12) : kTop Go.Proofs.Tryz.prog C12 (lookS S12) big 10 12 ps12 rs12 x = con12.f x := by kernel_rfl
theorem ok12 [Glob] [RngG Go.Proofs.Tryz.prog] (h : AllOK Go.Proofs.Tryz.prog L12) (h' : AllU Go.Proofs.Tryz.prog U12) : con12.OK Go.Proofs.Tryz.prog 12 := con_of_tree (lookC_ok h h') (rounds_of (l := S12) ⟨r12_5, trivial⟩) e12
abbrev ps39 : List Ty := [.pair (.pair (.int .i64) (.int .i64)) (.pair (.pair (.int .i64) (.int .i64)) (.pair (.int .i64) (.pair (.int .i64) (.pair (.int .i64) (.int .i64))))), .pair (.int .i64) (.pair (.int .i64) (.pair (.int .i64) (.pair (.int .i64) (.int .i64))))]
abbrev rs39 : List RTy := [.val (.pair (.int .i64) (.pair (.int .i64) (.int .i64))), .val (.bool)]
noncomputable abbrev L39 : List (Nat × Con) := [(21, con21), (23, con23)]
noncomputable abbrev U39 : List (Nat × UCon) := []
noncomputable abbrev C39 : Cons := lookC L39 U39
noncomputable abbrev S39 : List (Nat × Nat × LSum) := []
noncomputable def con39 : Con := ⟨ps39, rs39, fun x => f39 x.1.1.1 x.1.1.2 x.1.2.1.1 x.1.2.1.2 x.1.2.2.1 x.1.2.2.2.1 x.1.2.2.2.2.1 x.1.2.2.2.2.2 x.2.1.1 x.2.1.2.1 x.2.1.2.2.1 x.2.1.2.2.2.1 x.2.1.2.2.2.2⟩
theorem e39 (x : Args ps39) : kTop Go.Proofs.Tryz.prog C39 (lookS S39) big 10 39 ps39 rs39 x = con39.f x := by kernel_rfl
theorem ok39 [Glob] [RngG Go.Proofs.Tryz.prog] (h : AllOK Go.Proofs.Tryz.prog L39) (h' : AllU Go.Proofs.Tryz.prog U39) : con39.OK Go.Proofs.Tryz.prog 39 := con_of_tree (lookC_ok h h') (rounds_of (l := S39) trivial) e39
abbrev ps40 : List Ty := [.pair (.int .i64) (.int .i64), .int .i64]
abbrev rs40 : List RTy := [.val (.int .i64), .val (.bool)]
noncomputable abbrev L40 : List (Nat × Con) := [(34, con34)]
noncomputable abbrev U40 : List (Nat × UCon) := []
noncomputable abbrev C40 : Cons := lookC L40 U40
noncomputable abbrev S40 : List (Nat × Nat × LSum) := []
noncomputable def con40 : Con := ⟨ps40, rs40, fun x => f40 x.1.1 x.1.2 x.2.1⟩
theorem e40 (x : Args ps40) : kTop Go.Proofs.Tryz.prog C40 (lookS S40) big 10 40 ps40 rs40 x = con40.f x := by kernel_rfl
theorem ok40 [Glob] [RngG Go.Proofs.Tryz.prog] (h : AllOK Go.Proofs.Tryz.prog L40) (h' : AllU Go.Proofs.Tryz.prog U40) : con40.OK Go.Proofs.Tryz.prog 40 := con_of_tree (lookC_ok h h') (rounds_of (l := S40) trivial) e40
abbrev ps43 : List Ty := [.int .i64]
abbrev rs43 : List RTy := [.val (.str)]
noncomputable abbrev L43 : List (Nat × Con) := [(41, conItoa), (42, conJoin)]
noncomputable abbrev U43 : List (Nat × UCon) := []
noncomputable abbrev C43 : Cons := lookC L43 U43
abbrev s43_5 : LShape := ⟨27, [(0, .int .i64), (11, .int .i64)], [], [], [⟨.t 3, 8294967616, 9, .str⟩]⟩
abbrev o43_5 : LShape := ⟨27, [], [], [], [⟨.t 3, 8294967648, 9, .str⟩]⟩
abbrev q43_5 : LShape := ⟨27, [], [], [], []⟩
noncomputable def l43_5 : LSum := ⟨9, 43, s43_5, 0, o43_5, q43_5, u43_5, false⟩
noncomputable abbrev S43 : List (Nat × Nat × LSum) := [(4294967296, 5, l43_5)]
noncomputable def con43 : Con := ⟨ps43, rs43, fun x => f43 x.1⟩
theorem r43_5 : Round Go.Proofs.Tryz.prog C43 (lookS S43) big 4294967296 5 l43_5 := ⟨by kernel_rfl, fun z => by kernel_rfl⟩
theorem e43 (x : Args ps43) : kTop Go.Proofs.Tryz.prog C43 (lookS S43) big 10 43 ps43 rs43 x = con43.f x := by kernel_rfl
theorem ok43 [Glob] [RngG Go.Proofs.Tryz.prog] (h : AllOK Go.Proofs.Tryz.prog L43) (h' : AllU Go.Proofs.Tryz.prog U43) : con43.OK Go.Proofs.Tryz.prog 43 := con_of_tree (lookC_ok h h') (rounds_of (l := S43) ⟨r43_5, trivial⟩) e43
abbrev ps16 : List Ty := [.pair (.pair (.int .i64) (.int .i64)) (.pair (.pair (.int .i64) (.int .i64)) (.pair (.int .i64) (.pair (.int .i64) (.pair (.int .i64) (.int .i64))))), .pair (.int .i64) (.pair (.int .i64) (.pair (.int .i64) (.pair (.int .i64) (.int .i64))))]
abbrev rs16 : List RTy := [.val (.str)]
noncomputable abbrev L16 : List (Nat × Con) := [(39, con39), (40, con40), (41, conItoa), (42, conJoin), (43, con43)]
noncomputable abbrev U16 : List (Nat × UCon) := []
noncomputable abbrev C16 : Cons := lookC L16 U16
noncomputable abbrev S16 : List (Nat × Nat × LSum) := []
noncomputable def con16 : Con := ⟨ps16, rs16, fun x => f16 x.1.1.1 x.1.1.2 x.1.2.1.1 x.1.2.1.2 x.1.2.2.1 x.1.2.2.2.1 x.1.2.2.2.2.1 x.1.2.2.2.2.2 x.2.1.1 x.2.1.2.1 x.2.1.2.2.1 x.2.1.2.2.2.1 x.2.1.2.2.2.2⟩
theorem e16 (x : Args ps16) : kTop Go.Proofs.Tryz.prog C16 (lookS S16) big 10 16 ps16 rs16 x = con16.f x := by kernel_rfl
theorem ok16 [Glob] [RngG Go.Proofs.Tryz.prog] (h : AllOK Go.Proofs.Tryz.prog L16) (h' : AllU Go.Proofs.Tryz.prog U16) : con16.OK Go.Proofs.Tryz.prog 16 := con_of_tree (lookC_ok h h') (rounds_of (l := S16) trivial) e16
abbrev ps15 : List Ty := [.pair (.pair (.int .i64) (.int .i64)) (.pair (.pair (.int .i64) (.int .i64)) (.pair (.int .i64) (.pair (.int .i64) (.pair (.int .i64) (.int .i64))))), .row (.pair (.int .i64) (.pair (.int .i64) (.pair (.int .i64) (.pair (.int .i64) (.int .i64)))))]
abbrev rs15 : List RTy := [.own 9 (.str)]
noncomputable abbrev L15 : List (Nat × Con) := [(16, con16)]
noncomputable abbrev U15 : List (Nat × UCon) := []
noncomputable abbrev C15 : Cons := lookC L15 U15
abbrev s15_78_1_0 : LShape := ⟨25, [(0, .fix (.yld 4294983680)), (2, .fix (.ptr 18446779399815561216 0)), (7, .cont (.pair (.int .i64) (.pair (.int .i64) (.pair (.int .i64) (.pair (.int .i64) (.int .i64)))))), (8, .int .i64), (9, .int .i64)], [(4294967296, .box 25 [.int .i64, .int .i64, .int .i64, .int .i64, .int .i64, .int .i64, .int .i64, .int .i64]), (4294971392, .box 48 [.fix (.sl 18446814455043663936 0)]), (18446779399815561216, .box 25 [.int .i64, .int .i64, .int .i64, .int .i64, .int .i64, .int .i64, .int .i64, .int .i64]), (18446779399815561232, .box 47 [.cont (.pair (.int .i64) (.pair (.int .i64) (.pair (.int .i64) (.pair (.int .i64) (.int .i64)))))]), (4294983680, .loop 15 4 .ready [.fix .junk, .fix .junk, .fix .junk, .fix .junk, .fix .junk, .fix (.ptr 4294971392 0), .fix (.lit (.tuple #[])), .fix .junk, .fix .junk, .fix .junk, .fix (.lit (.tuple #[])), .fix (.lit (.tuple #[])), .fix (.lit (.tuple #[])), .fix (.lit (.tuple #[])), .fix (.lit (.tuple #[])), .fix .junk])], [], [⟨.c 4294971392 0, 18446814455043663936, 9, .str⟩]⟩
abbrev o15_78_1_0 : LShape := ⟨25, [], [(4294967296, .box 25 [.int .i64, .int .i64, .int .i64, .int .i64, .int .i64, .int .i64, .int .i64, .int .i64]), (4294971392, .box 48 [.fix (.sl 18446814455043663968 0)]), (18446779399815561216, .box 25 [.int .i64, .int .i64, .int .i64, .int .i64, .int .i64, .int .i64, .int .i64, .int .i64]), (18446779399815561232, .box 47 [.cont (.pair (.int .i64) (.pair (.int .i64) (.pair (.int .i64) (.pair (.int .i64) (.int .i64)))))]), (4294983680, .loop 15 4 .ready [.fix .junk, .fix .junk, .fix .junk, .fix .junk, .fix .junk, .fix (.ptr 4294971392 0), .fix (.lit (.tuple #[])), .fix .junk, .fix .junk, .fix .junk, .fix (.lit (.tuple #[])), .fix (.lit (.tuple #[])), .fix (.lit (.tuple #[])), .fix (.lit (.tuple #[])), .fix (.lit (.tuple #[])), .fix .junk])], [], [⟨.c 4294971392 0, 18446814455043663968, 9, .str⟩]⟩
abbrev q15_78_1_0 : LShape := ⟨25, [], [(4294967296, .box 25 [.int .i64, .int .i64, .int .i64, .int .i64, .int .i64, .int .i64, .int .i64, .int .i64]), (4294971392, .box 48 [.fix (.sl 18446814455043663968 0)]), (18446779399815561216, .box 25 [.int .i64, .int .i64, .int .i64, .int .i64, .int .i64, .int .i64, .int .i64, .int .i64]), (18446779399815561232, .box 47 [.cont (.pair (.int .i64) (.pair (.int .i64) (.pair (.int .i64) (.pair (.int .i64) (.int .i64)))))]), (4294983680, .loop 15 4 .ready [.fix .junk, .fix .junk, .fix .junk, .fix .junk, .fix .junk, .fix (.ptr 4294971392 0), .fix (.lit (.tuple #[])), .fix .junk, .fix .junk, .fix .junk, .fix (.lit (.tuple #[])), .fix (.lit (.tuple #[])), .fix (.lit (.tuple #[])), .fix (.lit (.tuple #[])), .fix (.lit (.tuple #[])), .fix .junk])], [], [⟨.c 4294971392 0, 18446814455043663968, 9, .str⟩]⟩
noncomputable def l15_78_1_0 : LSum := ⟨8, 78, s15_78_1_0, 0, o15_78_1_0, q15_78_1_0, u15_78_1_0, false⟩
noncomputable abbrev S15 : List (Nat × Nat × LSum) := [(18446814451043663872, 1, l15_78_1_0)]
noncomputable def con15 : Con := ⟨ps15, rs15, fun x => f15 x.1.1.1 x.1.1.2 x.1.2.1.1 x.1.2.1.2 x.1.2.2.1 x.1.2.2.2.1 x.1.2.2.2.2.1 x.1.2.2.2.2.2 x.2.1⟩
theorem r15_78_1_0 : Round Go.Proofs.Tryz.prog C15 (lookS S15) big 18446814451043663872 1 l15_78_1_0 := ⟨by kernel_rfl, fun z => by kernel_rfl⟩
theorem e15 (x : Args ps15) : kTop Go.Proofs.Tryz.prog C15 (lookS S15) big 10 15 ps15 rs15 x = con15.f x := by kernel_rfl
theorem ok15 [Glob] [RngG Go.Proofs.Tryz.prog] (h : AllOK Go.Proofs.Tryz.prog L15) (h' : AllU Go.Proofs.Tryz.prog U15) : con15.OK Go.Proofs.Tryz.prog 15 := con_of_tree (lookC_ok h h') (rounds_of (l := S15) ⟨r15_78_1_0, trivial⟩) e15
abbrev ps98 : List Ty := [.int .i32]
abbrev rs98 : List RTy := [.val (.bool)]
noncomputable abbrev L98 : List (Nat × Con) := []
noncomputable abbrev U98 : List (Nat × UCon) := []
noncomputable abbrev C98 : Cons := lookC L98 U98
noncomputable abbrev S98 : List (Nat × Nat × LSum) := []
noncomputable def con98 : Con := ⟨ps98, rs98, fun x => f98 x.1⟩
theorem e98 (x : Args ps98) : kTop Go.Proofs.Tryz.prog C98 (lookS S98) big 10 98 ps98 rs98 x = con98.f x := by kernel_rfl
theorem ok98 [Glob] [RngG Go.Proofs.Tryz.prog] (h : AllOK Go.Proofs.Tryz.prog L98) (h' : AllU Go.Proofs.Tryz.prog U98) : con98.OK Go.Proofs.Tryz.prog 98 := con_of_tree (lookC_ok h h') (rounds_of (l := S98) trivial) e98
abbrev ps84 : List Ty := [.str, .int .i64]
abbrev rs84 : List RTy := [.val (.int .i64), .val (.bool)]
noncomputable abbrev L84 : List (Nat × Con) := [(98, con98)]
noncomputable abbrev U84 : List (Nat × UCon) := []
noncomputable abbrev C84 : Cons := lookC L84 U84
abbrev s84_3 : LShape := ⟨45, [(0, .str), (1, .int .i64), (6, .int .i64), (10, .fix (.ptr 4294975504 0))], [], [(4294975504, .siter)], []⟩
abbrev o84_3 : LShape := ⟨45, [(0, .str), (1, .int .i64), (6, .int .i64)], [], [], []⟩
abbrev q84_3 : LShape := ⟨45, [(4, .int .i64), (5, .bool)], [], [], []⟩
noncomputable def l84_3 : LSum := ⟨9, 84, s84_3, 0, o84_3, q84_3, u84_3, false⟩
noncomputable abbrev S84 : List (Nat × Nat × LSum) := [(4294967296, 3, l84_3)]
noncomputable def con84 : Con := ⟨ps84, rs84, fun x => f84 x.1 x.2.1⟩
theorem r84_3 : Round Go.Proofs.Tryz.prog C84 (lookS S84) big 4294967296 3 l84_3 := ⟨by kernel_rfl, fun z => by kernel_rfl⟩
theorem e84 (x : Args ps84) : kTop Go.Proofs.Tryz.prog C84 (lookS S84) big 10 84 ps84 rs84 x = con84.f x := by kernel_rfl
theorem ok84 [Glob] [RngG Go.Proofs.Tryz.prog] (h : AllOK Go.Proofs.Tryz.prog L84) (h' : AllU Go.Proofs.Tryz.prog U84) : con84.OK Go.Proofs.Tryz.prog 84 := con_of_tree (lookC_ok h h') (rounds_of (l := S84) ⟨r84_3, trivial⟩) e84
abbrev ps45 : List Ty := [.str]
abbrev rs45 : List RTy := [.val (.int .i64), .val (.bool)]
noncomputable abbrev L45 : List (Nat × Con) := [(44, conSplit), (84, con84)]
noncomputable abbrev U45 : List (Nat × UCon) := []
noncomputable abbrev C45 : Cons := lookC L45 U45
abbrev s45_6 : LShape := ⟨34, [(5, .int .i64), (16, .int .i64), (17, .int .i64)], [], [], [⟨.t 15, 8294967680, 9, .str⟩]⟩
abbrev o45_6 : LShape := ⟨34, [(5, .int .i64)], [], [], []⟩
abbrev q45_6 : LShape := ⟨34, [(2, .int .i64), (3, .bool)], [], [], []⟩
noncomputable def l45_6 : LSum := ⟨9, 45, s45_6, 0, o45_6, q45_6, u45_6, false⟩
noncomputable abbrev S45 : List (Nat × Nat × LSum) := [(4294967296, 6, l45_6)]
noncomputable def con45 : Con := ⟨ps45, rs45, fun x => f45 x.1⟩
theorem r45_6 : Round Go.Proofs.Tryz.prog C45 (lookS S45) big 4294967296 6 l45_6 := ⟨by kernel_rfl, fun z => by kernel_rfl⟩
theorem e45 (x : Args ps45) : kTop Go.Proofs.Tryz.prog C45 (lookS S45) big 10 45 ps45 rs45 x = con45.f x := by kernel_rfl
theorem ok45 [Glob] [RngG Go.Proofs.Tryz.prog] (h : AllOK Go.Proofs.Tryz.prog L45) (h' : AllU Go.Proofs.Tryz.prog U45) : con45.OK Go.Proofs.Tryz.prog 45 := con_of_tree (lookC_ok h h') (rounds_of (l := S45) ⟨r45_6, trivial⟩) e45
abbrev ps47 : List Ty := [.str]
abbrev rs47 : List RTy := [.val (.int .i64), .val (.bool)]
noncomputable abbrev L47 : List (Nat × Con) := []
noncomputable abbrev U47 : List (Nat × UCon) := []
noncomputable abbrev C47 : Cons := lookC L47 U47
abbrev s47_3 : LShape := ⟨41, [(0, .str), (4, .int .i64), (8, .fix (.ptr 4294975504 0))], [], [(4294975504, .siter)], []⟩
abbrev o47_3 : LShape := ⟨41, [(0, .str), (4, .int .i64)], [], [], []⟩
abbrev q47_3 : LShape := ⟨41, [(2, .int .i64), (3, .bool)], [], [], []⟩
noncomputable def l47_3 : LSum := ⟨9, 47, s47_3, 0, o47_3, q47_3, u47_3, false⟩
noncomputable abbrev S47 : List (Nat × Nat × LSum) := [(4294967296, 3, l47_3)]
noncomputable def con47 : Con := ⟨ps47, rs47, fun x => f47 x.1⟩
theorem r47_3 : Round Go.Proofs.Tryz.prog C47 (lookS S47) big 4294967296 3 l47_3 := ⟨by kernel_rfl, fun z => by kernel_rfl⟩
theorem e47 (x : Args ps47) : kTop Go.Proofs.Tryz.prog C47 (lookS S47) big 10 47 ps47 rs47 x = con47.f x := by kernel_rfl
theorem ok47 [Glob] [RngG Go.Proofs.Tryz.prog] (h : AllOK Go.Proofs.Tryz.prog L47) (h' : AllU Go.Proofs.Tryz.prog U47) : con47.OK Go.Proofs.Tryz.prog 47 := con_of_tree (lookC_ok h h') (rounds_of (l := S47) ⟨r47_3, trivial⟩) e47
abbrev ps17 : List Ty := [.pair (.pair (.int .i64) (.int .i64)) (.pair (.pair (.int .i64) (.int .i64)) (.pair (.int .i64) (.pair (.int .i64) (.pair (.int .i64) (.int .i64))))), .str]
abbrev rs17 : List RTy := [.val (.pair (.int .i64) (.pair (.int .i64) (.pair (.int .i64) (.pair (.int .i64) (.int .i64))))), .val (.bool)]
noncomputable abbrev L17 : List (Nat × Con) := [(16, con16), (26, con26), (44, conSplit), (45, con45), (46, conCut), (47, con47), (48, con48)]
noncomputable abbrev U17 : List (Nat × UCon) := []
noncomputable abbrev C17 : Cons := lookC L17 U17
noncomputable abbrev S17 : List (Nat × Nat × LSum) := []
noncomputable def con17 : Con := ⟨ps17, rs17, fun x => f17 x.1.1.1 x.1.1.2 x.1.2.1.1 x.1.2.1.2 x.1.2.2.1 x.1.2.2.2.1 x.1.2.2.2.2.1 x.1.2.2.2.2.2 x.2.1⟩
theorem e17 (x : Args ps17) : kTop Go.Proofs.Tryz.prog C17 (lookS S17) big 10 17 ps17 rs17 x = con17.f x := by kernel_rfl
theorem ok17 [Glob] [RngG Go.Proofs.Tryz.prog] (h : AllOK Go.Proofs.Tryz.prog L17) (h' : AllU Go.Proofs.Tryz.prog U17) : con17.OK Go.Proofs.Tryz.prog 17 := con_of_tree (lookC_ok h h') (rounds_of (l := S17) trivial) e17
abbrev ps18 : List Ty := []
abbrev rs18 : List RTy := [.val (.pair (.pair (.int .i64) (.int .i64)) (.pair (.pair (.int .i64) (.int .i64)) (.pair (.int .i64) (.pair (.int .i64) (.pair (.int .i64) (.int .i64))))))]
noncomputable abbrev L18 : List (Nat × Con) := []
noncomputable abbrev U18 : List (Nat × UCon) := []
noncomputable abbrev C18 : Cons := lookC L18 U18
noncomputable abbrev S18 : List (Nat × Nat × LSum) := []
noncomputable def con18 : Con := ⟨ps18, rs18, fun x => f18 ⟩
theorem e18 (x : Args ps18) : kTop Go.Proofs.Tryz.prog C18 (lookS S18) big 10 18 ps18 rs18 x = con18.f x := by kernel_rfl
theorem ok18 [Glob] [RngG Go.Proofs.Tryz.prog] (h : AllOK Go.Proofs.Tryz.prog L18) (h' : AllU Go.Proofs.Tryz.prog U18) : con18.OK Go.Proofs.Tryz.prog 18 := con_of_tree (lookC_ok h h') (rounds_of (l := S18) trivial) e18
abbrev ps19 : List Ty := [.pair (.pair (.int .i64) (.int .i64)) (.pair (.pair (.int .i64) (.int .i64)) (.pair (.int .i64) (.pair (.int .i64) (.pair (.int .i64) (.int .i64))))), .pair (.int .i64) (.pair (.int .i64) (.pair (.int .i64) (.bool)))]
abbrev rs19 : List RTy := [.pair (.val (.pair (.pair (.int .i64) (.int .i64)) (.pair (.pair (.int .i64) (.int .i64)) (.pair (.int .i64) (.pair (.int .i64) (.pair (.int .i64) (.int .i64))))))) (.pair (.val (.pair (.int .i64) (.pair (.int .i64) (.pair (.int .i64) (.bool))))) (.pair (.val (.int .i64)) (.pair (.own 44 (.pair (.int .i64) (.pair (.int .i64) (.int .i64)))) (.pair (.own 57 (.pair (.int .i64) (.pair (.int .i64) (.pair (.int .i64) (.pair (.int .i64) (.int .i64)))))) (.own 108 (.pair (.int .i64) (.pair (.int .i64) (.int .i64)))))))), .val (.bool)]
noncomputable abbrev L19 : List (Nat × Con) := [(11, con11)]
noncomputable abbrev U19 : List (Nat × UCon) := []
noncomputable abbrev C19 : Cons := lookC L19 U19
noncomputable abbrev S19 : List (Nat × Nat × LSum) := []
noncomputable def con19 : Con := ⟨ps19, rs19, fun x => f19 x.1.1.1 x.1.1.2 x.1.2.1.1 x.1.2.1.2 x.1.2.2.1 x.1.2.2.2.1 x.1.2.2.2.2.1 x.1.2.2.2.2.2 x.2.1.1 x.2.1.2.1 x.2.1.2.2.1 x.2.1.2.2.2⟩
theorem e19 (x : Args ps19) : kTop Go.Proofs.Tryz.prog C19 (lookS S19) big 10 19 ps19 rs19 x = con19.f x := by kernel_rfl
theorem ok19 [Glob] [RngG Go.Proofs.Tryz.prog] (h : AllOK Go.Proofs.Tryz.prog L19) (h' : AllU Go.Proofs.Tryz.prog U19) : con19.OK Go.Proofs.Tryz.prog 19 := con_of_tree (lookC_ok h h') (rounds_of (l := S19) trivial) e19
abbrev ps7 : List Ty := []
abbrev rs7 : List RTy := [.val (.bool)]
noncomputable abbrev L7 : List (Nat × Con) := [(9, con9), (10, con10), (12, con12), (15, con15), (16, con16), (17, con17), (18, con18), (19, con19)]
noncomputable abbrev U7 : List (Nat × UCon) := []
noncomputable abbrev C7 : Cons := lookC L7 U7
noncomputable abbrev S7 : List (Nat × Nat × LSum) := []
noncomputable def con7 : Con := ⟨ps7, rs7, fun x => f7 ⟩
theorem e7 (x : Args ps7) : kTop Go.Proofs.Tryz.prog C7 (lookS S7) big 10 7 ps7 rs7 x = con7.f x := by kernel_rfl
theorem ok7 [Glob] [RngG Go.Proofs.Tryz.prog] (h : AllOK Go.Proofs.Tryz.prog L7) (h' : AllU Go.Proofs.Tryz.prog U7) : con7.OK Go.Proofs.Tryz.prog 7 := con_of_tree (lookC_ok h h') (rounds_of (l := S7) trivial) e7
abbrev ps20 : List Ty := [.row (.pair (.int .i64) (.pair (.int .i64) (.pair (.int .i64) (.pair (.int .i64) (.int .i64))))), .row (.pair (.int .i64) (.pair (.int .i64) (.int .i64)))]
abbrev rs20 : List RTy := [.val (.bool)]
noncomputable abbrev L20 : List (Nat × Con) := []
noncomputable abbrev U20 : List (Nat × UCon) := []
noncomputable abbrev C20 : Cons := lookC L20 U20
noncomputable abbrev S20 : List (Nat × Nat × LSum) := []
noncomputable def con20 : Con := ⟨ps20, rs20, fun x => f20 x.1 x.2.1⟩
theorem e20 (x : Args ps20) : kTop Go.Proofs.Tryz.prog C20 (lookS S20) big 10 20 ps20 rs20 x = con20.f x := by kernel_rfl
theorem ok20 [Glob] [RngG Go.Proofs.Tryz.prog] (h : AllOK Go.Proofs.Tryz.prog L20) (h' : AllU Go.Proofs.Tryz.prog U20) : con20.OK Go.Proofs.Tryz.prog 20 := con_of_tree (lookC_ok h h') (rounds_of (l := S20) trivial) e20
abbrev ps8 : List Ty := [.pair (.pair (.pair (.int .i64) (.int .i64)) (.pair (.pair (.int .i64) (.int .i64)) (.pair (.int .i64) (.pair (.int .i64) (.pair (.int .i64) (.int .i64)))))) (.pair (.pair (.int .i64) (.pair (.int .i64) (.pair (.int .i64) (.bool)))) (.pair (.int .i64) (.pair (.row (.pair (.int .i64) (.pair (.int .i64) (.int .i64)))) (.pair (.row (.pair (.int .i64) (.pair (.int .i64) (.pair (.int .i64) (.pair (.int .i64) (.int .i64)))))) (.row (.pair (.int .i64) (.pair (.int .i64) (.int .i64))))))))]
abbrev rs8 : List RTy := [.val (.bool)]
noncomputable abbrev L8 : List (Nat × Con) := [(20, con20)]
noncomputable abbrev U8 : List (Nat × UCon) := []
noncomputable abbrev C8 : Cons := lookC L8 U8
noncomputable abbrev S8 : List (Nat × Nat × LSum) := []
noncomputable def con8 : Con := ⟨ps8, rs8, fun x => f8 x.1.1.1.1 x.1.1.1.2 x.1.1.2.1.1 x.1.1.2.1.2 x.1.1.2.2.1 x.1.1.2.2.2.1 x.1.1.2.2.2.2.1 x.1.1.2.2.2.2.2 x.1.2.1.1 x.1.2.1.2.1 x.1.2.1.2.2.1 x.1.2.1.2.2.2 x.1.2.2.1 x.1.2.2.2.1 x.1.2.2.2.2.1 x.1.2.2.2.2.2⟩
theorem e8 (x : Args ps8) : kTop Go.Proofs.Tryz.prog C8 (lookS S8) big 10 8 ps8 rs8 x = con8.f x := by kernel_rfl
theorem ok8 [Glob] [RngG Go.Proofs.Tryz.prog] (h : AllOK Go.Proofs.Tryz.prog L8) (h' : AllU Go.Proofs.Tryz.prog U8) : con8.OK Go.Proofs.Tryz.prog 8 := con_of_tree (lookC_ok h h') (rounds_of (l := S8) trivial) e8
abbrev ps3 : List Ty := [.pair (.pair (.pair (.int .i64) (.int .i64)) (.pair (.pair (.int .i64) (.int .i64)) (.pair (.int .i64) (.pair (.int .i64) (.pair (.int .i64) (.int .i64)))))) (.pair (.pair (.int .i64) (.pair (.int .i64) (.pair (.int .i64) (.bool)))) (.pair (.int .i64) (.pair (.row (.pair (.int .i64) (.pair (.int .i64) (.int .i64)))) (.pair (.row (.pair (.int .i64) (.pair (.int .i64) (.pair (.int .i64) (.pair (.int .i64) (.int .i64)))))) (.row (.pair (.int .i64) (.pair (.int .i64) (.int .i64)))))))), .int .i64, .int .i64, .int .i64, .int .i64]
abbrev rs3 : List RTy := [.val (.bool)]
noncomputable abbrev L3 : List (Nat × Con) := [(7, con7), (8, con8), (9, con9), (10, con10), (11, con11)]
noncomputable abbrev U3 : List (Nat × UCon) := []
noncomputable abbrev C3 : Cons := lookC L3 U3
abbrev s3_14 : LShape := ⟨121, [(3, .int .i64), (4, .int .i64), (5, .fix (.ptr 4294967296 0)), (16, .bool), (17, .int .i64)], [], [(4294967296, .box 32 [.int .i64, .int .i64, .int .i64, .int .i64, .int .i64, .int .i64, .int .i64, .int .i64, .int .i64, .int .i64, .int .i64, .bool, .int .i64, .cont (.pair (.int .i64) (.pair (.int .i64) (.int .i64))), .cont (.pair (.int .i64) (.pair (.int .i64) (.pair (.int .i64) (.pair (.int .i64) (.int .i64))))), .cont (.pair (.int .i64) (.pair (.int .i64) (.int .i64)))])], [⟨.t 15, 8294968192, 39, (.pair (.int .i64) (.pair (.int .i64) (.int .i64)))⟩]⟩
abbrev o3_14 : LShape := ⟨121, [(5, .fix (.ptr 4294967296 0)), (16, .bool)], [], [(4294967296, .box 32 [.int .i64, .int .i64, .int .i64, .int .i64, .int .i64, .int .i64, .int .i64, .int .i64, .int .i64, .int .i64, .int .i64, .bool, .int .i64, .cont (.pair (.int .i64) (.pair (.int .i64) (.int .i64))), .cont (.pair (.int .i64) (.pair (.int .i64) (.pair (.int .i64) (.pair (.int .i64) (.int .i64))))), .cont (.pair (.int .i64) (.pair (.int .i64) (.int .i64)))])], []⟩
abbrev q3_14 : LShape := ⟨121, [], [], [], []⟩
noncomputable def l3_14 : LSum := ⟨9, 3, s3_14, 0, o3_14, q3_14, u3_14, false⟩
noncomputable abbrev S3 : List (Nat × Nat × LSum) := [(4294967296, 14, l3_14)]
noncomputable def con3 : Con := ⟨ps3, rs3, fun x => f3 x.1.1.1.1 x.1.1.1.2 x.1.1.2.1.1 x.1.1.2.1.2 x.1.1.2.2.1 x.1.1.2.2.2.1 x.1.1.2.2.2.2.1 x.1.1.2.2.2.2.2 x.1.2.1.1 x.1.2.1.2.1 x.1.2.1.2.2.1 x.1.2.1.2.2.2 x.1.2.2.1 x.1.2.2.2.1 x.1.2.2.2.2.1 x.1.2.2.2.2.2 x.2.1 x.2.2.1 x.2.2.2.1 x.2.2.2.2.1⟩
theorem r3_14 : Round Go.Proofs.Tryz.prog C3 (lookS S3) big 4294967296 14 l3_14 := ⟨by kernel_rfl, fun z => by kernel_rfl⟩
theorem e3 (x : Args ps3) : kTop Go.Proofs.Tryz.prog C3 (lookS S3) big 10 3 ps3 rs3 x = con3.f x := by kernel_rfl
theorem ok3 [Glob] [RngG Go.Proofs.Tryz.prog] (h : AllOK Go.Proofs.Tryz.prog L3) (h' : AllU Go.Proofs.Tryz.prog U3) : con3.OK Go.Proofs.Tryz.prog 3 := con_of_tree (lookC_ok h h') (rounds_of (l := S3) ⟨r3_14, trivial⟩) e3
abbrev ps4 : List Ty := [.pair (.pair (.pair (.int .i64) (.int .i64)) (.pair (.pair (.int .i64) (.int .i64)) (.pair (.int .i64) (.pair (.int .i64) (.pair (.int .i64) (.int .i64)))))) (.pair (.pair (.int .i64) (.pair (.int .i64) (.pair (.int .i64) (.bool)))) (.pair (.int .i64) (.pair (.row (.pair (.int .i64) (.pair (.int .i64) (.int .i64)))) (.pair (.row (.pair (.int .i64) (.pair (.int .i64) (.pair (.int .i64) (.pair (.int .i64) (.int .i64)))))) (.row (.pair (.int .i64) (.pair (.int .i64) (.int .i64))))))))]
abbrev rs4 : List RTy := [.val (.bool)]
noncomputable abbrev L4 : List (Nat × Con) := [(7, con7), (8, con8), (11, con11), (12, con12), (13, con13), (14, con14)]
noncomputable abbrev U4 : List (Nat × UCon) := []
noncomputable abbrev C4 : Cons := lookC L4 U4
abbrev s4_11 : LShape := ⟨113, [(1, .fix (.ptr 4294967296 0)), (5, .int .i64), (6, .int .i64), (7, .int .i64), (8, .int .i64), (9, .bool), (10, .int .i64)], [], [(4294967296, .box 32 [.int .i64, .int .i64, .int .i64, .int .i64, .int .i64, .int .i64, .int .i64, .int .i64, .int .i64, .int .i64, .int .i64, .bool, .int .i64, .cont (.pair (.int .i64) (.pair (.int .i64) (.int .i64))), .cont (.pair (.int .i64) (.pair (.int .i64) (.pair (.int .i64) (.pair (.int .i64) (.int .i64))))), .cont (.pair (.int .i64) (.pair (.int .i64) (.int .i64)))])], []⟩
abbrev o4_11 : LShape := ⟨113, [(1, .fix (.ptr 4294967296 0)), (5, .int .i64), (6, .int .i64), (7, .int .i64), (8, .int .i64), (9, .bool)], [], [(4294967296, .box 32 [.int .i64, .int .i64, .int .i64, .int .i64, .int .i64, .int .i64, .int .i64, .int .i64, .int .i64, .int .i64, .int .i64, .bool, .int .i64, .cont (.pair (.int .i64) (.pair (.int .i64) (.int .i64))), .cont (.pair (.int .i64) (.pair (.int .i64) (.pair (.int .i64) (.pair (.int .i64) (.int .i64))))), .cont (.pair (.int .i64) (.pair (.int .i64) (.int .i64)))])], []⟩
abbrev q4_11 : LShape := ⟨113, [], [], [], []⟩
noncomputable def l4_11 : LSum := ⟨9, 4, s4_11, 0, o4_11, q4_11, u4_11, false⟩
noncomputable abbrev S4 : List (Nat × Nat × LSum) := [(4294967296, 11, l4_11)]
noncomputable def con4 : Con := ⟨ps4, rs4, fun x => f4 x.1.1.1.1 x.1.1.1.2 x.1.1.2.1.1 x.1.1.2.1.2 x.1.1.2.2.1 x.1.1.2.2.2.1 x.1.1.2.2.2.2.1 x.1.1.2.2.2.2.2 x.1.2.1.1 x.1.2.1.2.1 x.1.2.1.2.2.1 x.1.2.1.2.2.2 x.1.2.2.1 x.1.2.2.2.1 x.1.2.2.2.2.1 x.1.2.2.2.2.2⟩
theorem r4_11 : Round Go.Proofs.Tryz.prog C4 (lookS S4) big 4294967296 11 l4_11 := ⟨by kernel_rfl, fun z => by kernel_rfl⟩
theorem e4 (x : Args ps4) : kTop Go.Proofs.Tryz.prog C4 (lookS S4) big 10 4 ps4 rs4 x = con4.f x := by kernel_rfl
theorem ok4 [Glob] [RngG Go.Proofs.Tryz.prog] (h : AllOK Go.Proofs.Tryz.prog L4) (h' : AllU Go.Proofs.Tryz.prog U4) : con4.OK Go.Proofs.Tryz.prog 4 := con_of_tree (lookC_ok h h') (rounds_of (l := S4) ⟨r4_11, trivial⟩) e4
abbrev ps5 : List Ty := [.pair (.pair (.int .i64) (.int .i64)) (.pair (.pair (.int .i64) (.int .i64)) (.pair (.int .i64) (.pair (.int .i64) (.pair (.int .i64) (.int .i64))))), .row (.pair (.int .i64) (.pair (.int .i64) (.pair (.int .i64) (.pair (.int .i64) (.int .i64))))), .int .i64]
abbrev rs5 : List RTy := [.val (.bool)]
noncomputable abbrev L5 : List (Nat × Con) := [(7, con7), (15, con15), (16, con16), (17, con17)]
noncomputable abbrev U5 : List (Nat × UCon) := []
noncomputable abbrev C5 : Cons := lookC L5 U5
abbrev s5_7 : LShape := ⟨102, [(1, .cont (.pair (.int .i64) (.pair (.int .i64) (.pair (.int .i64) (.pair (.int .i64) (.int .i64)))))), (2, .int .i64), (3, .fix (.ptr 4294967296 0)), (9, .int .i64), (10, .int .i64)], [], [(4294967296, .box 25 [.int .i64, .int .i64, .int .i64, .int .i64, .int .i64, .int .i64, .int .i64, .int .i64])], [⟨.t 8, 8294967744, 9, .str⟩]⟩
abbrev o5_7 : LShape := ⟨102, [(1, .cont (.pair (.int .i64) (.pair (.int .i64) (.pair (.int .i64) (.pair (.int .i64) (.int .i64)))))), (2, .int .i64), (3, .fix (.ptr 4294967296 0)), (9, .int .i64)], [], [(4294967296, .box 25 [.int .i64, .int .i64, .int .i64, .int .i64, .int .i64, .int .i64, .int .i64, .int .i64])], [⟨.t 8, 8294967776, 9, .str⟩]⟩
abbrev q5_7 : LShape := ⟨102, [(6, .bool)], [], [], []⟩
noncomputable def l5_7 : LSum := ⟨9, 5, s5_7, 0, o5_7, q5_7, u5_7, false⟩
abbrev s5_19 : LShape := ⟨102, [(1, .cont (.pair (.int .i64) (.pair (.int .i64) (.pair (.int .i64) (.pair (.int .i64) (.int .i64)))))), (12, .fix (.ptr 4295032976 0)), (13, .bool), (14, .bool), (15, .int .i64)], [], [(4295032976, .box 52 [.int .i64, .int .i64, .int .i64, .int .i64, .int .i64])], []⟩
abbrev o5_19 : LShape := ⟨102, [(13, .bool), (14, .bool)], [], [], []⟩
abbrev q5_19 : LShape := ⟨102, [], [], [], []⟩
noncomputable def l5_19 : LSum := ⟨9, 5, s5_19, 2, o5_19, q5_19, u5_19, false⟩
noncomputable abbrev S5 : List (Nat × Nat × LSum) := [(4294967296, 7, l5_7), (4294967296, 19, l5_19)]
noncomputable def con5 : Con := ⟨ps5, rs5, fun x => f5 x.1.1.1 x.1.1.2 x.1.2.1.1 x.1.2.1.2 x.1.2.2.1 x.1.2.2.2.1 x.1.2.2.2.2.1 x.1.2.2.2.2.2 x.2.1 x.2.2.1⟩
theorem r5_7 : Round Go.Proofs.Tryz.prog C5 (lookS S5) big 4294967296 7 l5_7 := ⟨by kernel_rfl, fun z => by kernel_rfl⟩
theorem r5_19 : Round Go.Proofs.Tryz.prog C5 (lookS S5) big 4294967296 19 l5_19 := ⟨by kernel_rfl, fun z => by kernel_rfl⟩
theorem e5 (x : Args ps5) : kTop Go.Proofs.Tryz.prog C5 (lookS S5) big 10 5 ps5 rs5 x = con5.f x := by kernel_rfl
theorem ok5 [Glob] [RngG Go.Proofs.Tryz.prog] (h : AllOK Go.Proofs.Tryz.prog L5) (h' : AllU Go.Proofs.Tryz.prog U5) : con5.OK Go.Proofs.Tryz.prog 5 := con_of_tree (lookC_ok h h') (rounds_of (l := S5) ⟨r5_7, r5_19, trivial⟩) e5
abbrev ps6 : List Ty := [.pair (.pair (.pair (.int .i64) (.int .i64)) (.pair (.pair (.int .i64) (.int .i64)) (.pair (.int .i64) (.pair (.int .i64) (.pair (.int .i64) (.int .i64)))))) (.pair (.pair (.int .i64) (.pair (.int .i64) (.pair (.int .i64) (.bool)))) (.pair (.int .i64) (.pair (.row (.pair (.int .i64) (.pair (.int .i64) (.int .i64)))) (.pair (.row (.pair (.int .i64) (.pair (.int .i64) (.pair (.int .i64) (.pair (.int .i64) (.int .i64)))))) (.row (.pair (.int .i64) (.pair (.int .i64) (.int .i64)))))))), .int .i64]
abbrev rs6 : List RTy := [.val (.bool)]
noncomputable abbrev L6 : List (Nat × Con) := [(7, con7), (8, con8), (9, con9), (11, con11)]
noncomputable abbrev U6 : List (Nat × UCon) := []
noncomputable abbrev C6 : Cons := lookC L6 U6
abbrev s6_8 : LShape := ⟨126, [(1, .int .i64), (2, .fix (.ptr 4294967296 0)), (8, .int .i64), (9, .int .i64)], [], [(4294967296, .box 32 [.int .i64, .int .i64, .int .i64, .int .i64, .int .i64, .int .i64, .int .i64, .int .i64, .int .i64, .int .i64, .int .i64, .bool, .int .i64, .cont (.pair (.int .i64) (.pair (.int .i64) (.int .i64))), .cont (.pair (.int .i64) (.pair (.int .i64) (.pair (.int .i64) (.pair (.int .i64) (.int .i64))))), .cont (.pair (.int .i64) (.pair (.int .i64) (.int .i64)))])], [⟨.t 7, 8294967808, 39, (.pair (.int .i64) (.pair (.int .i64) (.int .i64)))⟩]⟩
abbrev o6_8 : LShape := ⟨126, [(2, .fix (.ptr 4294967296 0)), (8, .int .i64)], [], [(4294967296, .box 32 [.int .i64, .int .i64, .int .i64, .int .i64, .int .i64, .int .i64, .int .i64, .int .i64, .int .i64, .int .i64, .int .i64, .bool, .int .i64, .cont (.pair (.int .i64) (.pair (.int .i64) (.int .i64))), .cont (.pair (.int .i64) (.pair (.int .i64) (.pair (.int .i64) (.pair (.int .i64) (.int .i64))))), .cont (.pair (.int .i64) (.pair (.int .i64) (.int .i64)))])], [⟨.t 7, 8294967840, 39, (.pair (.int .i64) (.pair (.int .i64) (.int .i64)))⟩]⟩
abbrev q6_8 : LShape := ⟨126, [], [], [], []⟩
noncomputable def l6_8 : LSum := ⟨9, 6, s6_8, 0, o6_8, q6_8, u6_8, false⟩
abbrev s6_13 : LShape := ⟨126, [(2, .fix (.ptr 4294967296 0)), (8, .int .i64), (10, .int .i64)], [], [(4294967296, .box 32 [.int .i64, .int .i64, .int .i64, .int .i64, .int .i64, .int .i64, .int .i64, .int .i64, .int .i64, .int .i64, .int .i64, .bool, .int .i64, .cont (.pair (.int .i64) (.pair (.int .i64) (.int .i64))), .cont (.pair (.int .i64) (.pair (.int .i64) (.pair (.int .i64) (.pair (.int .i64) (.int .i64))))), .cont (.pair (.int .i64) (.pair (.int .i64) (.int .i64)))])], [⟨.t 7, 8294968128, 39, (.pair (.int .i64) (.pair (.int .i64) (.int .i64)))⟩]⟩
abbrev o6_13 : LShape := ⟨126, [(8, .int .i64)], [], [], [⟨.t 7, 8294968160, 39, (.pair (.int .i64) (.pair (.int .i64) (.int .i64)))⟩]⟩
abbrev q6_13 : LShape := ⟨126, [(4, .bool)], [], [], []⟩
noncomputable def l6_13 : LSum := ⟨9, 6, s6_13, 2, o6_13, q6_13, u6_13, false⟩
noncomputable abbrev S6 : List (Nat × Nat × LSum) := [(4294967296, 8, l6_8), (4294967296, 13, l6_13)]
noncomputable def con6 : Con := ⟨ps6, rs6, fun x => f6 x.1.1.1.1 x.1.1.1.2 x.1.1.2.1.1 x.1.1.2.1.2 x.1.1.2.2.1 x.1.1.2.2.2.1 x.1.1.2.2.2.2.1 x.1.1.2.2.2.2.2 x.1.2.1.1 x.1.2.1.2.1 x.1.2.1.2.2.1 x.1.2.1.2.2.2 x.1.2.2.1 x.1.2.2.2.1 x.1.2.2.2.2.1 x.1.2.2.2.2.2 x.2.1⟩
theorem r6_8 : Round Go.Proofs.Tryz.prog C6 (lookS S6) big 4294967296 8 l6_8 := ⟨by kernel_rfl, fun z => by kernel_rfl⟩
theorem r6_13 : Round Go.Proofs.Tryz.prog C6 (lookS S6) big 4294967296 13 l6_13 := ⟨by kernel_rfl, fun z => by kernel_rfl⟩
theorem e6 (x : Args ps6) : kTop Go.Proofs.Tryz.prog C6 (lookS S6) big 10 6 ps6 rs6 x = con6.f x := by kernel_rfl
theorem ok6 [Glob] [RngG Go.Proofs.Tryz.prog] (h : AllOK Go.Proofs.Tryz.prog L6) (h' : AllU Go.Proofs.Tryz.prog U6) : con6.OK Go.Proofs.Tryz.prog 6 := con_of_tree (lookC_ok h h') (rounds_of (l := S6) ⟨r6_8, r6_13, trivial⟩) e6

theorem k53 : con53.OK Tryz.prog 53 := ok53 trivial trivial
theorem k68 : con68.OK Tryz.prog 68 := ok68 trivial trivial
theorem k34 : con34.OK Tryz.prog 34 := ok34 ⟨k68, trivial⟩ trivial
theorem k48 : con48.OK Tryz.prog 48 := ok48 ⟨k68, trivial⟩ trivial
theorem k56 : con56.OK Tryz.prog 56 := ok56 ⟨k48, k68, trivial⟩ trivial
theorem k49 : con49.OK Tryz.prog 49 := ok49 ⟨k34, trivial⟩ trivial
theorem k60 : con60.OK Tryz.prog 60 := ok60 trivial trivial
theorem k27 : con27.OK Tryz.prog 27 := ok27 ⟨k34, k49, k53, k56, k60, trivial⟩ trivial
theorem k29 : con29.OK Tryz.prog 29 := ok29 trivial trivial
theorem k28 : con28.OK Tryz.prog 28 := ok28 ⟨k29, trivial⟩ trivial
theorem k64 : con64.OK Tryz.prog 64 := ok64 trivial trivial
theorem k65 : con65.OK Tryz.prog 65 := ok65 trivial trivial
theorem k30 : con30.OK Tryz.prog 30 := ok30 ⟨k64, k65, trivial⟩ trivial
theorem k31 : con31.OK Tryz.prog 31 := ok31 ⟨k34, trivial⟩ trivial
theorem k50 : con50.OK Tryz.prog 50 := ok50 ⟨k27, k49, k60, trivial⟩ trivial
theorem k21 : con21.OK Tryz.prog 21 := ok21 ⟨k27, k34, k49, k50, trivial⟩ trivial
theorem k13 : con13.OK Tryz.prog 13 := ok13 ⟨k27, trivial⟩ trivial
theorem k23 : con23.OK Tryz.prog 23 := ok23 ⟨k13, k34, trivial⟩ trivial
theorem k71 : con71.OK Tryz.prog 71 := ok71 trivial trivial
theorem k35 : con35.OK Tryz.prog 35 := ok35 ⟨k71, trivial⟩ trivial
theorem k67 : con67.OK Tryz.prog 67 := ok67 trivial trivial
theorem k32 : con32.OK Tryz.prog 32 := ok32 ⟨k21, k23, k35, k67, trivial⟩ trivial
theorem k73 : con73.OK Tryz.prog 73 := ok73 trivial trivial
theorem k52 : con52.OK Tryz.prog 52 := ok52 ⟨k73, trivial⟩ trivial
theorem k25 : con25.OK Tryz.prog 25 := ok25 ⟨k52, trivial⟩ trivial
theorem k33 : con33.OK Tryz.prog 33 := ok33 ⟨k23, k25, k29, k67, trivial⟩ trivial
theorem k11 : con11.OK Tryz.prog 11 := ok11 ⟨k27, k28, k29, k30, k31, k32, k33, trivial⟩ trivial
theorem k22 : con22.OK Tryz.prog 22 := ok22 trivial trivial
theorem k9 : con9.OK Tryz.prog 9 := ok9 ⟨k11, k21, k22, k23, trivial⟩ trivial
theorem k24 : con24.OK Tryz.prog 24 := ok24 ⟨k21, k27, k34, k49, k50, trivial⟩ trivial
theorem k26 : con26.OK Tryz.prog 26 := ok26 ⟨k13, k27, k34, trivial⟩ trivial
theorem k10 : con10.OK Tryz.prog 10 := ok10 ⟨k11, k24, k25, k26, trivial⟩ trivial
theorem k14 : con14.OK Tryz.prog 14 := ok14 ⟨k35, trivial⟩ trivial
theorem k76 : con76.OK Tryz.prog 76 := ok76 trivial trivial
theorem k72 : con72.OK Tryz.prog 72 := ok72 ⟨k76, trivial⟩ trivial
theorem k74 : con74.OK Tryz.prog 74 := ok74 trivial trivial
theorem k100 : con100.OK Tryz.prog 100 := ok100 ⟨k76, trivial⟩ trivial
theorem k101 : con101.OK Tryz.prog 101 := ok101 ⟨k100, trivial⟩ trivial
theorem k89 : con89.OK Tryz.prog 89 := ok89 ⟨k100, k101, trivial⟩ trivial
theorem k75 : con75.OK Tryz.prog 75 := ok75 ⟨k89, trivial⟩ trivial
theorem k36 : con36.OK Tryz.prog 36 := ok36 ⟨k13, k72, k73, k74, k75, trivial⟩ trivial
theorem k90 : con90.OK Tryz.prog 90 := ok90 trivial trivial
theorem k91 : con91.OK Tryz.prog 91 := ok91 trivial trivial
theorem k77 : con77.OK Tryz.prog 77 := ok77 ⟨k90, k91, trivial⟩ trivial
theorem k37 : con37.OK Tryz.prog 37 := ok37 ⟨k76, k77, trivial⟩ trivial
theorem k12 : con12.OK Tryz.prog 12 := ok12 ⟨k11, k14, k34, k35, k36, k37, trivial⟩ trivial
theorem k39 : con39.OK Tryz.prog 39 := ok39 ⟨k21, k23, trivial⟩ trivial
theorem k40 : con40.OK Tryz.prog 40 := ok40 ⟨k34, trivial⟩ trivial
theorem k43 : con43.OK Tryz.prog 43 := ok43 ⟨okItoa, okJoin, trivial⟩ trivial
theorem k16 : con16.OK Tryz.prog 16 := ok16 ⟨k39, k40, okItoa, okJoin, k43, trivial⟩ trivial
theorem k15 : con15.OK Tryz.prog 15 := ok15 ⟨k16, trivial⟩ trivial
theorem k98 : con98.OK Tryz.prog 98 := ok98 trivial trivial
theorem k84 : con84.OK Tryz.prog 84 := ok84 ⟨k98, trivial⟩ trivial
theorem k45 : con45.OK Tryz.prog 45 := ok45 ⟨okSplit, k84, trivial⟩ trivial
theorem k47 : con47.OK Tryz.prog 47 := ok47 trivial trivial
theorem k17 : con17.OK Tryz.prog 17 := ok17 ⟨k16, k26, okSplit, k45, okCut, k47, k48, trivial⟩ trivial
theorem k18 : con18.OK Tryz.prog 18 := ok18 trivial trivial
theorem k19 : con19.OK Tryz.prog 19 := ok19 ⟨k11, trivial⟩ trivial
theorem k7 : con7.OK Tryz.prog 7 := ok7 ⟨k9, k10, k12, k15, k16, k17, k18, k19, trivial⟩ trivial
theorem k20 : con20.OK Tryz.prog 20 := ok20 trivial trivial
theorem k8 : con8.OK Tryz.prog 8 := ok8 ⟨k20, trivial⟩ trivial
theorem k3 : con3.OK Tryz.prog 3 := ok3 ⟨k7, k8, k9, k10, k11, trivial⟩ trivial
theorem k4 : con4.OK Tryz.prog 4 := ok4 ⟨k7, k8, k11, k12, k13, k14, trivial⟩ trivial
theorem k5 : con5.OK Tryz.prog 5 := ok5 ⟨k7, k15, k16, k17, trivial⟩ trivial
theorem k6 : con6.OK Tryz.prog 6 := ok6 ⟨k7, k8, k9, k11, trivial⟩ trivial
end Go.Proofs.Zz
