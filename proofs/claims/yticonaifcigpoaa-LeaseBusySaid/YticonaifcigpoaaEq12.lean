/- What the functions come to: the equations, by the kernel, and their contracts. -/
import Derived.Test.YticonaifcigpoaaPure12
namespace Go.Proofs.Zz
open Go Go.Sy
set_option linter.unusedVariables false
set_option maxHeartbeats 0
set_option maxRecDepth 100000
abbrev ps8 : List Ty := [.row (.pair (.int .i64) (.pair (.int .i64) (.pair (.int .i64) (.pair (.int .i64) (.int .i64))))), .row (.pair (.int .i64) (.pair (.int .i64) (.int .i64)))]
abbrev rs8 : List RTy := [.val .bool]
noncomputable abbrev L8 : List (Nat × Con) := []
noncomputable abbrev U8 : List (Nat × UCon) := []
noncomputable abbrev C8 : Cons := lookC L8 U8
noncomputable abbrev S8 : List (Nat × Nat × LSum) := []
noncomputable def con8 : Con := ⟨ps8, rs8, fun x => f8 x.1 x.2.1⟩
theorem e8 (x : Args ps8) : kTop Go.Proofs.Try.prog C8 (lookS S8) big 10 8 ps8 rs8 x = con8.f x := by kernel_rfl
theorem ok8 [Glob] (h : AllOK Go.Proofs.Try.prog L8) (h' : AllU Go.Proofs.Try.prog U8) : con8.OK Go.Proofs.Try.prog 8 := con_of_tree (lookC_ok h h') (rounds_of (l := S8) trivial) e8
abbrev ps9 : List Ty := [.row (.pair (.int .i64) (.pair (.int .i64) (.pair (.int .i64) (.pair (.int .i64) (.int .i64))))), .row (.pair (.int .i64) (.pair (.int .i64) (.pair (.int .i64) (.pair (.int .i64) (.int .i64)))))]
abbrev rs9 : List RTy := [.val .bool]
noncomputable abbrev L9 : List (Nat × Con) := []
noncomputable abbrev U9 : List (Nat × UCon) := []
noncomputable abbrev C9 : Cons := lookC L9 U9
abbrev s9_4 : LShape := ⟨26, [(0, .cont (.pair (.int .i64) (.pair (.int .i64) (.pair (.int .i64) (.pair (.int .i64) (.int .i64)))))), (1, .cont (.pair (.int .i64) (.pair (.int .i64) (.pair (.int .i64) (.pair (.int .i64) (.int .i64)))))), (5, .int .i64)], [], [], []⟩
abbrev o9_4 : LShape := ⟨26, [], [], [], []⟩
abbrev q9_4 : LShape := ⟨26, [(4, .bool)], [], [], []⟩
noncomputable def l9_4 : LSum := ⟨9, 9, s9_4, 0, o9_4, q9_4, u9_4⟩
noncomputable abbrev S9 : List (Nat × Nat × LSum) := [(4294967296, 4, l9_4)]
noncomputable def con9 : Con := ⟨ps9, rs9, fun x => f9 x.1 x.2.1⟩
theorem r9_4 : Round Go.Proofs.Try.prog C9 (lookS S9) big 4294967296 4 l9_4 := ⟨by kernel_rfl, fun z => by kernel_rfl⟩
theorem e9 (x : Args ps9) : kTop Go.Proofs.Try.prog C9 (lookS S9) big 10 9 ps9 rs9 x = con9.f x := by kernel_rfl
theorem ok9 [Glob] (h : AllOK Go.Proofs.Try.prog L9) (h' : AllU Go.Proofs.Try.prog U9) : con9.OK Go.Proofs.Try.prog 9 := con_of_tree (lookC_ok h h') (rounds_of (l := S9) ⟨r9_4, trivial⟩) e9
abbrev ps10 : List Ty := [.row (.pair (.int .i64) (.pair (.int .i64) (.int .i64))), .row (.pair (.int .i64) (.pair (.int .i64) (.int .i64)))]
abbrev rs10 : List RTy := [.val .bool]
noncomputable abbrev L10 : List (Nat × Con) := []
noncomputable abbrev U10 : List (Nat × UCon) := []
noncomputable abbrev C10 : Cons := lookC L10 U10
abbrev s10_4 : LShape := ⟨26, [(0, .cont (.pair (.int .i64) (.pair (.int .i64) (.int .i64)))), (1, .cont (.pair (.int .i64) (.pair (.int .i64) (.int .i64)))), (5, .int .i64)], [], [], []⟩
abbrev o10_4 : LShape := ⟨26, [], [], [], []⟩
abbrev q10_4 : LShape := ⟨26, [(4, .bool)], [], [], []⟩
noncomputable def l10_4 : LSum := ⟨9, 10, s10_4, 0, o10_4, q10_4, u10_4⟩
noncomputable abbrev S10 : List (Nat × Nat × LSum) := [(4294967296, 4, l10_4)]
noncomputable def con10 : Con := ⟨ps10, rs10, fun x => f10 x.1 x.2.1⟩
theorem r10_4 : Round Go.Proofs.Try.prog C10 (lookS S10) big 4294967296 4 l10_4 := ⟨by kernel_rfl, fun z => by kernel_rfl⟩
theorem e10 (x : Args ps10) : kTop Go.Proofs.Try.prog C10 (lookS S10) big 10 10 ps10 rs10 x = con10.f x := by kernel_rfl
theorem ok10 [Glob] (h : AllOK Go.Proofs.Try.prog L10) (h' : AllU Go.Proofs.Try.prog U10) : con10.OK Go.Proofs.Try.prog 10 := con_of_tree (lookC_ok h h') (rounds_of (l := S10) ⟨r10_4, trivial⟩) e10
abbrev ps22 : List Ty := [.row (.pair (.int .i64) (.pair (.int .i64) (.pair (.int .i64) (.pair (.int .i64) (.int .i64))))), .row (.pair (.int .i64) (.pair (.int .i64) (.pair (.int .i64) (.pair (.int .i64) (.int .i64)))))]
abbrev rs22 : List RTy := [.val .bool]
noncomputable abbrev L22 : List (Nat × Con) := []
noncomputable abbrev U22 : List (Nat × UCon) := []
noncomputable abbrev C22 : Cons := lookC L22 U22
abbrev s22_4 : LShape := ⟨26, [(0, .cont (.pair (.int .i64) (.pair (.int .i64) (.pair (.int .i64) (.pair (.int .i64) (.int .i64)))))), (1, .cont (.pair (.int .i64) (.pair (.int .i64) (.pair (.int .i64) (.pair (.int .i64) (.int .i64)))))), (12, .int .i64), (13, .int .i64)], [], [], []⟩
abbrev o22_4 : LShape := ⟨26, [], [], [], []⟩
abbrev q22_4 : LShape := ⟨26, [(4, .bool)], [], [], []⟩
noncomputable def l22_4 : LSum := ⟨9, 22, s22_4, 0, o22_4, q22_4, u22_4⟩
noncomputable abbrev S22 : List (Nat × Nat × LSum) := [(4294967296, 4, l22_4)]
noncomputable def con22 : Con := ⟨ps22, rs22, fun x => f22 x.1 x.2.1⟩
theorem r22_4 : Round Go.Proofs.Try.prog C22 (lookS S22) big 4294967296 4 l22_4 := ⟨by kernel_rfl, fun z => by kernel_rfl⟩
theorem e22 (x : Args ps22) : kTop Go.Proofs.Try.prog C22 (lookS S22) big 10 22 ps22 rs22 x = con22.f x := by kernel_rfl
theorem ok22 [Glob] (h : AllOK Go.Proofs.Try.prog L22) (h' : AllU Go.Proofs.Try.prog U22) : con22.OK Go.Proofs.Try.prog 22 := con_of_tree (lookC_ok h h') (rounds_of (l := S22) ⟨r22_4, trivial⟩) e22
abbrev ps23 : List Ty := [.row (.pair (.int .i64) (.pair (.int .i64) (.int .i64))), .row (.pair (.int .i64) (.pair (.int .i64) (.int .i64)))]
abbrev rs23 : List RTy := [.val .bool]
noncomputable abbrev L23 : List (Nat × Con) := []
noncomputable abbrev U23 : List (Nat × UCon) := []
noncomputable abbrev C23 : Cons := lookC L23 U23
abbrev s23_4 : LShape := ⟨26, [(0, .cont (.pair (.int .i64) (.pair (.int .i64) (.int .i64)))), (1, .cont (.pair (.int .i64) (.pair (.int .i64) (.int .i64)))), (12, .int .i64), (13, .int .i64)], [], [], []⟩
abbrev o23_4 : LShape := ⟨26, [], [], [], []⟩
abbrev q23_4 : LShape := ⟨26, [(4, .bool)], [], [], []⟩
noncomputable def l23_4 : LSum := ⟨9, 23, s23_4, 0, o23_4, q23_4, u23_4⟩
noncomputable abbrev S23 : List (Nat × Nat × LSum) := [(4294967296, 4, l23_4)]
noncomputable def con23 : Con := ⟨ps23, rs23, fun x => f23 x.1 x.2.1⟩
theorem r23_4 : Round Go.Proofs.Try.prog C23 (lookS S23) big 4294967296 4 l23_4 := ⟨by kernel_rfl, fun z => by kernel_rfl⟩
theorem e23 (x : Args ps23) : kTop Go.Proofs.Try.prog C23 (lookS S23) big 10 23 ps23 rs23 x = con23.f x := by kernel_rfl
theorem ok23 [Glob] (h : AllOK Go.Proofs.Try.prog L23) (h' : AllU Go.Proofs.Try.prog U23) : con23.OK Go.Proofs.Try.prog 23 := con_of_tree (lookC_ok h h') (rounds_of (l := S23) ⟨r23_4, trivial⟩) e23
abbrev ps11 : List Ty := [.row (.pair (.int .i64) (.pair (.int .i64) (.pair (.int .i64) (.pair (.int .i64) (.int .i64))))), .row (.pair (.int .i64) (.pair (.int .i64) (.pair (.int .i64) (.pair (.int .i64) (.int .i64)))))]
abbrev rs11 : List RTy := [.val .bool]
noncomputable abbrev L11 : List (Nat × Con) := [(22, con22)]
noncomputable abbrev U11 : List (Nat × UCon) := []
noncomputable abbrev C11 : Cons := lookC L11 U11
noncomputable abbrev S11 : List (Nat × Nat × LSum) := []
noncomputable def con11 : Con := ⟨ps11, rs11, fun x => f11 x.1 x.2.1⟩
theorem e11 (x : Args ps11) : kTop Go.Proofs.Try.prog C11 (lookS S11) big 10 11 ps11 rs11 x = con11.f x := by kernel_rfl
theorem ok11 [Glob] (h : AllOK Go.Proofs.Try.prog L11) (h' : AllU Go.Proofs.Try.prog U11) : con11.OK Go.Proofs.Try.prog 11 := con_of_tree (lookC_ok h h') (rounds_of (l := S11) trivial) e11
abbrev ps12 : List Ty := [.row (.pair (.int .i64) (.pair (.int .i64) (.int .i64))), .row (.pair (.int .i64) (.pair (.int .i64) (.int .i64)))]
abbrev rs12 : List RTy := [.val .bool]
noncomputable abbrev L12 : List (Nat × Con) := [(23, con23)]
noncomputable abbrev U12 : List (Nat × UCon) := []
noncomputable abbrev C12 : Cons := lookC L12 U12
noncomputable abbrev S12 : List (Nat × Nat × LSum) := []
noncomputable def con12 : Con := ⟨ps12, rs12, fun x => f12 x.1 x.2.1⟩
theorem e12 (x : Args ps12) : kTop Go.Proofs.Try.prog C12 (lookS S12) big 10 12 ps12 rs12 x = con12.f x := by kernel_rfl
theorem ok12 [Glob] (h : AllOK Go.Proofs.Try.prog L12) (h' : AllU Go.Proofs.Try.prog U12) : con12.OK Go.Proofs.Try.prog 12 := con_of_tree (lookC_ok h h') (rounds_of (l := S12) trivial) e12
abbrev ps14 : List Ty := [.row (.pair (.int .i64) (.pair (.int .i64) (.pair (.int .i64) (.pair (.int .i64) (.int .i64)))))]
abbrev rs14 : List RTy := [.val .bool]
noncomputable abbrev L14 : List (Nat × Con) := []
noncomputable abbrev U14 : List (Nat × UCon) := []
noncomputable abbrev C14 : Cons := lookC L14 U14
abbrev s14_2 : LShape := ⟨40, [(0, .cont (.pair (.int .i64) (.pair (.int .i64) (.pair (.int .i64) (.pair (.int .i64) (.int .i64)))))), (3, .int .i64)], [], [], []⟩
abbrev o14_2 : LShape := ⟨40, [], [], [], []⟩
abbrev q14_2 : LShape := ⟨40, [(2, .bool)], [], [], []⟩
noncomputable def l14_2 : LSum := ⟨9, 14, s14_2, 0, o14_2, q14_2, u14_2⟩
noncomputable abbrev S14 : List (Nat × Nat × LSum) := [(4294967296, 2, l14_2)]
noncomputable def con14 : Con := ⟨ps14, rs14, fun x => f14 x.1⟩
theorem r14_2 : Round Go.Proofs.Try.prog C14 (lookS S14) big 4294967296 2 l14_2 := ⟨by kernel_rfl, fun z => by kernel_rfl⟩
theorem e14 (x : Args ps14) : kTop Go.Proofs.Try.prog C14 (lookS S14) big 10 14 ps14 rs14 x = con14.f x := by kernel_rfl
theorem ok14 [Glob] (h : AllOK Go.Proofs.Try.prog L14) (h' : AllU Go.Proofs.Try.prog U14) : con14.OK Go.Proofs.Try.prog 14 := con_of_tree (lookC_ok h h') (rounds_of (l := S14) ⟨r14_2, trivial⟩) e14
abbrev ps16 : List Ty := [.row (.int .i64), .row (.int .i64)]
abbrev rs16 : List RTy := [.val .bool]
noncomputable abbrev L16 : List (Nat × Con) := []
noncomputable abbrev U16 : List (Nat × UCon) := []
noncomputable abbrev C16 : Cons := lookC L16 U16
abbrev s16_4 : LShape := ⟨26, [(0, .cont (.int .i64)), (1, .cont (.int .i64)), (5, .int .i64)], [], [], []⟩
abbrev o16_4 : LShape := ⟨26, [], [], [], []⟩
abbrev q16_4 : LShape := ⟨26, [(4, .bool)], [], [], []⟩
noncomputable def l16_4 : LSum := ⟨9, 16, s16_4, 0, o16_4, q16_4, u16_4⟩
noncomputable abbrev S16 : List (Nat × Nat × LSum) := [(4294967296, 4, l16_4)]
noncomputable def con16 : Con := ⟨ps16, rs16, fun x => f16 x.1 x.2.1⟩
theorem r16_4 : Round Go.Proofs.Try.prog C16 (lookS S16) big 4294967296 4 l16_4 := ⟨by kernel_rfl, fun z => by kernel_rfl⟩
theorem e16 (x : Args ps16) : kTop Go.Proofs.Try.prog C16 (lookS S16) big 10 16 ps16 rs16 x = con16.f x := by kernel_rfl
theorem ok16 [Glob] (h : AllOK Go.Proofs.Try.prog L16) (h' : AllU Go.Proofs.Try.prog U16) : con16.OK Go.Proofs.Try.prog 16 := con_of_tree (lookC_ok h h') (rounds_of (l := S16) ⟨r16_4, trivial⟩) e16
abbrev ps17 : List Ty := [.row (.pair (.int .i64) (.pair (.int .i64) (.pair (.int .i64) (.pair (.int .i64) (.int .i64))))), .int .i64]
abbrev rs17 : List RTy := [.own 3 (.int .i64)]
noncomputable abbrev L17 : List (Nat × Con) := []
noncomputable abbrev U17 : List (Nat × UCon) := []
noncomputable abbrev C17 : Cons := lookC L17 U17
abbrev s17_3 : LShape := ⟨25, [(1, .int .i64), (8, .cont (.pair (.int .i64) (.pair (.int .i64) (.pair (.int .i64) (.pair (.int .i64) (.int .i64)))))), (9, .int .i64), (10, .int .i64)], [], [], [⟨5, 8294967488, 3, (.int .i64)⟩]⟩
abbrev o17_3 : LShape := ⟨25, [], [], [], [⟨5, 8294967520, 3, (.int .i64)⟩]⟩
abbrev q17_3 : LShape := ⟨25, [], [], [], []⟩
noncomputable def l17_3 : LSum := ⟨9, 17, s17_3, 0, o17_3, q17_3, u17_3⟩
noncomputable abbrev S17 : List (Nat × Nat × LSum) := [(4294967296, 3, l17_3)]
noncomputable def con17 : Con := ⟨ps17, rs17, fun x => f17 x.1 x.2.1⟩
theorem r17_3 : Round Go.Proofs.Try.prog C17 (lookS S17) big 4294967296 3 l17_3 := ⟨by kernel_rfl, fun z => by kernel_rfl⟩
theorem e17 (x : Args ps17) : kTop Go.Proofs.Try.prog C17 (lookS S17) big 10 17 ps17 rs17 x = con17.f x := by kernel_rfl
theorem ok17 [Glob] (h : AllOK Go.Proofs.Try.prog L17) (h' : AllU Go.Proofs.Try.prog U17) : con17.OK Go.Proofs.Try.prog 17 := con_of_tree (lookC_ok h h') (rounds_of (l := S17) ⟨r17_3, trivial⟩) e17
abbrev ps65 : List Ty := [.row (.int .i64)]
abbrev rs65 : List RTy := [.val (.int .i64)]
noncomputable abbrev L65 : List (Nat × Con) := []
noncomputable abbrev U65 : List (Nat × UCon) := []
noncomputable abbrev C65 : Cons := lookC L65 U65
abbrev s65_3 : LShape := ⟨18, [(3, .int .i64), (6, .cont (.int .i64)), (7, .int .i64), (8, .int .i64)], [], [], []⟩
abbrev o65_3 : LShape := ⟨18, [(3, .int .i64)], [], [], []⟩
abbrev q65_3 : LShape := ⟨18, [(2, .int .i64)], [], [], []⟩
noncomputable def l65_3 : LSum := ⟨9, 65, s65_3, 0, o65_3, q65_3, u65_3⟩
noncomputable abbrev S65 : List (Nat × Nat × LSum) := [(4294967296, 3, l65_3)]
noncomputable def con65 : Con := ⟨ps65, rs65, fun x => f65 x.1⟩
theorem r65_3 : Round Go.Proofs.Try.prog C65 (lookS S65) big 4294967296 3 l65_3 := ⟨by kernel_rfl, fun z => by kernel_rfl⟩
theorem e65 (x : Args ps65) : kTop Go.Proofs.Try.prog C65 (lookS S65) big 10 65 ps65 rs65 x = con65.f x := by kernel_rfl
theorem ok65 [Glob] (h : AllOK Go.Proofs.Try.prog L65) (h' : AllU Go.Proofs.Try.prog U65) : con65.OK Go.Proofs.Try.prog 65 := con_of_tree (lookC_ok h h') (rounds_of (l := S65) ⟨r65_3, trivial⟩) e65
abbrev ps66 : List Ty := [.int .i64, .int .i64]
abbrev rs66 : List RTy := [.val (.int .i64)]
noncomputable abbrev L66 : List (Nat × Con) := []
noncomputable abbrev U66 : List (Nat × UCon) := []
noncomputable abbrev C66 : Cons := lookC L66 U66
noncomputable abbrev S66 : List (Nat × Nat × LSum) := []
noncomputable def con66 : Con := ⟨ps66, rs66, fun x => f66 x.1 x.2.1⟩
theorem e66 (x : Args ps66) : kTop Go.Proofs.Try.prog C66 (lookS S66) big 10 66 ps66 rs66 x = con66.f x := by kernel_rfl
theorem ok66 [Glob] (h : AllOK Go.Proofs.Try.prog L66) (h' : AllU Go.Proofs.Try.prog U66) : con66.OK Go.Proofs.Try.prog 66 := con_of_tree (lookC_ok h h') (rounds_of (l := S66) trivial) e66
abbrev ps46 : List Ty := [.pair (.int .i64) (.int .i64), .pair (.int .i64) (.int .i64)]
abbrev rs46 : List RTy := [.val (.int .i64)]
noncomputable abbrev L46 : List (Nat × Con) := [(65, con65), (66, con66)]
noncomputable abbrev U46 : List (Nat × UCon) := []
noncomputable abbrev C46 : Cons := lookC L46 U46
noncomputable abbrev S46 : List (Nat × Nat × LSum) := []
noncomputable def con46 : Con := ⟨ps46, rs46, fun x => f46 x.1.1 x.1.2 x.2.1.1 x.2.1.2⟩
theorem e46 (x : Args ps46) : kTop Go.Proofs.Try.prog C46 (lookS S46) big 10 46 ps46 rs46 x = con46.f x := by kernel_rfl
theorem ok46 [Glob] (h : AllOK Go.Proofs.Try.prog L46) (h' : AllU Go.Proofs.Try.prog U46) : con46.OK Go.Proofs.Try.prog 46 := con_of_tree (lookC_ok h h') (rounds_of (l := S46) trivial) e46
abbrev ps24 : List Ty := [.pair (.int .i64) (.pair (.int .i64) (.pair (.int .i64) (.pair (.int .i64) (.int .i64))))]
abbrev rs24 : List RTy := [.val (.pair (.pair (.int .i64) (.int .i64)) (.pair (.int .i64) (.pair (.int .i64) (.pair (.int .i64) (.pair (.int .i64) (.int .i64))))))]
noncomputable abbrev L24 : List (Nat × Con) := []
noncomputable abbrev U24 : List (Nat × UCon) := []
noncomputable abbrev C24 : Cons := lookC L24 U24
noncomputable abbrev S24 : List (Nat × Nat × LSum) := []
noncomputable def con24 : Con := ⟨ps24, rs24, fun x => f24 x.1.1 x.1.2.1 x.1.2.2.1 x.1.2.2.2.1 x.1.2.2.2.2⟩
theorem e24 (x : Args ps24) : kTop Go.Proofs.Try.prog C24 (lookS S24) big 10 24 ps24 rs24 x = con24.f x := by kernel_rfl
theorem ok24 [Glob] (h : AllOK Go.Proofs.Try.prog L24) (h' : AllU Go.Proofs.Try.prog U24) : con24.OK Go.Proofs.Try.prog 24 := con_of_tree (lookC_ok h h') (rounds_of (l := S24) trivial) e24
abbrev ps49 : List Ty := [.pair (.int .i64) (.pair (.int .i64) (.int .i64))]
abbrev rs49 : List RTy := [.val (.pair (.pair (.int .i64) (.int .i64)) (.pair (.int .i64) (.pair (.int .i64) (.int .i64))))]
noncomputable abbrev L49 : List (Nat × Con) := []
noncomputable abbrev U49 : List (Nat × UCon) := []
noncomputable abbrev C49 : Cons := lookC L49 U49
noncomputable abbrev S49 : List (Nat × Nat × LSum) := []
noncomputable def con49 : Con := ⟨ps49, rs49, fun x => f49 x.1.1 x.1.2.1 x.1.2.2⟩
theorem e49 (x : Args ps49) : kTop Go.Proofs.Try.prog C49 (lookS S49) big 10 49 ps49 rs49 x = con49.f x := by kernel_rfl
theorem ok49 [Glob] (h : AllOK Go.Proofs.Try.prog L49) (h' : AllU Go.Proofs.Try.prog U49) : con49.OK Go.Proofs.Try.prog 49 := con_of_tree (lookC_ok h h') (rounds_of (l := S49) trivial) e49
abbrev ps30 : List Ty := [.pair (.int .i64) (.pair (.int .i64) (.pair (.int .i64) (.pair (.int .i64) (.int .i64))))]
abbrev rs30 : List RTy := [.val (.pair (.int .i64) (.int .i64))]
noncomputable abbrev L30 : List (Nat × Con) := [(24, con24)]
noncomputable abbrev U30 : List (Nat × UCon) := []
noncomputable abbrev C30 : Cons := lookC L30 U30
noncomputable abbrev S30 : List (Nat × Nat × LSum) := []
noncomputable def con30 : Con := ⟨ps30, rs30, fun x => f30 x.1.1 x.1.2.1 x.1.2.2.1 x.1.2.2.2.1 x.1.2.2.2.2⟩
theorem e30 (x : Args ps30) : kTop Go.Proofs.Try.prog C30 (lookS S30) big 10 30 ps30 rs30 x = con30.f x := by kernel_rfl
theorem ok30 [Glob] (h : AllOK Go.Proofs.Try.prog L30) (h' : AllU Go.Proofs.Try.prog U30) : con30.OK Go.Proofs.Try.prog 30 := con_of_tree (lookC_ok h h') (rounds_of (l := S30) trivial) e30
abbrev ps36 : List Ty := [.pair (.int .i64) (.pair (.int .i64) (.int .i64))]
abbrev rs36 : List RTy := [.val (.pair (.int .i64) (.int .i64))]
noncomputable abbrev L36 : List (Nat × Con) := [(49, con49)]
noncomputable abbrev U36 : List (Nat × UCon) := []
noncomputable abbrev C36 : Cons := lookC L36 U36
noncomputable abbrev S36 : List (Nat × Nat × LSum) := []
noncomputable def con36 : Con := ⟨ps36, rs36, fun x => f36 x.1.1 x.1.2.1 x.1.2.2⟩
theorem e36 (x : Args ps36) : kTop Go.Proofs.Try.prog C36 (lookS S36) big 10 36 ps36 rs36 x = con36.f x := by kernel_rfl
theorem ok36 [Glob] (h : AllOK Go.Proofs.Try.prog L36) (h' : AllU Go.Proofs.Try.prog U36) : con36.OK Go.Proofs.Try.prog 36 := con_of_tree (lookC_ok h h') (rounds_of (l := S36) trivial) e36
abbrev ps32 : List Ty := [.row (.pair (.int .i64) (.pair (.int .i64) (.pair (.int .i64) (.pair (.int .i64) (.int .i64))))), .pair (.int .i64) (.int .i64), .fnc 30]
abbrev rs32 : List RTy := [.val (.int .i64)]
noncomputable abbrev L32 : List (Nat × Con) := [(30, con30)]
noncomputable abbrev U32 : List (Nat × UCon) := []
noncomputable abbrev C32 : Cons := lookC L32 U32
abbrev s32_44_2_0 : LShape := ⟨19, [(0, .cont (.pair (.int .i64) (.pair (.int .i64) (.pair (.int .i64) (.pair (.int .i64) (.int .i64)))))), (1, .fix (.fn (.func 47) [] [(.ptr 4294967312 0), (.ptr 4294967296 0)])), (7, .int .i64), (8, .int .i64)], [(4294967296, .box 48 [.int .i64, .int .i64]), (4294967312, .box 57 [.fix (.fn (.func 30) [] [])])], [], []⟩
abbrev o32_44_2_0 : LShape := ⟨19, [], [(4294967296, .box 48 [.int .i64, .int .i64]), (4294967312, .box 57 [.fix (.fn (.func 30) [] [])])], [], []⟩
abbrev q32_44_2_0 : LShape := ⟨19, [(4, .int .i64)], [(4294967296, .box 48 [.int .i64, .int .i64]), (4294967312, .box 57 [.fix (.fn (.func 30) [] [])])], [], []⟩
noncomputable def l32_44_2_0 : LSum := ⟨8, 44, s32_44_2_0, 0, o32_44_2_0, q32_44_2_0, u32_44_2_0⟩
noncomputable abbrev S32 : List (Nat × Nat × LSum) := [(18446761807629516800, 2, l32_44_2_0)]
noncomputable def con32 : Con := ⟨ps32, rs32, fun x => f32 x.1 x.2.1.1 x.2.1.2⟩
theorem r32_44_2_0 : Round Go.Proofs.Try.prog C32 (lookS S32) big 18446761807629516800 2 l32_44_2_0 := ⟨by kernel_rfl, fun z => by kernel_rfl⟩
theorem e32 (x : Args ps32) : kTop Go.Proofs.Try.prog C32 (lookS S32) big 10 32 ps32 rs32 x = con32.f x := by kernel_rfl
theorem ok32 [Glob] (h : AllOK Go.Proofs.Try.prog L32) (h' : AllU Go.Proofs.Try.prog U32) : con32.OK Go.Proofs.Try.prog 32 := con_of_tree (lookC_ok h h') (rounds_of (l := S32) ⟨r32_44_2_0, trivial⟩) e32
abbrev ps29 : List Ty := [.row (.pair (.int .i64) (.pair (.int .i64) (.pair (.int .i64) (.pair (.int .i64) (.int .i64))))), .pair (.int .i64) (.int .i64), .fnc 30]
abbrev rs29 : List RTy := [.val (.int .i64)]
noncomputable abbrev L29 : List (Nat × Con) := [(30, con30), (46, con46)]
noncomputable abbrev U29 : List (Nat × UCon) := []
noncomputable abbrev C29 : Cons := lookC L29 U29
abbrev s29_44_2_0 : LShape := ⟨19, [(0, .cont (.pair (.int .i64) (.pair (.int .i64) (.pair (.int .i64) (.pair (.int .i64) (.int .i64)))))), (1, .fix (.fn (.func 45) [] [(.ptr 4294967312 0), (.ptr 4294967296 0)])), (7, .int .i64), (8, .int .i64)], [(4294967296, .box 48 [.int .i64, .int .i64]), (4294967312, .box 57 [.fix (.fn (.func 30) [] [])])], [], []⟩
abbrev o29_44_2_0 : LShape := ⟨19, [], [(4294967296, .box 48 [.int .i64, .int .i64]), (4294967312, .box 57 [.fix (.fn (.func 30) [] [])])], [], []⟩
abbrev q29_44_2_0 : LShape := ⟨19, [(4, .int .i64)], [(4294967296, .box 48 [.int .i64, .int .i64]), (4294967312, .box 57 [.fix (.fn (.func 30) [] [])])], [], []⟩
noncomputable def l29_44_2_0 : LSum := ⟨8, 44, s29_44_2_0, 0, o29_44_2_0, q29_44_2_0, u29_44_2_0⟩
noncomputable abbrev S29 : List (Nat × Nat × LSum) := [(18446761807629516800, 2, l29_44_2_0)]
noncomputable def con29 : Con := ⟨ps29, rs29, fun x => f29 x.1 x.2.1.1 x.2.1.2⟩
theorem r29_44_2_0 : Round Go.Proofs.Try.prog C29 (lookS S29) big 18446761807629516800 2 l29_44_2_0 := ⟨by kernel_rfl, fun z => by kernel_rfl⟩
theorem e29 (x : Args ps29) : kTop Go.Proofs.Try.prog C29 (lookS S29) big 10 29 ps29 rs29 x = con29.f x := by kernel_rfl
theorem ok29 [Glob] (h : AllOK Go.Proofs.Try.prog L29) (h' : AllU Go.Proofs.Try.prog U29) : con29.OK Go.Proofs.Try.prog 29 := con_of_tree (lookC_ok h h') (rounds_of (l := S29) ⟨r29_44_2_0, trivial⟩) e29
abbrev ps38 : List Ty := [.row (.pair (.int .i64) (.pair (.int .i64) (.int .i64))), .pair (.int .i64) (.int .i64), .fnc 36]
abbrev rs38 : List RTy := [.val (.int .i64)]
noncomputable abbrev L38 : List (Nat × Con) := [(36, con36), (46, con46)]
noncomputable abbrev U38 : List (Nat × UCon) := []
noncomputable abbrev C38 : Cons := lookC L38 U38
abbrev s38_48_2_0 : LShape := ⟨19, [(0, .cont (.pair (.int .i64) (.pair (.int .i64) (.int .i64)))), (1, .fix (.fn (.func 52) [] [(.ptr 4294967312 0), (.ptr 4294967296 0)])), (7, .int .i64), (8, .int .i64)], [(4294967296, .box 48 [.int .i64, .int .i64]), (4294967312, .box 61 [.fix (.fn (.func 36) [] [])])], [], []⟩
abbrev o38_48_2_0 : LShape := ⟨19, [], [(4294967296, .box 48 [.int .i64, .int .i64]), (4294967312, .box 61 [.fix (.fn (.func 36) [] [])])], [], []⟩
abbrev q38_48_2_0 : LShape := ⟨19, [(4, .int .i64)], [(4294967296, .box 48 [.int .i64, .int .i64]), (4294967312, .box 61 [.fix (.fn (.func 36) [] [])])], [], []⟩
noncomputable def l38_48_2_0 : LSum := ⟨8, 48, s38_48_2_0, 0, o38_48_2_0, q38_48_2_0, u38_48_2_0⟩
noncomputable abbrev S38 : List (Nat × Nat × LSum) := [(18446761807629516800, 2, l38_48_2_0)]
noncomputable def con38 : Con := ⟨ps38, rs38, fun x => f38 x.1 x.2.1.1 x.2.1.2⟩
theorem r38_48_2_0 : Round Go.Proofs.Try.prog C38 (lookS S38) big 18446761807629516800 2 l38_48_2_0 := ⟨by kernel_rfl, fun z => by kernel_rfl⟩
theorem e38 (x : Args ps38) : kTop Go.Proofs.Try.prog C38 (lookS S38) big 10 38 ps38 rs38 x = con38.f x := by kernel_rfl
theorem ok38 [Glob] (h : AllOK Go.Proofs.Try.prog L38) (h' : AllU Go.Proofs.Try.prog U38) : con38.OK Go.Proofs.Try.prog 38 := con_of_tree (lookC_ok h h') (rounds_of (l := S38) ⟨r38_48_2_0, trivial⟩) e38
abbrev ps19 : List Ty := [.row (.pair (.int .i64) (.pair (.int .i64) (.pair (.int .i64) (.pair (.int .i64) (.int .i64))))), .int .i64, .int .i64]
abbrev rs19 : List RTy := [.val (.int .i64)]
noncomputable abbrev L19 : List (Nat × Con) := [(32, con32)]
noncomputable abbrev U19 : List (Nat × UCon) := []
noncomputable abbrev C19 : Cons := lookC L19 U19
noncomputable abbrev S19 : List (Nat × Nat × LSum) := []
noncomputable def con19 : Con := ⟨ps19, rs19, fun x => f19 x.1 x.2.1 x.2.2.1⟩
theorem e19 (x : Args ps19) : kTop Go.Proofs.Try.prog C19 (lookS S19) big 10 19 ps19 rs19 x = con19.f x := by kernel_rfl
theorem ok19 [Glob] (h : AllOK Go.Proofs.Try.prog L19) (h' : AllU Go.Proofs.Try.prog U19) : con19.OK Go.Proofs.Try.prog 19 := con_of_tree (lookC_ok h h') (rounds_of (l := S19) trivial) e19
abbrev ps15 : List Ty := [.row (.pair (.int .i64) (.pair (.int .i64) (.pair (.int .i64) (.pair (.int .i64) (.int .i64))))), .pair (.int .i64) (.pair (.int .i64) (.pair (.int .i64) (.pair (.int .i64) (.int .i64))))]
abbrev rs15 : List RTy := [.own 32 (.pair (.int .i64) (.pair (.int .i64) (.pair (.int .i64) (.pair (.int .i64) (.int .i64))))), .val .bool]
noncomputable abbrev L15 : List (Nat × Con) := [(27, conCLease), (19, con19), (30, con30), (29, con29)]
noncomputable abbrev U15 : List (Nat × UCon) := [(28, uILease)]
noncomputable abbrev C15 : Cons := lookC L15 U15
noncomputable abbrev S15 : List (Nat × Nat × LSum) := []
noncomputable def con15 : Con := ⟨ps15, rs15, fun x => f15 x.1 x.2.1.1 x.2.1.2.1 x.2.1.2.2.1 x.2.1.2.2.2.1 x.2.1.2.2.2.2⟩
theorem e15 (x : Args ps15) : kTop Go.Proofs.Try.prog C15 (lookS S15) big 10 15 ps15 rs15 x = con15.f x := by kernel_rfl
theorem ok15 [Glob] (h : AllOK Go.Proofs.Try.prog L15) (h' : AllU Go.Proofs.Try.prog U15) : con15.OK Go.Proofs.Try.prog 15 := con_of_tree (lookC_ok h h') (rounds_of (l := S15) trivial) e15
abbrev ps18 : List Ty := [.row (.pair (.int .i64) (.pair (.int .i64) (.pair (.int .i64) (.pair (.int .i64) (.int .i64))))), .int .i64, .int .i64]
abbrev rs18 : List RTy := [.own 32 (.pair (.int .i64) (.pair (.int .i64) (.pair (.int .i64) (.pair (.int .i64) (.int .i64))))), .val .bool]
noncomputable abbrev L18 : List (Nat × Con) := [(27, conCLease), (19, con19)]
noncomputable abbrev U18 : List (Nat × UCon) := []
noncomputable abbrev C18 : Cons := lookC L18 U18
noncomputable abbrev S18 : List (Nat × Nat × LSum) := []
noncomputable def con18 : Con := ⟨ps18, rs18, fun x => f18 x.1 x.2.1 x.2.2.1⟩
theorem e18 (x : Args ps18) : kTop Go.Proofs.Try.prog C18 (lookS S18) big 10 18 ps18 rs18 x = con18.f x := by kernel_rfl
theorem ok18 [Glob] (h : AllOK Go.Proofs.Try.prog L18) (h' : AllU Go.Proofs.Try.prog U18) : con18.OK Go.Proofs.Try.prog 18 := con_of_tree (lookC_ok h h') (rounds_of (l := S18) trivial) e18
abbrev ps20 : List Ty := [.row (.pair (.int .i64) (.pair (.int .i64) (.int .i64))), .pair (.int .i64) (.pair (.int .i64) (.int .i64))]
abbrev rs20 : List RTy := [.own 45 (.pair (.int .i64) (.pair (.int .i64) (.int .i64)))]
noncomputable abbrev L20 : List (Nat × Con) := [(34, conCHeld), (36, con36), (38, con38)]
noncomputable abbrev U20 : List (Nat × UCon) := [(37, uIHeld)]
noncomputable abbrev C20 : Cons := lookC L20 U20
abbrev s20_48_2_0 : LShape := ⟨19, [(0, .fix (.sl 4294971408 0)), (1, .fix (.fn (.func 35) [] [(.ptr 4294967296 0)])), (7, .int .i64), (8, .int .i64)], [(4294967296, .box 45 [.int .i64, .int .i64, .int .i64]), (4294971408, .row 45 (.pair (.int .i64) (.pair (.int .i64) (.int .i64))) 0)], [], []⟩
abbrev o20_48_2_0 : LShape := ⟨19, [], [(4294967296, .box 45 [.int .i64, .int .i64, .int .i64]), (4294971408, .row 45 (.pair (.int .i64) (.pair (.int .i64) (.int .i64))) 0)], [], []⟩
abbrev q20_48_2_0 : LShape := ⟨19, [(4, .int .i64)], [(4294967296, .box 45 [.int .i64, .int .i64, .int .i64]), (4294971408, .row 45 (.pair (.int .i64) (.pair (.int .i64) (.int .i64))) 0)], [], []⟩
noncomputable def l20_48_2_0 : LSum := ⟨7, 48, s20_48_2_0, 0, o20_48_2_0, q20_48_2_0, u20_48_2_0⟩
abbrev s20_33_5_0 : LShape := ⟨42, [(0, .fix (.sl 4294971408 0)), (1, .fix (.fn (.func 35) [] [(.ptr 4294967296 0)])), (5, .int .i64), (6, .int .i64)], [(4294967296, .box 45 [.int .i64, .int .i64, .int .i64]), (4294971408, .row 45 (.pair (.int .i64) (.pair (.int .i64) (.int .i64))) 0)], [], []⟩
abbrev o20_33_5_0 : LShape := ⟨42, [(0, .fix (.sl 4294971408 0)), (5, .int .i64)], [(4294967296, .box 45 [.int .i64, .int .i64, .int .i64]), (4294971408, .row 45 (.pair (.int .i64) (.pair (.int .i64) (.int .i64))) 0)], [], []⟩
abbrev q20_33_5_0 : LShape := ⟨42, [], [(4294967296, .box 45 [.int .i64, .int .i64, .int .i64]), (4294971408, .row 45 (.pair (.int .i64) (.pair (.int .i64) (.int .i64))) 0)], [], []⟩
noncomputable def l20_33_5_0 : LSum := ⟨8, 33, s20_33_5_0, 0, o20_33_5_0, q20_33_5_0, u20_33_5_0⟩
noncomputable abbrev S20 : List (Nat × Nat × LSum) := [(79228238976018540853555363840, 2, l20_48_2_0), (18446761876348993536, 5, l20_33_5_0)]
noncomputable def con20 : Con := ⟨ps20, rs20, fun x => f20 x.1 x.2.1.1 x.2.1.2.1 x.2.1.2.2⟩
theorem r20_48_2_0 : Round Go.Proofs.Try.prog C20 (lookS S20) big 79228238976018540853555363840 2 l20_48_2_0 := ⟨by kernel_rfl, fun z => by kernel_rfl⟩
theorem r20_33_5_0 : Round Go.Proofs.Try.prog C20 (lookS S20) big 18446761876348993536 5 l20_33_5_0 := ⟨by kernel_rfl, fun z => by kernel_rfl⟩
theorem e20 (x : Args ps20) : kTop Go.Proofs.Try.prog C20 (lookS S20) big 10 20 ps20 rs20 x = con20.f x := by kernel_rfl
theorem ok20 [Glob] (h : AllOK Go.Proofs.Try.prog L20) (h' : AllU Go.Proofs.Try.prog U20) : con20.OK Go.Proofs.Try.prog 20 := con_of_tree (lookC_ok h h') (rounds_of (l := S20) ⟨r20_48_2_0, r20_33_5_0, trivial⟩) e20
abbrev ps21 : List Ty := [.row (.pair (.int .i64) (.pair (.int .i64) (.int .i64))), .int .i64]
abbrev rs21 : List RTy := [.own 45 (.pair (.int .i64) (.pair (.int .i64) (.int .i64)))]
noncomputable abbrev L21 : List (Nat × Con) := [(34, conCHeld)]
noncomputable abbrev U21 : List (Nat × UCon) := []
noncomputable abbrev C21 : Cons := lookC L21 U21
abbrev s21_48_2_0 : LShape := ⟨19, [(0, .fix (.sl 4294971408 0)), (1, .fix (.fn (.func 39) [] [(.ptr 4294967296 0)])), (7, .int .i64), (8, .int .i64)], [(4294967296, .box 3 [.int .i64]), (4294971408, .row 45 (.pair (.int .i64) (.pair (.int .i64) (.int .i64))) 0)], [], []⟩
abbrev o21_48_2_0 : LShape := ⟨19, [], [(4294967296, .box 3 [.int .i64]), (4294971408, .row 45 (.pair (.int .i64) (.pair (.int .i64) (.int .i64))) 0)], [], []⟩
abbrev q21_48_2_0 : LShape := ⟨19, [(4, .int .i64)], [(4294967296, .box 3 [.int .i64]), (4294971408, .row 45 (.pair (.int .i64) (.pair (.int .i64) (.int .i64))) 0)], [], []⟩
noncomputable def l21_48_2_0 : LSum := ⟨7, 48, s21_48_2_0, 0, o21_48_2_0, q21_48_2_0, u21_48_2_0⟩
abbrev s21_33_5_0 : LShape := ⟨42, [(0, .fix (.sl 4294971408 0)), (1, .fix (.fn (.func 39) [] [(.ptr 4294967296 0)])), (5, .int .i64), (6, .int .i64)], [(4294967296, .box 3 [.int .i64]), (4294971408, .row 45 (.pair (.int .i64) (.pair (.int .i64) (.int .i64))) 0)], [], []⟩
abbrev o21_33_5_0 : LShape := ⟨42, [(0, .fix (.sl 4294971408 0)), (5, .int .i64)], [(4294967296, .box 3 [.int .i64]), (4294971408, .row 45 (.pair (.int .i64) (.pair (.int .i64) (.int .i64))) 0)], [], []⟩
abbrev q21_33_5_0 : LShape := ⟨42, [], [(4294967296, .box 3 [.int .i64]), (4294971408, .row 45 (.pair (.int .i64) (.pair (.int .i64) (.int .i64))) 0)], [], []⟩
noncomputable def l21_33_5_0 : LSum := ⟨8, 33, s21_33_5_0, 0, o21_33_5_0, q21_33_5_0, u21_33_5_0⟩
noncomputable abbrev S21 : List (Nat × Nat × LSum) := [(79228238976018540853555363840, 2, l21_48_2_0), (18446761876348993536, 5, l21_33_5_0)]
noncomputable def con21 : Con := ⟨ps21, rs21, fun x => f21 x.1 x.2.1⟩
theorem r21_48_2_0 : Round Go.Proofs.Try.prog C21 (lookS S21) big 79228238976018540853555363840 2 l21_48_2_0 := ⟨by kernel_rfl, fun z => by kernel_rfl⟩
theorem r21_33_5_0 : Round Go.Proofs.Try.prog C21 (lookS S21) big 18446761876348993536 5 l21_33_5_0 := ⟨by kernel_rfl, fun z => by kernel_rfl⟩
theorem e21 (x : Args ps21) : kTop Go.Proofs.Try.prog C21 (lookS S21) big 10 21 ps21 rs21 x = con21.f x := by kernel_rfl
theorem ok21 [Glob] (h : AllOK Go.Proofs.Try.prog L21) (h' : AllU Go.Proofs.Try.prog U21) : con21.OK Go.Proofs.Try.prog 21 := con_of_tree (lookC_ok h h') (rounds_of (l := S21) ⟨r21_48_2_0, r21_33_5_0, trivial⟩) e21
abbrev ps13 : List Ty := [.row (.pair (.int .i64) (.pair (.int .i64) (.pair (.int .i64) (.pair (.int .i64) (.int .i64)))))]
abbrev rs13 : List RTy := [.own 3 (.int .i64)]
noncomputable abbrev L13 : List (Nat × Con) := [(24, con24)]
noncomputable abbrev U13 : List (Nat × UCon) := [(25, uSort), (26, uCompact)]
noncomputable abbrev C13 : Cons := lookC L13 U13
abbrev s13_3 : LShape := ⟨24, [(6, .cont (.pair (.int .i64) (.pair (.int .i64) (.pair (.int .i64) (.pair (.int .i64) (.int .i64)))))), (7, .int .i64), (8, .int .i64)], [], [], [⟨3, 8294967488, 3, (.int .i64)⟩]⟩
abbrev o13_3 : LShape := ⟨24, [], [], [], [⟨3, 8294967520, 3, (.int .i64)⟩]⟩
abbrev q13_3 : LShape := ⟨24, [], [], [], []⟩
noncomputable def l13_3 : LSum := ⟨9, 13, s13_3, 0, o13_3, q13_3, u13_3⟩
noncomputable abbrev S13 : List (Nat × Nat × LSum) := [(4294967296, 3, l13_3)]
noncomputable def con13 : Con := ⟨ps13, rs13, fun x => f13 x.1⟩
theorem r13_3 : Round Go.Proofs.Try.prog C13 (lookS S13) big 4294967296 3 l13_3 := ⟨by kernel_rfl, fun z => by kernel_rfl⟩
theorem e13 (x : Args ps13) : kTop Go.Proofs.Try.prog C13 (lookS S13) big 10 13 ps13 rs13 x = con13.f x := by kernel_rfl
theorem ok13 [Glob] (h : AllOK Go.Proofs.Try.prog L13) (h' : AllU Go.Proofs.Try.prog U13) : con13.OK Go.Proofs.Try.prog 13 := con_of_tree (lookC_ok h h') (rounds_of (l := S13) ⟨r13_3, trivial⟩) e13
abbrev ps7 : List Ty := []
abbrev rs7 : List RTy := [.val .bool]
noncomputable abbrev L7 : List (Nat × Con) := [(15, con15), (20, con20), (19, con19), (17, con17), (21, con21), (13, con13), (11, con11), (12, con12)]
noncomputable abbrev U7 : List (Nat × UCon) := []
noncomputable abbrev C7 : Cons := lookC L7 U7
noncomputable abbrev S7 : List (Nat × Nat × LSum) := []
noncomputable def con7 : Con := ⟨ps7, rs7, fun x => f7 ⟩
theorem e7 (x : Args ps7) : kTop Go.Proofs.Try.prog C7 (lookS S7) big 10 7 ps7 rs7 x = con7.f x := by kernel_rfl
theorem ok7 [Glob] (h : AllOK Go.Proofs.Try.prog L7) (h' : AllU Go.Proofs.Try.prog U7) : con7.OK Go.Proofs.Try.prog 7 := con_of_tree (lookC_ok h h') (rounds_of (l := S7) trivial) e7
abbrev ps3 : List Ty := [.row (.pair (.int .i64) (.pair (.int .i64) (.pair (.int .i64) (.pair (.int .i64) (.int .i64))))), .row (.pair (.int .i64) (.pair (.int .i64) (.pair (.int .i64) (.pair (.int .i64) (.int .i64))))), .row (.pair (.int .i64) (.pair (.int .i64) (.int .i64))), .row (.pair (.int .i64) (.pair (.int .i64) (.int .i64)))]
abbrev rs3 : List RTy := [.val .bool]
noncomputable abbrev L3 : List (Nat × Con) := [(7, con7), (8, con8), (9, con9), (10, con10), (11, con11), (12, con12)]
noncomputable abbrev U3 : List (Nat × UCon) := []
noncomputable abbrev C3 : Cons := lookC L3 U3
noncomputable abbrev S3 : List (Nat × Nat × LSum) := []
noncomputable def con3 : Con := ⟨ps3, rs3, fun x => f3 x.1 x.2.1 x.2.2.1 x.2.2.2.1⟩
theorem e3 (x : Args ps3) : kTop Go.Proofs.Try.prog C3 (lookS S3) big 10 3 ps3 rs3 x = con3.f x := by kernel_rfl
theorem ok3 [Glob] (h : AllOK Go.Proofs.Try.prog L3) (h' : AllU Go.Proofs.Try.prog U3) : con3.OK Go.Proofs.Try.prog 3 := con_of_tree (lookC_ok h h') (rounds_of (l := S3) trivial) e3
abbrev ps4 : List Ty := [.row (.pair (.int .i64) (.pair (.int .i64) (.pair (.int .i64) (.pair (.int .i64) (.int .i64))))), .int .i64]
abbrev rs4 : List RTy := [.val .bool]
noncomputable abbrev L4 : List (Nat × Con) := [(7, con7), (13, con13)]
noncomputable abbrev U4 : List (Nat × UCon) := []
noncomputable abbrev C4 : Cons := lookC L4 U4
abbrev s4_6 : LShape := ⟨94, [(0, .cont (.pair (.int .i64) (.pair (.int .i64) (.pair (.int .i64) (.pair (.int .i64) (.int .i64)))))), (1, .int .i64), (7, .int .i64)], [], [], [⟨6, 8294967680, 3, (.int .i64)⟩]⟩
abbrev s4_10 : LShape := ⟨94, [(0, .cont (.pair (.int .i64) (.pair (.int .i64) (.pair (.int .i64) (.pair (.int .i64) (.int .i64)))))), (1, .int .i64), (7, .int .i64), (8, .bool), (9, .int .i64)], [], [], [⟨6, 8294967936, 3, (.int .i64)⟩]⟩
abbrev o4_10 : LShape := ⟨94, [(0, .cont (.pair (.int .i64) (.pair (.int .i64) (.pair (.int .i64) (.pair (.int .i64) (.int .i64)))))), (1, .int .i64), (7, .int .i64), (8, .bool)], [], [], [⟨6, 8294967968, 3, (.int .i64)⟩]⟩
abbrev q4_10 : LShape := ⟨94, [], [], [], []⟩
noncomputable def l4_10 : LSum := ⟨9, 4, s4_10, 2, o4_10, q4_10, u4_10⟩
abbrev o4_6 : LShape := ⟨94, [(0, .cont (.pair (.int .i64) (.pair (.int .i64) (.pair (.int .i64) (.pair (.int .i64) (.int .i64)))))), (1, .int .i64)], [], [], [⟨6, 8294967712, 3, (.int .i64)⟩]⟩
abbrev q4_6 : LShape := ⟨94, [(4, .bool)], [], [], []⟩
noncomputable def l4_6 : LSum := ⟨9, 4, s4_6, 0, o4_6, q4_6, u4_6⟩
abbrev s4_19 : LShape := ⟨94, [(0, .cont (.pair (.int .i64) (.pair (.int .i64) (.pair (.int .i64) (.pair (.int .i64) (.int .i64)))))), (1, .int .i64), (10, .bool), (11, .int .i64)], [], [], [⟨6, 8294968512, 3, (.int .i64)⟩]⟩
abbrev o4_19 : LShape := ⟨94, [(10, .bool)], [], [], []⟩
abbrev q4_19 : LShape := ⟨94, [], [], [], []⟩
noncomputable def l4_19 : LSum := ⟨9, 4, s4_19, 4, o4_19, q4_19, u4_19⟩
noncomputable abbrev S4 : List (Nat × Nat × LSum) := [(4294967296, 10, l4_10), (4294967296, 6, l4_6), (4294967296, 19, l4_19)]
noncomputable def con4 : Con := ⟨ps4, rs4, fun x => f4 x.1 x.2.1⟩
theorem r4_10 : Round Go.Proofs.Try.prog C4 (lookS S4) big 4294967296 10 l4_10 := ⟨by kernel_rfl, fun z => by kernel_rfl⟩
theorem r4_6 : Round Go.Proofs.Try.prog C4 (lookS S4) big 4294967296 6 l4_6 := ⟨by kernel_rfl, fun z => by kernel_rfl⟩
theorem r4_19 : Round Go.Proofs.Try.prog C4 (lookS S4) big 4294967296 19 l4_19 := ⟨by kernel_rfl, fun z => by kernel_rfl⟩
theorem e4 (x : Args ps4) : kTop Go.Proofs.Try.prog C4 (lookS S4) big 10 4 ps4 rs4 x = con4.f x := by kernel_rfl
theorem ok4 [Glob] (h : AllOK Go.Proofs.Try.prog L4) (h' : AllU Go.Proofs.Try.prog U4) : con4.OK Go.Proofs.Try.prog 4 := con_of_tree (lookC_ok h h') (rounds_of (l := S4) ⟨r4_10, r4_6, r4_19, trivial⟩) e4
abbrev ps5 : List Ty := [.row (.pair (.int .i64) (.pair (.int .i64) (.pair (.int .i64) (.pair (.int .i64) (.int .i64))))), .pair (.int .i64) (.pair (.int .i64) (.pair (.int .i64) (.pair (.int .i64) (.int .i64)))), .pair (.int .i64) (.pair (.int .i64) (.pair (.int .i64) (.pair (.int .i64) (.int .i64))))]
abbrev rs5 : List RTy := [.val .bool]
noncomputable abbrev L5 : List (Nat × Con) := [(7, con7), (14, con14), (15, con15), (16, con16), (17, con17), (11, con11)]
noncomputable abbrev U5 : List (Nat × UCon) := []
noncomputable abbrev C5 : Cons := lookC L5 U5
noncomputable abbrev S5 : List (Nat × Nat × LSum) := []
noncomputable def con5 : Con := ⟨ps5, rs5, fun x => f5 x.1 x.2.1.1 x.2.1.2.1 x.2.1.2.2.1 x.2.1.2.2.2.1 x.2.1.2.2.2.2 x.2.2.1.1 x.2.2.1.2.1 x.2.2.1.2.2.1 x.2.2.1.2.2.2.1 x.2.2.1.2.2.2.2⟩
theorem e5 (x : Args ps5) : kTop Go.Proofs.Try.prog C5 (lookS S5) big 10 5 ps5 rs5 x = con5.f x := by kernel_rfl
theorem ok5 [Glob] (h : AllOK Go.Proofs.Try.prog L5) (h' : AllU Go.Proofs.Try.prog U5) : con5.OK Go.Proofs.Try.prog 5 := con_of_tree (lookC_ok h h') (rounds_of (l := S5) trivial) e5
abbrev ps6 : List Ty := [.row (.pair (.int .i64) (.pair (.int .i64) (.pair (.int .i64) (.pair (.int .i64) (.int .i64))))), .pair (.int .i64) (.pair (.int .i64) (.pair (.int .i64) (.pair (.int .i64) (.int .i64))))]
abbrev rs6 : List RTy := [.val .bool]
noncomputable abbrev L6 : List (Nat × Con) := [(7, con7), (14, con14), (15, con15), (18, con18), (19, con19), (11, con11)]
noncomputable abbrev U6 : List (Nat × UCon) := []
noncomputable abbrev C6 : Cons := lookC L6 U6
noncomputable abbrev S6 : List (Nat × Nat × LSum) := []
noncomputable def con6 : Con := ⟨ps6, rs6, fun x => f6 x.1 x.2.1.1 x.2.1.2.1 x.2.1.2.2.1 x.2.1.2.2.2.1 x.2.1.2.2.2.2⟩
theorem e6 (x : Args ps6) : kTop Go.Proofs.Try.prog C6 (lookS S6) big 10 6 ps6 rs6 x = con6.f x := by kernel_rfl
theorem ok6 [Glob] (h : AllOK Go.Proofs.Try.prog L6) (h' : AllU Go.Proofs.Try.prog U6) : con6.OK Go.Proofs.Try.prog 6 := con_of_tree (lookC_ok h h') (rounds_of (l := S6) trivial) e6

theorem k8 : con8.OK Try.prog 8 := ok8 trivial trivial
theorem k9 : con9.OK Try.prog 9 := ok9 trivial trivial
theorem k10 : con10.OK Try.prog 10 := ok10 trivial trivial
theorem k22 : con22.OK Try.prog 22 := ok22 trivial trivial
theorem k23 : con23.OK Try.prog 23 := ok23 trivial trivial
theorem k11 : con11.OK Try.prog 11 := ok11 ⟨k22, trivial⟩ trivial
theorem k12 : con12.OK Try.prog 12 := ok12 ⟨k23, trivial⟩ trivial
theorem k14 : con14.OK Try.prog 14 := ok14 trivial trivial
theorem k16 : con16.OK Try.prog 16 := ok16 trivial trivial
theorem k17 : con17.OK Try.prog 17 := ok17 trivial trivial
theorem k65 : con65.OK Try.prog 65 := ok65 trivial trivial
theorem k66 : con66.OK Try.prog 66 := ok66 trivial trivial
theorem k46 : con46.OK Try.prog 46 := ok46 ⟨k65, k66, trivial⟩ trivial
theorem k24 : con24.OK Try.prog 24 := ok24 trivial trivial
theorem k49 : con49.OK Try.prog 49 := ok49 trivial trivial
theorem k30 : con30.OK Try.prog 30 := ok30 ⟨k24, trivial⟩ trivial
theorem k36 : con36.OK Try.prog 36 := ok36 ⟨k49, trivial⟩ trivial
theorem k32 : con32.OK Try.prog 32 := ok32 ⟨k30, trivial⟩ trivial
theorem k29 : con29.OK Try.prog 29 := ok29 ⟨k30, k46, trivial⟩ trivial
theorem k38 : con38.OK Try.prog 38 := ok38 ⟨k36, k46, trivial⟩ trivial
theorem k19 : con19.OK Try.prog 19 := ok19 ⟨k32, trivial⟩ trivial
theorem k15 : con15.OK Try.prog 15 := ok15 ⟨okCLease, k19, k30, k29, trivial⟩ ⟨okILease, trivial⟩
theorem k18 : con18.OK Try.prog 18 := ok18 ⟨okCLease, k19, trivial⟩ trivial
theorem k20 : con20.OK Try.prog 20 := ok20 ⟨okCHeld, k36, k38, trivial⟩ ⟨okIHeld, trivial⟩
theorem k21 : con21.OK Try.prog 21 := ok21 ⟨okCHeld, trivial⟩ trivial
theorem k13 : con13.OK Try.prog 13 := ok13 ⟨k24, trivial⟩ ⟨okSort, okCompact, trivial⟩
theorem k7 : con7.OK Try.prog 7 := ok7 ⟨k15, k20, k19, k17, k21, k13, k11, k12, trivial⟩ trivial
theorem k3 : con3.OK Try.prog 3 := ok3 ⟨k7, k8, k9, k10, k11, k12, trivial⟩ trivial
theorem k4 : con4.OK Try.prog 4 := ok4 ⟨k7, k13, trivial⟩ trivial
theorem k5 : con5.OK Try.prog 5 := ok5 ⟨k7, k14, k15, k16, k17, k11, trivial⟩ trivial
theorem k6 : con6.OK Try.prog 6 := ok6 ⟨k7, k14, k15, k18, k19, k11, trivial⟩ trivial
end Go.Proofs.Zz
