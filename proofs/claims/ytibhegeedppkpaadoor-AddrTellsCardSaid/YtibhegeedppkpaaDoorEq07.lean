/- What the functions come to: the equations, by the kernel, and their contracts. -/
import Derived.Test.YtibhegeedppkpaaDoorPure07
import Derived.Test.YtibhegeedppkpaaDoorLib07
namespace Go.Proofs.Zz
open Go Go.Sy
set_option linter.unusedVariables false
set_option maxHeartbeats 0
set_option maxRecDepth 100000
abbrev ps15 : List Ty := [.pair (.int .i64) (.int .i64)]
abbrev rs15 : List RTy := [.val .bool]
noncomputable abbrev L15 : List (Nat × Con) := []
noncomputable abbrev C15 : Cons := lookC L15
noncomputable abbrev S15 : List (Nat × Nat × LSum) := []
noncomputable def con15 : Con := ⟨ps15, rs15, fun x => f15 x.1.1 x.1.2⟩
theorem e15 (x : Args ps15) : kTop Go.Proofs.Tryd.prog C15 (lookS S15) big 10 15 ps15 rs15 x = con15.f x := by kernel_rfl
theorem ok15 [Glob] (h : AllOK Go.Proofs.Tryd.prog L15) : con15.OK Go.Proofs.Tryd.prog 15 := con_of_tree (lookC_ok h) (rounds_of (l := S15) trivial) e15
abbrev ps18 : List Ty := [.pair (.int .i64) (.int .i64)]
abbrev rs18 : List RTy := [.val (.int .i64)]
noncomputable abbrev L18 : List (Nat × Con) := [(15, con15)]
noncomputable abbrev C18 : Cons := lookC L18
noncomputable abbrev S18 : List (Nat × Nat × LSum) := []
noncomputable def con18 : Con := ⟨ps18, rs18, fun x => f18 x.1.1 x.1.2⟩
theorem e18 (x : Args ps18) : kTop Go.Proofs.Tryd.prog C18 (lookS S18) big 10 18 ps18 rs18 x = con18.f x := by kernel_rfl
theorem ok18 [Glob] (h : AllOK Go.Proofs.Tryd.prog L18) : con18.OK Go.Proofs.Tryd.prog 18 := con_of_tree (lookC_ok h) (rounds_of (l := S18) trivial) e18
abbrev ps19 : List Ty := [.pair (.int .i64) (.int .i64), .int .i64]
abbrev rs19 : List RTy := [.val (.int .i64), .val .bool]
noncomputable abbrev L19 : List (Nat × Con) := [(18, con18)]
noncomputable abbrev C19 : Cons := lookC L19
noncomputable abbrev S19 : List (Nat × Nat × LSum) := []
noncomputable def con19 : Con := ⟨ps19, rs19, fun x => f19 x.1.1 x.1.2 x.2.1⟩
theorem e19 (x : Args ps19) : kTop Go.Proofs.Tryd.prog C19 (lookS S19) big 10 19 ps19 rs19 x = con19.f x := by kernel_rfl
theorem ok19 [Glob] (h : AllOK Go.Proofs.Tryd.prog L19) : con19.OK Go.Proofs.Tryd.prog 19 := con_of_tree (lookC_ok h) (rounds_of (l := S19) trivial) e19
abbrev ps16 : List Ty := [.pair (.int .i64) (.int .i64), .int .i64]
abbrev rs16 : List RTy := [.val (.int .i64)]
noncomputable abbrev L16 : List (Nat × Con) := [(15, con15)]
noncomputable abbrev C16 : Cons := lookC L16
noncomputable abbrev S16 : List (Nat × Nat × LSum) := []
noncomputable def con16 : Con := ⟨ps16, rs16, fun x => f16 x.1.1 x.1.2 x.2.1⟩
theorem e16 (x : Args ps16) : kTop Go.Proofs.Tryd.prog C16 (lookS S16) big 10 16 ps16 rs16 x = con16.f x := by kernel_rfl
theorem ok16 [Glob] (h : AllOK Go.Proofs.Tryd.prog L16) : con16.OK Go.Proofs.Tryd.prog 16 := con_of_tree (lookC_ok h) (rounds_of (l := S16) trivial) e16
abbrev ps17 : List Ty := [.pair (.int .i64) (.int .i64), .pair (.int .i64) (.int .i64)]
abbrev rs17 : List RTy := [.val .bool]
noncomputable abbrev L17 : List (Nat × Con) := [(15, con15), (16, con16)]
noncomputable abbrev C17 : Cons := lookC L17
noncomputable abbrev S17 : List (Nat × Nat × LSum) := []
noncomputable def con17 : Con := ⟨ps17, rs17, fun x => f17 x.1.1 x.1.2 x.2.1.1 x.2.1.2⟩
theorem e17 (x : Args ps17) : kTop Go.Proofs.Tryd.prog C17 (lookS S17) big 10 17 ps17 rs17 x = con17.f x := by kernel_rfl
theorem ok17 [Glob] (h : AllOK Go.Proofs.Tryd.prog L17) : con17.OK Go.Proofs.Tryd.prog 17 := con_of_tree (lookC_ok h) (rounds_of (l := S17) trivial) e17
abbrev ps35 : List Ty := [.int .i64]
abbrev rs35 : List RTy := [.val (.int .i64)]
noncomputable abbrev L35 : List (Nat × Con) := []
noncomputable abbrev C35 : Cons := lookC L35
abbrev s35_3 : LShape := ⟨13, [(0, .int .i64), (3, .int .i64), (4, .int .i64)], [], [], []⟩
abbrev o35_3 : LShape := ⟨13, [(3, .int .i64)], [], [], []⟩
abbrev q35_3 : LShape := ⟨13, [], [], [], []⟩
noncomputable def l35_3 : LSum := ⟨9, 35, s35_3, 0, o35_3, q35_3, u35_3⟩
noncomputable abbrev S35 : List (Nat × Nat × LSum) := [(4294967296, 3, l35_3)]
noncomputable def con35 : Con := ⟨ps35, rs35, fun x => f35 x.1⟩
theorem r35_3 : Round Go.Proofs.Tryd.prog C35 (lookS S35) big 4294967296 3 l35_3 := ⟨by kernel_rfl, fun z => by kernel_rfl⟩
theorem e35 (x : Args ps35) : kTop Go.Proofs.Tryd.prog C35 (lookS S35) big 10 35 ps35 rs35 x = con35.f x := by kernel_rfl
theorem ok35 [Glob] (h : AllOK Go.Proofs.Tryd.prog L35) : con35.OK Go.Proofs.Tryd.prog 35 := con_of_tree (lookC_ok h) (rounds_of (l := S35) ⟨r35_3, trivial⟩) e35
abbrev ps23 : List Ty := [.pair (.int .i64) (.int .i64)]
abbrev rs23 : List RTy := [.val .bool]
noncomputable abbrev L23 : List (Nat × Con) := [(35, con35)]
noncomputable abbrev C23 : Cons := lookC L23
noncomputable abbrev S23 : List (Nat × Nat × LSum) := []
noncomputable def con23 : Con := ⟨ps23, rs23, fun x => f23 x.1.1 x.1.2⟩
theorem e23 (x : Args ps23) : kTop Go.Proofs.Tryd.prog C23 (lookS S23) big 10 23 ps23 rs23 x = con23.f x := by kernel_rfl
theorem ok23 [Glob] (h : AllOK Go.Proofs.Tryd.prog L23) : con23.OK Go.Proofs.Tryd.prog 23 := con_of_tree (lookC_ok h) (rounds_of (l := S23) trivial) e23
abbrev ps25 : List Ty := [.pair (.int .i64) (.int .i64)]
abbrev rs25 : List RTy := [.val (.int .i64)]
noncomputable abbrev L25 : List (Nat × Con) := [(35, con35), (23, con23)]
noncomputable abbrev C25 : Cons := lookC L25
noncomputable abbrev S25 : List (Nat × Nat × LSum) := []
noncomputable def con25 : Con := ⟨ps25, rs25, fun x => f25 x.1.1 x.1.2⟩
theorem e25 (x : Args ps25) : kTop Go.Proofs.Tryd.prog C25 (lookS S25) big 10 25 ps25 rs25 x = con25.f x := by kernel_rfl
theorem ok25 [Glob] (h : AllOK Go.Proofs.Tryd.prog L25) : con25.OK Go.Proofs.Tryd.prog 25 := con_of_tree (lookC_ok h) (rounds_of (l := S25) trivial) e25
abbrev ps20 : List Ty := [.pair (.int .i64) (.int .i64), .int .i64]
abbrev rs20 : List RTy := [.val (.int .i64), .val .bool]
noncomputable abbrev L20 : List (Nat × Con) := [(25, con25)]
noncomputable abbrev C20 : Cons := lookC L20
noncomputable abbrev S20 : List (Nat × Nat × LSum) := []
noncomputable def con20 : Con := ⟨ps20, rs20, fun x => f20 x.1.1 x.1.2 x.2.1⟩
theorem e20 (x : Args ps20) : kTop Go.Proofs.Tryd.prog C20 (lookS S20) big 10 20 ps20 rs20 x = con20.f x := by kernel_rfl
theorem ok20 [Glob] (h : AllOK Go.Proofs.Tryd.prog L20) : con20.OK Go.Proofs.Tryd.prog 20 := con_of_tree (lookC_ok h) (rounds_of (l := S20) trivial) e20
abbrev ps26 : List Ty := [.pair (.int .i64) (.int .i64), .int .i64]
abbrev rs26 : List RTy := [.val (.int .i64)]
noncomputable abbrev L26 : List (Nat × Con) := [(23, con23), (25, con25)]
noncomputable abbrev C26 : Cons := lookC L26
noncomputable abbrev S26 : List (Nat × Nat × LSum) := []
noncomputable def con26 : Con := ⟨ps26, rs26, fun x => f26 x.1.1 x.1.2 x.2.1⟩
theorem e26 (x : Args ps26) : kTop Go.Proofs.Tryd.prog C26 (lookS S26) big 10 26 ps26 rs26 x = con26.f x := by kernel_rfl
theorem ok26 [Glob] (h : AllOK Go.Proofs.Tryd.prog L26) : con26.OK Go.Proofs.Tryd.prog 26 := con_of_tree (lookC_ok h) (rounds_of (l := S26) trivial) e26
abbrev ps24 : List Ty := [.pair (.int .i64) (.int .i64), .pair (.int .i64) (.int .i64)]
abbrev rs24 : List RTy := [.val .bool]
noncomputable abbrev L24 : List (Nat × Con) := [(23, con23), (26, con26)]
noncomputable abbrev C24 : Cons := lookC L24
noncomputable abbrev S24 : List (Nat × Nat × LSum) := []
noncomputable def con24 : Con := ⟨ps24, rs24, fun x => f24 x.1.1 x.1.2 x.2.1.1 x.2.1.2⟩
theorem e24 (x : Args ps24) : kTop Go.Proofs.Tryd.prog C24 (lookS S24) big 10 24 ps24 rs24 x = con24.f x := by kernel_rfl
theorem ok24 [Glob] (h : AllOK Go.Proofs.Tryd.prog L24) : con24.OK Go.Proofs.Tryd.prog 24 := con_of_tree (lookC_ok h) (rounds_of (l := S24) trivial) e24
abbrev ps36 : List Ty := [.int .i64]
abbrev rs36 : List RTy := [.val .str]
noncomputable abbrev L36 : List (Nat × Con) := []
noncomputable abbrev C36 : Cons := lookC L36
abbrev s36_2 : LShape := ⟨23, [(0, .int .i64), (3, .str)], [], [], []⟩
abbrev o36_2 : LShape := ⟨23, [(0, .int .i64), (3, .str)], [], [], []⟩
abbrev q36_2 : LShape := ⟨23, [], [], [], []⟩
noncomputable def l36_2 : LSum := ⟨9, 36, s36_2, 0, o36_2, q36_2, u36_2⟩
noncomputable abbrev S36 : List (Nat × Nat × LSum) := [(4294967296, 2, l36_2)]
noncomputable def con36 : Con := ⟨ps36, rs36, fun x => f36 x.1⟩
theorem r36_2 : Round Go.Proofs.Tryd.prog C36 (lookS S36) big 4294967296 2 l36_2 := ⟨by kernel_rfl, fun z => by kernel_rfl⟩
theorem e36 (x : Args ps36) : kTop Go.Proofs.Tryd.prog C36 (lookS S36) big 10 36 ps36 rs36 x = con36.f x := by kernel_rfl
theorem ok36 [Glob] (h : AllOK Go.Proofs.Tryd.prog L36) : con36.OK Go.Proofs.Tryd.prog 36 := con_of_tree (lookC_ok h) (rounds_of (l := S36) ⟨r36_2, trivial⟩) e36
abbrev ps27 : List Ty := [.int .i64]
abbrev rs27 : List RTy := [.val .str]
noncomputable abbrev L27 : List (Nat × Con) := [(36, con36)]
noncomputable abbrev C27 : Cons := lookC L27
noncomputable abbrev S27 : List (Nat × Nat × LSum) := []
noncomputable def con27 : Con := ⟨ps27, rs27, fun x => f27 x.1⟩
theorem e27 (x : Args ps27) : kTop Go.Proofs.Tryd.prog C27 (lookS S27) big 10 27 ps27 rs27 x = con27.f x := by kernel_rfl
theorem ok27 [Glob] (h : AllOK Go.Proofs.Tryd.prog L27) : con27.OK Go.Proofs.Tryd.prog 27 := con_of_tree (lookC_ok h) (rounds_of (l := S27) trivial) e27
abbrev ps28 : List Ty := [.pair (.int .i64) (.int .i64)]
abbrev rs28 : List RTy := [.val .str]
noncomputable abbrev L28 : List (Nat × Con) := [(36, con36), (27, con27), (23, con23)]
noncomputable abbrev C28 : Cons := lookC L28
noncomputable abbrev S28 : List (Nat × Nat × LSum) := []
noncomputable def con28 : Con := ⟨ps28, rs28, fun x => f28 x.1.1 x.1.2⟩
theorem e28 (x : Args ps28) : kTop Go.Proofs.Tryd.prog C28 (lookS S28) big 10 28 ps28 rs28 x = con28.f x := by kernel_rfl
theorem ok28 [Glob] (h : AllOK Go.Proofs.Tryd.prog L28) : con28.OK Go.Proofs.Tryd.prog 28 := con_of_tree (lookC_ok h) (rounds_of (l := S28) trivial) e28
abbrev ps34 : List Ty := [.str]
abbrev rs34 : List RTy := [.own 3 (.int .i64)]
noncomputable abbrev L34 : List (Nat × Con) := []
noncomputable abbrev C34 : Cons := lookC L34
abbrev s34_3 : LShape := ⟨49, [(0, .str), (4, .int .i64)], [], [], [⟨3, 8294967488, 3, (.int .i64)⟩]⟩
abbrev o34_3 : LShape := ⟨49, [], [], [], [⟨3, 8294967520, 3, (.int .i64)⟩]⟩
abbrev q34_3 : LShape := ⟨49, [], [], [], []⟩
noncomputable def l34_3 : LSum := ⟨9, 34, s34_3, 0, o34_3, q34_3, u34_3⟩
noncomputable abbrev S34 : List (Nat × Nat × LSum) := [(4294967296, 3, l34_3)]
noncomputable def con34 : Con := ⟨ps34, rs34, fun x => f34 x.1⟩
theorem r34_3 : Round Go.Proofs.Tryd.prog C34 (lookS S34) big 4294967296 3 l34_3 := ⟨by kernel_rfl, fun z => by kernel_rfl⟩
theorem e34 (x : Args ps34) : kTop Go.Proofs.Tryd.prog C34 (lookS S34) big 10 34 ps34 rs34 x = con34.f x := by kernel_rfl
theorem ok34 [Glob] (h : AllOK Go.Proofs.Tryd.prog L34) : con34.OK Go.Proofs.Tryd.prog 34 := con_of_tree (lookC_ok h) (rounds_of (l := S34) ⟨r34_3, trivial⟩) e34
abbrev ps21 : List Ty := [.str]
abbrev rs21 : List RTy := [.val (.int .i64), .val .bool]
noncomputable abbrev L21 : List (Nat × Con) := [(34, con34), (27, con27)]
noncomputable abbrev C21 : Cons := lookC L21
noncomputable abbrev S21 : List (Nat × Nat × LSum) := []
noncomputable def con21 : Con := ⟨ps21, rs21, fun x => f21 x.1⟩
theorem e21 (x : Args ps21) : kTop Go.Proofs.Tryd.prog C21 (lookS S21) big 10 21 ps21 rs21 x = con21.f x := by kernel_rfl
theorem ok21 [Glob] (h : AllOK Go.Proofs.Tryd.prog L21) : con21.OK Go.Proofs.Tryd.prog 21 := con_of_tree (lookC_ok h) (rounds_of (l := S21) trivial) e21
abbrev ps22 : List Ty := [.str]
abbrev rs22 : List RTy := [.val (.pair (.int .i64) (.int .i64)), .val .bool]
noncomputable abbrev L22 : List (Nat × Con) := [(34, con34), (28, con28)]
noncomputable abbrev C22 : Cons := lookC L22
noncomputable abbrev S22 : List (Nat × Nat × LSum) := []
noncomputable def con22 : Con := ⟨ps22, rs22, fun x => f22 x.1⟩
theorem e22 (x : Args ps22) : kTop Go.Proofs.Tryd.prog C22 (lookS S22) big 10 22 ps22 rs22 x = con22.f x := by kernel_rfl
theorem ok22 [Glob] (h : AllOK Go.Proofs.Tryd.prog L22) : con22.OK Go.Proofs.Tryd.prog 22 := con_of_tree (lookC_ok h) (rounds_of (l := S22) trivial) e22
abbrev ps38 : List Ty := [.int .i32]
abbrev rs38 : List RTy := [.val .bool]
noncomputable abbrev L38 : List (Nat × Con) := []
noncomputable abbrev C38 : Cons := lookC L38
noncomputable abbrev S38 : List (Nat × Nat × LSum) := []
noncomputable def con38 : Con := ⟨ps38, rs38, fun x => f38 x.1⟩
theorem e38 (x : Args ps38) : kTop Go.Proofs.Tryd.prog C38 (lookS S38) big 10 38 ps38 rs38 x = con38.f x := by kernel_rfl
theorem ok38 [Glob] (h : AllOK Go.Proofs.Tryd.prog L38) : con38.OK Go.Proofs.Tryd.prog 38 := con_of_tree (lookC_ok h) (rounds_of (l := S38) trivial) e38
abbrev ps30 : List Ty := [.str, .int .i64]
abbrev rs30 : List RTy := [.val (.int .i64), .val .bool]
noncomputable abbrev L30 : List (Nat × Con) := [(38, con38)]
noncomputable abbrev C30 : Cons := lookC L30
abbrev s30_3 : LShape := ⟨45, [(0, .str), (1, .int .i64), (6, .int .i64), (10, .fix (.ptr 4294975504 0))], [], [(4294975504, .siter)], []⟩
abbrev o30_3 : LShape := ⟨45, [(0, .str), (1, .int .i64), (6, .int .i64)], [], [], []⟩
abbrev q30_3 : LShape := ⟨45, [(4, .int .i64), (5, .bool)], [], [], []⟩
noncomputable def l30_3 : LSum := ⟨9, 30, s30_3, 0, o30_3, q30_3, u30_3⟩
noncomputable abbrev S30 : List (Nat × Nat × LSum) := [(4294967296, 3, l30_3)]
noncomputable def con30 : Con := ⟨ps30, rs30, fun x => f30 x.1 x.2.1⟩
theorem r30_3 : Round Go.Proofs.Tryd.prog C30 (lookS S30) big 4294967296 3 l30_3 := ⟨by kernel_rfl, fun z => by kernel_rfl⟩
theorem e30 (x : Args ps30) : kTop Go.Proofs.Tryd.prog C30 (lookS S30) big 10 30 ps30 rs30 x = con30.f x := by kernel_rfl
theorem ok30 [Glob] (h : AllOK Go.Proofs.Tryd.prog L30) : con30.OK Go.Proofs.Tryd.prog 30 := con_of_tree (lookC_ok h) (rounds_of (l := S30) ⟨r30_3, trivial⟩) e30
abbrev ps12 : List Ty := [.int .i64]
abbrev rs12 : List RTy := [.val .str]
noncomputable abbrev L12 : List (Nat × Con) := [(31, conItoa), (32, conJoin)]
noncomputable abbrev C12 : Cons := lookC L12
abbrev s12_5 : LShape := ⟨27, [(0, .int .i64), (11, .int .i64)], [], [], [⟨3, 8294967616, 9, .str⟩]⟩
abbrev o12_5 : LShape := ⟨27, [], [], [], [⟨3, 8294967648, 9, .str⟩]⟩
abbrev q12_5 : LShape := ⟨27, [], [], [], []⟩
noncomputable def l12_5 : LSum := ⟨9, 12, s12_5, 0, o12_5, q12_5, u12_5⟩
noncomputable abbrev S12 : List (Nat × Nat × LSum) := [(4294967296, 5, l12_5)]
noncomputable def con12 : Con := ⟨ps12, rs12, fun x => f12 x.1⟩
theorem r12_5 : Round Go.Proofs.Tryd.prog C12 (lookS S12) big 4294967296 5 l12_5 := ⟨by kernel_rfl, fun z => by kernel_rfl⟩
theorem e12 (x : Args ps12) : kTop Go.Proofs.Tryd.prog C12 (lookS S12) big 10 12 ps12 rs12 x = con12.f x := by kernel_rfl
theorem ok12 [Glob] (h : AllOK Go.Proofs.Tryd.prog L12) : con12.OK Go.Proofs.Tryd.prog 12 := con_of_tree (lookC_ok h) (rounds_of (l := S12) ⟨r12_5, trivial⟩) e12
abbrev ps14 : List Ty := [.pair (.int .i64) (.int .i64)]
abbrev rs14 : List RTy := [.val .str]
noncomputable abbrev L14 : List (Nat × Con) := [(31, conItoa), (15, con15), (12, con12)]
noncomputable abbrev C14 : Cons := lookC L14
noncomputable abbrev S14 : List (Nat × Nat × LSum) := []
noncomputable def con14 : Con := ⟨ps14, rs14, fun x => f14 x.1.1 x.1.2⟩
theorem e14 (x : Args ps14) : kTop Go.Proofs.Tryd.prog C14 (lookS S14) big 10 14 ps14 rs14 x = con14.f x := by kernel_rfl
theorem ok14 [Glob] (h : AllOK Go.Proofs.Tryd.prog L14) : con14.OK Go.Proofs.Tryd.prog 14 := con_of_tree (lookC_ok h) (rounds_of (l := S14) trivial) e14
abbrev ps11 : List Ty := [.str]
abbrev rs11 : List RTy := [.val (.int .i64), .val .bool]
noncomputable abbrev L11 : List (Nat × Con) := [(29, conSplit), (30, con30)]
noncomputable abbrev C11 : Cons := lookC L11
abbrev s11_6 : LShape := ⟨34, [(5, .int .i64), (16, .int .i64), (17, .int .i64)], [], [], [⟨15, 8294967680, 9, .str⟩]⟩
abbrev o11_6 : LShape := ⟨34, [(5, .int .i64)], [], [], []⟩
abbrev q11_6 : LShape := ⟨34, [(2, .int .i64), (3, .bool)], [], [], []⟩
noncomputable def l11_6 : LSum := ⟨9, 11, s11_6, 0, o11_6, q11_6, u11_6⟩
noncomputable abbrev S11 : List (Nat × Nat × LSum) := [(4294967296, 6, l11_6)]
noncomputable def con11 : Con := ⟨ps11, rs11, fun x => f11 x.1⟩
theorem r11_6 : Round Go.Proofs.Tryd.prog C11 (lookS S11) big 4294967296 6 l11_6 := ⟨by kernel_rfl, fun z => by kernel_rfl⟩
theorem e11 (x : Args ps11) : kTop Go.Proofs.Tryd.prog C11 (lookS S11) big 10 11 ps11 rs11 x = con11.f x := by kernel_rfl
theorem ok11 [Glob] (h : AllOK Go.Proofs.Tryd.prog L11) : con11.OK Go.Proofs.Tryd.prog 11 := con_of_tree (lookC_ok h) (rounds_of (l := S11) ⟨r11_6, trivial⟩) e11
abbrev ps13 : List Ty := [.str]
abbrev rs13 : List RTy := [.val (.pair (.int .i64) (.int .i64)), .val .bool]
noncomputable abbrev L13 : List (Nat × Con) := [(33, conCut), (30, con30), (11, con11), (15, con15)]
noncomputable abbrev C13 : Cons := lookC L13
noncomputable abbrev S13 : List (Nat × Nat × LSum) := []
noncomputable def con13 : Con := ⟨ps13, rs13, fun x => f13 x.1⟩
theorem e13 (x : Args ps13) : kTop Go.Proofs.Tryd.prog C13 (lookS S13) big 10 13 ps13 rs13 x = con13.f x := by kernel_rfl
theorem ok13 [Glob] (h : AllOK Go.Proofs.Tryd.prog L13) : con13.OK Go.Proofs.Tryd.prog 13 := con_of_tree (lookC_ok h) (rounds_of (l := S13) trivial) e13
abbrev ps10 : List Ty := []
abbrev rs10 : List RTy := [.val .bool]
noncomputable abbrev L10 : List (Nat × Con) := [(11, con11), (12, con12), (13, con13), (14, con14), (15, con15), (16, con16), (17, con17), (18, con18), (19, con19)]
noncomputable abbrev C10 : Cons := lookC L10
noncomputable abbrev S10 : List (Nat × Nat × LSum) := []
noncomputable def con10 : Con := ⟨ps10, rs10, fun x => f10 ⟩
theorem e10 (x : Args ps10) : kTop Go.Proofs.Tryd.prog C10 (lookS S10) big 10 10 ps10 rs10 x = con10.f x := by kernel_rfl
theorem ok10 [Glob] (h : AllOK Go.Proofs.Tryd.prog L10) : con10.OK Go.Proofs.Tryd.prog 10 := con_of_tree (lookC_ok h) (rounds_of (l := S10) trivial) e10
abbrev ps3 : List Ty := [.pair (.int .i64) (.int .i64), .int .i64, .str]
abbrev rs3 : List RTy := [.val .bool]
noncomputable abbrev L3 : List (Nat × Con) := [(10, con10), (11, con11), (12, con12), (13, con13), (14, con14), (15, con15), (16, con16), (17, con17), (18, con18), (19, con19)]
noncomputable abbrev C3 : Cons := lookC L3
noncomputable abbrev S3 : List (Nat × Nat × LSum) := []
noncomputable def con3 : Con := ⟨ps3, rs3, fun x => f3 x.1.1 x.1.2 x.2.1 x.2.2.1⟩
theorem e3 (x : Args ps3) : kTop Go.Proofs.Tryd.prog C3 (lookS S3) big 10 3 ps3 rs3 x = con3.f x := by kernel_rfl
theorem ok3 [Glob] (h : AllOK Go.Proofs.Tryd.prog L3) : con3.OK Go.Proofs.Tryd.prog 3 := con_of_tree (lookC_ok h) (rounds_of (l := S3) trivial) e3
abbrev ps4 : List Ty := [.pair (.int .i64) (.int .i64), .pair (.int .i64) (.int .i64), .int .i64]
abbrev rs4 : List RTy := [.val .bool]
noncomputable abbrev L4 : List (Nat × Con) := [(10, con10), (11, con11), (12, con12), (13, con13), (14, con14), (15, con15), (16, con16), (17, con17), (18, con18), (19, con19)]
noncomputable abbrev C4 : Cons := lookC L4
noncomputable abbrev S4 : List (Nat × Nat × LSum) := []
noncomputable def con4 : Con := ⟨ps4, rs4, fun x => f4 x.1.1 x.1.2 x.2.1.1 x.2.1.2 x.2.2.1⟩
theorem e4 (x : Args ps4) : kTop Go.Proofs.Tryd.prog C4 (lookS S4) big 10 4 ps4 rs4 x = con4.f x := by kernel_rfl
theorem ok4 [Glob] (h : AllOK Go.Proofs.Tryd.prog L4) : con4.OK Go.Proofs.Tryd.prog 4 := con_of_tree (lookC_ok h) (rounds_of (l := S4) trivial) e4
abbrev ps5 : List Ty := [.pair (.int .i64) (.int .i64)]
abbrev rs5 : List RTy := [.val .bool]
noncomputable abbrev L5 : List (Nat × Con) := [(10, con10), (11, con11), (12, con12), (13, con13), (14, con14), (15, con15), (16, con16), (17, con17), (18, con18), (19, con19)]
noncomputable abbrev C5 : Cons := lookC L5
noncomputable abbrev S5 : List (Nat × Nat × LSum) := []
noncomputable def con5 : Con := ⟨ps5, rs5, fun x => f5 x.1.1 x.1.2⟩
theorem e5 (x : Args ps5) : kTop Go.Proofs.Tryd.prog C5 (lookS S5) big 10 5 ps5 rs5 x = con5.f x := by kernel_rfl
theorem ok5 [Glob] (h : AllOK Go.Proofs.Tryd.prog L5) : con5.OK Go.Proofs.Tryd.prog 5 := con_of_tree (lookC_ok h) (rounds_of (l := S5) trivial) e5
abbrev ps6 : List Ty := [.pair (.int .i64) (.int .i64), .pair (.int .i64) (.int .i64), .int .i64, .int .i64]
abbrev rs6 : List RTy := [.val .bool]
noncomputable abbrev L6 : List (Nat × Con) := [(10, con10), (11, con11), (12, con12), (13, con13), (14, con14), (15, con15), (16, con16), (17, con17), (18, con18), (19, con19)]
noncomputable abbrev C6 : Cons := lookC L6
noncomputable abbrev S6 : List (Nat × Nat × LSum) := []
noncomputable def con6 : Con := ⟨ps6, rs6, fun x => f6 x.1.1 x.1.2 x.2.1.1 x.2.1.2 x.2.2.1 x.2.2.2.1⟩
theorem e6 (x : Args ps6) : kTop Go.Proofs.Tryd.prog C6 (lookS S6) big 10 6 ps6 rs6 x = con6.f x := by kernel_rfl
theorem ok6 [Glob] (h : AllOK Go.Proofs.Tryd.prog L6) : con6.OK Go.Proofs.Tryd.prog 6 := con_of_tree (lookC_ok h) (rounds_of (l := S6) trivial) e6
abbrev ps7 : List Ty := [.int .i64, .pair (.int .i64) (.int .i64)]
abbrev rs7 : List RTy := [.val .bool]
noncomputable abbrev L7 : List (Nat × Con) := [(10, con10), (11, con11), (12, con12), (13, con13), (14, con14), (15, con15), (16, con16), (17, con17), (18, con18), (19, con19)]
noncomputable abbrev C7 : Cons := lookC L7
abbrev s7_6 : LShape := ⟨62, [(0, .int .i64), (5, .bool), (6, .str), (7, .str), (8, .int .i64), (9, .int .i64)], [], [], []⟩
abbrev o7_6 : LShape := ⟨62, [(0, .int .i64), (5, .bool), (6, .str), (7, .str), (8, .int .i64)], [], [], []⟩
abbrev q7_6 : LShape := ⟨62, [], [], [], []⟩
noncomputable def l7_6 : LSum := ⟨9, 7, s7_6, 0, o7_6, q7_6, u7_6⟩
noncomputable abbrev S7 : List (Nat × Nat × LSum) := [(4294967296, 6, l7_6)]
noncomputable def con7 : Con := ⟨ps7, rs7, fun x => f7 x.1 x.2.1.1 x.2.1.2⟩
theorem r7_6 : Round Go.Proofs.Tryd.prog C7 (lookS S7) big 4294967296 6 l7_6 := ⟨by kernel_rfl, fun z => by kernel_rfl⟩
theorem e7 (x : Args ps7) : kTop Go.Proofs.Tryd.prog C7 (lookS S7) big 10 7 ps7 rs7 x = con7.f x := by kernel_rfl
theorem ok7 [Glob] (h : AllOK Go.Proofs.Tryd.prog L7) : con7.OK Go.Proofs.Tryd.prog 7 := con_of_tree (lookC_ok h) (rounds_of (l := S7) ⟨r7_6, trivial⟩) e7
abbrev ps8 : List Ty := [.pair (.int .i64) (.int .i64), .pair (.int .i64) (.int .i64), .int .i64, .int .i64, .str]
abbrev rs8 : List RTy := [.val .bool]
noncomputable abbrev L8 : List (Nat × Con) := [(10, con10), (11, con11), (12, con12), (13, con13), (14, con14), (15, con15), (16, con16), (17, con17), (18, con18), (19, con19), (20, con20), (21, con21), (22, con22), (23, con23), (24, con24), (25, con25), (26, con26), (27, con27), (28, con28)]
noncomputable abbrev C8 : Cons := lookC L8
noncomputable abbrev S8 : List (Nat × Nat × LSum) := []
noncomputable def con8 : Con := ⟨ps8, rs8, fun x => f8 x.1.1 x.1.2 x.2.1.1 x.2.1.2 x.2.2.1 x.2.2.2.1 x.2.2.2.2.1⟩
theorem e8 (x : Args ps8) : kTop Go.Proofs.Tryd.prog C8 (lookS S8) big 10 8 ps8 rs8 x = con8.f x := by kernel_rfl
theorem ok8 [Glob] (h : AllOK Go.Proofs.Tryd.prog L8) : con8.OK Go.Proofs.Tryd.prog 8 := con_of_tree (lookC_ok h) (rounds_of (l := S8) trivial) e8
abbrev ps9 : List Ty := [.pair (.int .i64) (.int .i64), .int .i64, .int .i64]
abbrev rs9 : List RTy := [.val .bool]
noncomputable abbrev L9 : List (Nat × Con) := [(10, con10), (11, con11), (12, con12), (13, con13), (14, con14), (15, con15), (16, con16), (17, con17), (18, con18), (19, con19)]
noncomputable abbrev C9 : Cons := lookC L9
noncomputable abbrev S9 : List (Nat × Nat × LSum) := []
noncomputable def con9 : Con := ⟨ps9, rs9, fun x => f9 x.1.1 x.1.2 x.2.1 x.2.2.1⟩
theorem e9 (x : Args ps9) : kTop Go.Proofs.Tryd.prog C9 (lookS S9) big 10 9 ps9 rs9 x = con9.f x := by kernel_rfl
theorem ok9 [Glob] (h : AllOK Go.Proofs.Tryd.prog L9) : con9.OK Go.Proofs.Tryd.prog 9 := con_of_tree (lookC_ok h) (rounds_of (l := S9) trivial) e9

theorem k15 : con15.OK Tryd.prog 15 := ok15 trivial
theorem k18 : con18.OK Tryd.prog 18 := ok18 ⟨k15, trivial⟩
theorem k19 : con19.OK Tryd.prog 19 := ok19 ⟨k18, trivial⟩
theorem k16 : con16.OK Tryd.prog 16 := ok16 ⟨k15, trivial⟩
theorem k17 : con17.OK Tryd.prog 17 := ok17 ⟨k15, k16, trivial⟩
theorem k35 : con35.OK Tryd.prog 35 := ok35 trivial
theorem k23 : con23.OK Tryd.prog 23 := ok23 ⟨k35, trivial⟩
theorem k25 : con25.OK Tryd.prog 25 := ok25 ⟨k35, k23, trivial⟩
theorem k20 : con20.OK Tryd.prog 20 := ok20 ⟨k25, trivial⟩
theorem k26 : con26.OK Tryd.prog 26 := ok26 ⟨k23, k25, trivial⟩
theorem k24 : con24.OK Tryd.prog 24 := ok24 ⟨k23, k26, trivial⟩
theorem k36 : con36.OK Tryd.prog 36 := ok36 trivial
theorem k27 : con27.OK Tryd.prog 27 := ok27 ⟨k36, trivial⟩
theorem k28 : con28.OK Tryd.prog 28 := ok28 ⟨k36, k27, k23, trivial⟩
theorem k34 : con34.OK Tryd.prog 34 := ok34 trivial
theorem k21 : con21.OK Tryd.prog 21 := ok21 ⟨k34, k27, trivial⟩
theorem k22 : con22.OK Tryd.prog 22 := ok22 ⟨k34, k28, trivial⟩
theorem k38 : con38.OK Tryd.prog 38 := ok38 trivial
theorem k30 : con30.OK Tryd.prog 30 := ok30 ⟨k38, trivial⟩
theorem k12 : con12.OK Tryd.prog 12 := ok12 ⟨okItoa, okJoin, trivial⟩
theorem k14 : con14.OK Tryd.prog 14 := ok14 ⟨okItoa, k15, k12, trivial⟩
theorem k11 : con11.OK Tryd.prog 11 := ok11 ⟨okSplit, k30, trivial⟩
theorem k13 : con13.OK Tryd.prog 13 := ok13 ⟨okCut, k30, k11, k15, trivial⟩
theorem k10 : con10.OK Tryd.prog 10 := ok10 ⟨k11, k12, k13, k14, k15, k16, k17, k18, k19, trivial⟩
theorem k3 : con3.OK Tryd.prog 3 := ok3 ⟨k10, k11, k12, k13, k14, k15, k16, k17, k18, k19, trivial⟩
theorem k4 : con4.OK Tryd.prog 4 := ok4 ⟨k10, k11, k12, k13, k14, k15, k16, k17, k18, k19, trivial⟩
theorem k5 : con5.OK Tryd.prog 5 := ok5 ⟨k10, k11, k12, k13, k14, k15, k16, k17, k18, k19, trivial⟩
theorem k6 : con6.OK Tryd.prog 6 := ok6 ⟨k10, k11, k12, k13, k14, k15, k16, k17, k18, k19, trivial⟩
theorem k7 : con7.OK Tryd.prog 7 := ok7 ⟨k10, k11, k12, k13, k14, k15, k16, k17, k18, k19, trivial⟩
theorem k8 : con8.OK Tryd.prog 8 := ok8 ⟨k10, k11, k12, k13, k14, k15, k16, k17, k18, k19, k20, k21, k22, k23, k24, k25, k26, k27, k28, trivial⟩
theorem k9 : con9.OK Tryd.prog 9 := ok9 ⟨k10, k11, k12, k13, k14, k15, k16, k17, k18, k19, trivial⟩
end Go.Proofs.Zz
