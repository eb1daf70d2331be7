/- Eq9a, Eq9b, Eq9c, Eq9d. -/
import Derived.Test.YtadlmipfbockgaaGreatPU
import Derived.Test.YtadlmipfbockgaaGreatFD
namespace Go.Proofs.Zz
open Go Go.Sy
set_option linter.unusedVariables false
set_option maxHeartbeats 0
set_option maxRecDepth 100000
abbrev _root_.Go.Sy.Ty.i:Go.Sy.Ty:=.int .i64
abbrev _root_.Go.Sy.SK.i:Go.Sy.SK:=.int .i64
abbrev n0:Nat:=18446779399815561216
abbrev n1:Nat:=18446761945068470288
abbrev n2:Nat:=18446761945068470272
abbrev n3:Nat:=18446796923282128896
abbrev n4:Nat:=18446849768559738880
abbrev n5:Nat:=18446849768559738896
abbrev kN0:Nat:=4294967296
abbrev kN1:Nat:=4294988496
abbrev kN2:Nat:=4294967312
abbrev kN3:Nat:=4294971392
abbrev kN4:Nat:=4294971424
abbrev kN5:Nat:=4294967328
abbrev kN6:Nat:=4294971456
abbrev eT2:Ty:=.pair .i (.pair .i .i)
abbrev eT6:Ty:=.pair (.pair .i .i) (.pair (.pair .i .i) (.pair .i eT2))
abbrev eT10:Ty:=.row eT2
abbrev eT4:Ty:=.pair .i (.pair .i eT2)
abbrev eT0:Ty:=.pair eT6 (.pair (.pair .i (.pair .i (.pair .i .bool))) (.pair .i (.pair eT10 (.pair (.row eT4) eT10))))
abbrev eT9:Ty:=.int .u8
abbrev eT5:Ty:=.row eT9
abbrev eT1:Ty:=.pair .i (.pair eT5 .i)
abbrev eT3:Ty:=.pair .i (.row eT1)
abbrev eT7:Ty:=.pair .i (.pair .i (.pair .i (.pair .i (.pair .i (.pair .i (.pair .i (.pair .i .bool)))))))
abbrev eT8:Ty:=.pair eT3 (.pair .i .i)
abbrev kK0:Nat×SK:=(1,.fix (.ptr kN0 0))
abbrev kK1:Nat×SK:=(9,.int .u64)
abbrev kK2:Nat×SK:=(2,.fix (.ptr kN2 0))
abbrev kK3:Nat×SK:=(0,.cont eT9)
abbrev kK4:Nat×SK:=(0,.cont eT2)
abbrev kK5:Nat×SK:=(5,.fix (.ptr kN4 0))
abbrev kK6:Nat×SK:=(2,.fix (.ptr kN0 0))
abbrev kK7:Nat×SK:=(8,.fix (.ptr kN1 0))
abbrev kK8:Nat×SK:=(4,.fix (.ptr kN5 0))
abbrev kK9:Nat×SK:=(1,.fix (.fn (.func 155) [(.ptr kN4 0)] []))
abbrev kK10:Nat×SK:=(0,.cont eT4)
abbrev kK11:Nat×SK:=(3,.fix (.ptr kN0 0))
abbrev kK12:Nat×SK:=(6,.fix (.fn (.func 40) [] [(.ptr kN2 0)]))
abbrev kO0:Nat×OS:=(kN0,.box 37 [.i,.i,.i,.i,.i,.i,.i,.i,.i,.i,.i,.bool,.i,.cont eT2,.cont eT4,.cont eT2])
abbrev kO1:Nat×OS:=(kN0,.box 24 [.i,.cont eT1])
abbrev kO2:Nat×OS:=(kN0,.box 3 [.i])
abbrev kO3:Nat×OS:=(kN4,.box 202 [.int .u32])
abbrev kO4:Nat×OS:=(kN4,.box 24 [.i,.fix (.dsl 4294971408)])
abbrev kO5:Nat×OS:=(4294971408,.drow 46 5 0)
abbrev kO6:Nat×OS:=(4294987824,.box 131 [.i,.i,.i])
abbrev kO7:Nat×OS:=(n1,.box 200 [.fix (.fn (.func 152) [] [])])
abbrev kO8:Nat×OS:=(4294975488,.box 4 [.bool])
abbrev kO9:Nat×OS:=(n3,.box 44 [.cont eT9])
abbrev kO10:Nat×OS:=(kN2,.box 24 [.i,.cont eT1])
abbrev kO11:Nat×OS:=(kN2,.box 57 [.cont .i])
abbrev kO12:Nat×OS:=(4294991872,.loop 66 6 .ready [.fix .junk,.fix .junk,.fix .junk,.fix .junk,.fix (.ptr kN3 0),.fix (.ptr 4294975488 0),.fix (.lit (.tuple #[])),.fix (.lit (.tuple #[])),.fix .junk,.fix .junk,.fix (.lit (.tuple #[])),.fix (.lit (.tuple #[])),.fix (.lit (.tuple #[])),.fix (.lit (.tuple #[])),.fix (.lit (.tuple #[])),.fix (.lit (.tuple #[])),.fix (.lit (.tuple #[])),.fix (.lit (.tuple #[])),.fix (.lit (.tuple #[])),.fix (.lit (.tuple #[])),.fix (.lit (.tuple #[])),.fix (.lit (.tuple #[])),.fix (.lit (.tuple #[])),.fix .junk,.fix .junk,.fix .junk])
abbrev kO13:Nat×OS:=(4294971472,.box 109 [.cont eT9,.cont eT9,.cont eT9,.cont eT9,.cont eT9])
abbrev kO14:Nat×OS:=(4295000064,.loop 32 8 .ready [.fix .junk,.fix .junk,.fix .junk,.fix .junk,.fix .junk,.fix .junk,.fix .junk,.fix .junk,.fix (.ptr kN1 0),.fix (.lit (.tuple #[])),.fix .junk,.fix .junk,.fix .junk,.fix .junk,.fix .junk,.fix .junk,.fix .junk,.fix .junk,.fix .junk,.fix .junk,.fix .junk,.fix .junk,.fix .junk,.fix .junk,.fix .junk,.fix .junk,.fix .junk,.fix .junk,.fix .junk,.fix .junk,.fix .junk,.fix .junk,.fix .junk,.fix .junk,.fix .junk,.fix .junk,.fix .junk,.fix .junk,.fix .junk,.fix .junk,.fix .junk,.fix .junk,.fix .junk,.fix .junk,.fix .junk,.fix .junk,.fix .junk,.fix .junk,.fix .junk,.fix .junk,.fix .junk,.fix .junk,.fix .junk,.fix .junk,.fix .junk,.fix .junk,.fix .junk,.fix .junk,.fix .junk,.fix .junk,.fix .junk,.fix .junk,.fix .junk,.fix .junk,.fix .junk,.fix .junk,.fix .junk,.fix .junk,.fix .junk,.fix .junk,.fix .junk,.fix .junk,.fix .junk,.fix .junk,.fix .junk,.fix .junk,.fix .junk,.fix .junk,.fix .junk,.fix .junk,.fix .junk,.fix .junk,.fix .junk,.fix .junk,.fix .junk,.fix .junk,.fix .junk,.fix .junk,.fix .junk,.fix .junk,.fix .junk,.fix .junk,.fix .junk,.fix .junk,.fix .junk,.fix .junk,.fix .junk,.fix .junk,.fix .junk,.fix .junk,.fix .junk,.fix .junk,.fix .junk,.fix .junk,.fix .junk,.fix .junk,.fix .junk,.fix (.lit (.tuple #[])),.fix (.lit (.tuple #[])),.fix (.lit (.tuple #[])),.fix (.lit (.tuple #[])),.fix (.lit (.tuple #[])),.fix (.lit (.tuple #[])),.fix (.lit (.tuple #[])),.fix (.lit (.tuple #[])),.fix (.lit (.tuple #[])),.fix (.lit (.tuple #[])),.fix (.lit (.tuple #[])),.fix (.lit (.tuple #[])),.fix (.lit (.tuple #[])),.fix (.lit (.tuple #[])),.fix (.lit (.tuple #[])),.fix (.lit (.tuple #[])),.fix .junk,.fix .junk,.fix .junk,.fix .junk,.fix .junk,.fix .junk,.fix .junk,.fix .junk,.fix .junk,.fix .junk,.fix .junk,.fix .junk,.fix .junk,.fix .junk,.fix .junk,.fix .junk,.fix .junk,.fix .junk,.fix .junk,.fix .junk,.fix .junk,.fix .junk,.fix .junk,.fix .junk,.fix .junk,.fix .junk,.fix .junk,.fix .junk,.fix .junk,.fix .junk,.fix .junk,.fix .junk,.fix .junk,.fix .junk,.fix .junk,.fix .junk,.fix .junk,.fix .junk,.fix .junk,.fix .junk,.fix .junk,.fix .junk,.fix .junk,.fix .junk,.fix .junk,.fix .junk,.fix .junk,.fix .junk,.fix .junk,.fix .junk,.fix .junk,.fix .junk,.fix .junk,.fix .junk,.fix .junk,.fix .junk,.fix .junk,.fix .junk,.fix .junk,.fix .junk,.fix .junk,.fix .junk,.fix .junk,.fix .junk,.fix .junk,.fix .junk,.fix .junk,.fix .junk,.fix .junk,.fix .junk,.fix .junk,.fix .junk,.fix .junk,.fix .junk,.fix .junk,.fix .junk,.fix .junk,.fix .junk,.fix .junk,.fix .junk,.fix .junk,.fix .junk,.fix .junk,.fix .junk,.fix .junk,.fix .junk,.fix .junk,.fix .junk,.fix .junk,.fix .junk,.fix .junk,.fix .junk,.fix .junk,.fix .junk,.fix .junk,.fix .junk,.fix .junk,.fix .junk,.fix .junk,.fix .junk,.fix .junk,.fix .junk,.fix .junk,.fix .junk,.fix .junk,.fix .junk,.fix .junk,.fix .junk,.fix .junk,.fix .junk,.fix .junk,.fix .junk,.fix .junk,.fix .junk])
abbrev kO15:Nat×OS:=(kN0,.box 24 [.i,.fix (.dsl kN4)])
abbrev kO16:Nat×OS:=(kN0,.box 26 [.i,.cont eT1,.i,.i])
abbrev kR0:RowH:=⟨.c kN2 1,8294967488,46,eT1⟩
abbrev kR1:RowH:=⟨.c kN2 1,8294967520,46,eT1⟩
abbrev kL0:List (Nat×OS):=[(n2,.box 199 [.i,.i]),kO7]
abbrev kL1:List (Nat×SK):=[kK3,(2,.i),kK1,(10,.i),(17,.i),(18,.i)]
abbrev kL2:List (Nat×SK):=[kK11,kK1,(10,.i),(27,.cont .i),(28,.i),(29,.i)]
abbrev kL3:List (Nat×SK):=[kK4,(1,.cont eT2),(12,.i),(13,.i)]
noncomputable def con25:Con:=⟨[eT3],[.val .i,.val .i],fun x=>f25 x.1.1 x.1.2⟩
theorem k25:con25.OK Tryz.prog 25:=con_of_tree (n:=10) (lf:=big) (lookC_ok (l:=[]) (u:=[]) (z:=[]) trivial trivial) (rounds_of (l:=[]) trivial) fun x=>by kernel_rfl
abbrev s46_3:LShape:=⟨19,[(3,.i),(6,.cont eT1),(7,.i),(8,.i)],[],[],[]⟩
abbrev o46_3:LShape:=⟨19,[(3,.i)],[],[],[]⟩
abbrev q46_3:LShape:=⟨19,[],[],[],[]⟩
noncomputable def l46_3:LSum:=⟨9,46,s46_3,0,o46_3,q46_3,u46_3,false,none,none,[]⟩
noncomputable def con46:Con:=⟨[(.row eT1)],[.val .i],fun x=>f46 x.1⟩
theorem k46:con46.OK Tryz.prog 46:=con_of_tree (n:=10) (lf:=big) (lookC_ok (l:=[]) (u:=[]) (z:=[]) trivial trivial) (rounds_of (l:=[(kN0,3,l46_3)]) ⟨⟨by kernel_rfl,fun z=>by kernel_rfl⟩,trivial⟩) fun x=>by kernel_rfl
abbrev s26_3:LShape:=⟨60,[kK0,(3,.i),(7,.cont eT1),(8,.i),(9,.i)],[],[kO1],[]⟩
abbrev o26_3:LShape:=⟨60,[kK0],[],[kO1],[]⟩
abbrev q26_3:LShape:=⟨60,[(2,.bool)],[],[],[]⟩
noncomputable def l26_3:LSum:=⟨9,26,s26_3,0,o26_3,q26_3,u26_3,false,none,none,[]⟩
noncomputable def con26:Con:=⟨[eT3],[.val .bool],fun x=>f26 x.1.1 x.1.2⟩
theorem k26:con26.OK Tryz.prog 26:=con_of_tree (n:=10) (lf:=big) (lookC_ok (l:=[(46,con46)]) (u:=[]) (z:=[]) ⟨k46,trivial⟩ trivial) (rounds_of (l:=[(kN0,3,l26_3)]) ⟨⟨by kernel_rfl,fun z=>by kernel_rfl⟩,trivial⟩) fun x=>by kernel_rfl
noncomputable def con11:Con:=⟨[eT8],[.val .bool],fun x=>f11 x.1.1.1 x.1.1.2 x.1.2.1 x.1.2.2⟩
theorem k11:con11.OK Tryz.prog 11:=con_of_tree (n:=10) (lf:=big) (lookC_ok (l:=[(25,con25),(26,con26)]) (u:=[]) (z:=[]) ⟨k25,k26,trivial⟩ trivial) (rounds_of (l:=[]) trivial) fun x=>by kernel_rfl
noncomputable def con106:Con:=⟨[eT9],[.val .bool],fun x=>f106 x.1⟩
theorem k106:con106.OK Tryz.prog 106:=con_of_tree (n:=10) (lf:=big) (lookC_ok (l:=[]) (u:=[]) (z:=[]) trivial trivial) (rounds_of (l:=[]) trivial) fun x=>by kernel_rfl
abbrev s62_139_2_0:LShape:=⟨19,[kK3,(1,.fix (.fn (.func 106) [] [])),(7,.i),(8,.i)],[],[],[]⟩
abbrev o62_139_2_0:LShape:=⟨19,[],[],[],[]⟩
abbrev q62_139_2_0:LShape:=⟨19,[(4,.i)],[],[],[]⟩
noncomputable def l62_139_2_0:LSum:=⟨7,139,s62_139_2_0,0,o62_139_2_0,q62_139_2_0,u62_139_2_0,false,none,none,[]⟩
noncomputable def con62:Con:=⟨[eT5],[.val .bool],fun x=>f62 x.1⟩
theorem k62:con62.OK Tryz.prog 62:=con_of_tree (n:=10) (lf:=big) (lookC_ok (l:=[(106,con106)]) (u:=[]) (z:=[]) ⟨k106,trivial⟩ trivial) (rounds_of (l:=[(79228239566314351212261015552,2,l62_139_2_0)]) ⟨⟨by kernel_rfl,fun z=>by kernel_rfl⟩,trivial⟩) fun x=>by kernel_rfl
noncomputable def con89:Con:=⟨[.i],[.val .bool],fun x=>f89 x.1⟩
theorem k89:con89.OK Tryz.prog 89:=con_of_tree (n:=10) (lf:=big) (lookC_ok (l:=[]) (u:=[]) (z:=[]) trivial trivial) (rounds_of (l:=[]) trivial) fun x=>by kernel_rfl
abbrev s63_5:LShape:=⟨63,[(1,.i),(6,.i),(29,.cont eT9),(30,.i),(31,.i)],[],[],[]⟩
abbrev o63_5:LShape:=⟨63,[],[],[],[]⟩
abbrev q63_5:LShape:=⟨63,[(4,.i),(5,.i)],[],[],[]⟩
noncomputable def l63_5:LSum:=⟨9,63,s63_5,0,o63_5,q63_5,u63_5,false,none,none,[]⟩
noncomputable def con63:Con:=⟨[eT5,.i],[.val .i,.val .i],fun x=>f63 x.1 x.2.1⟩
theorem k63:con63.OK Tryz.prog 63:=con_of_tree (n:=10) (lf:=big) (lookC_ok (l:=[(89,con89)]) (u:=[]) (z:=[]) ⟨k89,trivial⟩ trivial) (rounds_of (l:=[(kN0,5,l63_5)]) ⟨⟨by kernel_rfl,fun z=>by kernel_rfl⟩,trivial⟩) fun x=>by kernel_rfl
abbrev s37_4:LShape:=⟨26,[kK3,(1,.cont eT9),(12,.i),(13,.i)],[],[],[]⟩
abbrev o37_4:LShape:=⟨26,[],[],[],[]⟩
abbrev q37_4:LShape:=⟨26,[(4,.bool)],[],[],[]⟩
noncomputable def l37_4:LSum:=⟨9,37,s37_4,0,o37_4,q37_4,u37_4,false,none,none,[]⟩
noncomputable def con37:Con:=⟨[eT5,eT5],[.val .bool],fun x=>f37 x.1 x.2.1⟩
theorem k37:con37.OK Tryz.prog 37:=con_of_tree (n:=10) (lf:=big) (lookC_ok (l:=[]) (u:=[]) (z:=[]) trivial trivial) (rounds_of (l:=[(kN0,4,l37_4)]) ⟨⟨by kernel_rfl,fun z=>by kernel_rfl⟩,trivial⟩) fun x=>by kernel_rfl
noncomputable def con107:Con:=⟨[(.int .u32)],[.val eT5],fun x=>f107 x.1⟩
theorem k107:con107.OK Tryz.prog 107:=con_of_tree (n:=10) (lf:=big) (lookC_ok (l:=[]) (u:=[]) (z:=[]) trivial trivial) (rounds_of (l:=[]) trivial) fun x=>by kernel_rfl
abbrev s140_154_1_0:LShape:=⟨26,[kK9,(7,.cont eT9),(8,.i),(9,.i)],[kO3],[],[]⟩
abbrev s140_154_4_0:LShape:=⟨26,[kK9,(5,.int .u8),(7,.cont eT9),(8,.i),(9,.i),(13,.i)],[kO3],[],[]⟩
abbrev o140_154_4_0:LShape:=⟨26,[kK9,(7,.cont eT9),(8,.i),(9,.i)],[kO3],[],[]⟩
abbrev q140_154_4_0:LShape:=⟨26,[],[(kN4,.gone)],[],[]⟩
noncomputable def l140_154_4_0:LSum:=⟨8,154,s140_154_4_0,2,o140_154_4_0,q140_154_4_0,u140_154_4_0,false,none,none,[]⟩
abbrev o140_154_1_0:LShape:=⟨26,[],[kO3],[],[]⟩
abbrev q140_154_1_0:LShape:=⟨26,[],[(kN4,.gone)],[],[]⟩
noncomputable def l140_154_1_0:LSum:=⟨8,154,s140_154_1_0,0,o140_154_1_0,q140_154_1_0,u140_154_1_0,false,none,none,[]⟩
noncomputable def con140:Con:=⟨[(.int .u32),eT5],[.val (.int .u32)],fun x=>f140 x.1 x.2.1⟩
theorem k140:con140.OK Tryz.prog 140:=con_of_tree (n:=10) (lf:=big) (lookC_ok (l:=[]) (u:=[]) (z:=[]) trivial trivial) (rounds_of (l:=[(n0,4,l140_154_4_0),(n0,1,l140_154_1_0)]) ⟨⟨by kernel_rfl,fun z=>by kernel_rfl⟩,⟨by kernel_rfl,fun z=>by kernel_rfl⟩,trivial⟩) fun x=>by kernel_rfl
noncomputable def con108:Con:=⟨[eT5],[.val (.int .u32)],fun x=>f108 x.1⟩
theorem k108:con108.OK Tryz.prog 108:=con_of_tree (n:=10) (lf:=big) (lookC_ok (l:=[(140,con140)]) (u:=[]) (z:=[]) ⟨k140,trivial⟩ trivial) (rounds_of (l:=[]) trivial) fun x=>by kernel_rfl
noncomputable def con64:Con:=⟨[eT5],[.val eT5,.val .bool],fun x=>f64 x.1⟩
theorem k64:con64.OK Tryz.prog 64:=con_of_tree (n:=10) (lf:=big) (lookC_ok (l:=[(37,con37),(77,conCByte),(107,con107),(108,con108)]) (u:=[]) (z:=[]) ⟨k37,okCByte,k107,k108,trivial⟩ trivial) (rounds_of (l:=[]) trivial) fun x=>by kernel_rfl
noncomputable def con31:Con:=⟨[eT5,.i],[.val (.pair .i eT5),.val .i,.val .i],fun x=>f31 x.1 x.2.1⟩
theorem k31:con31.OK Tryz.prog 31:=con_of_tree (n:=10) (lf:=big) (lookC_ok (l:=[(62,con62),(63,con63),(64,con64)]) (u:=[]) (z:=[]) ⟨k62,k63,k64,trivial⟩ trivial) (rounds_of (l:=[]) trivial) fun x=>by kernel_rfl
noncomputable def con114:Con:=⟨[.i,.i,.i],[.val .bool],fun x=>f114 x.1 x.2.1 x.2.2.1⟩
theorem k114:con114.OK Tryz.prog 114:=con_of_tree (n:=10) (lf:=big) (lookC_ok (l:=[]) (u:=[]) (z:=[]) trivial trivial) (rounds_of (l:=[]) trivial) fun x=>by kernel_rfl
noncomputable def con143:Con:=⟨[(.pair .i .i)],[.val .bool],fun x=>f143 x.1.1 x.1.2⟩
theorem k143:con143.OK Tryz.prog 143:=con_of_tree (n:=10) (lf:=big) (lookC_ok (l:=[]) (u:=[]) (z:=[]) trivial trivial) (rounds_of (l:=[]) trivial) fun x=>by kernel_rfl
noncomputable def con116:Con:=⟨[(.pair .i .i)],[.val .i],fun x=>f116 x.1.1 x.1.2⟩
theorem k116:con116.OK Tryz.prog 116:=con_of_tree (n:=10) (lf:=big) (lookC_ok (l:=[(143,con143)]) (u:=[]) (z:=[]) ⟨k143,trivial⟩ trivial) (rounds_of (l:=[]) trivial) fun x=>by kernel_rfl
noncomputable def con144:Con:=⟨[(.pair .i .i),.i],[.val .i],fun x=>f144 x.1.1 x.1.2 x.2.1⟩
theorem k144:con144.OK Tryz.prog 144:=con_of_tree (n:=10) (lf:=big) (lookC_ok (l:=[(143,con143)]) (u:=[]) (z:=[]) ⟨k143,trivial⟩ trivial) (rounds_of (l:=[]) trivial) fun x=>by kernel_rfl
noncomputable def con118:Con:=⟨[(.pair .i .i),(.pair .i .i)],[.val .bool],fun x=>f118 x.1.1 x.1.2 x.2.1.1 x.2.1.2⟩
theorem k118:con118.OK Tryz.prog 118:=con_of_tree (n:=10) (lf:=big) (lookC_ok (l:=[(143,con143),(144,con144)]) (u:=[]) (z:=[]) ⟨k143,k144,trivial⟩ trivial) (rounds_of (l:=[]) trivial) fun x=>by kernel_rfl
noncomputable def con122:Con:=⟨[eT6],[.val .i],fun x=>f122 x.1.1.1 x.1.1.2 x.1.2.1.1 x.1.2.1.2 x.1.2.2.1 x.1.2.2.2.1 x.1.2.2.2.2.1 x.1.2.2.2.2.2⟩
theorem k122:con122.OK Tryz.prog 122:=con_of_tree (n:=10) (lf:=big) (lookC_ok (l:=[]) (u:=[]) (z:=[]) trivial trivial) (rounds_of (l:=[]) trivial) fun x=>by kernel_rfl
noncomputable def con123:Con:=⟨[eT6],[.val .i],fun x=>f123 x.1.1.1 x.1.1.2 x.1.2.1.1 x.1.2.1.2 x.1.2.2.1 x.1.2.2.2.1 x.1.2.2.2.2.1 x.1.2.2.2.2.2⟩
theorem k123:con123.OK Tryz.prog 123:=con_of_tree (n:=10) (lf:=big) (lookC_ok (l:=[(116,con116)]) (u:=[]) (z:=[]) ⟨k116,trivial⟩ trivial) (rounds_of (l:=[]) trivial) fun x=>by kernel_rfl
noncomputable def con81:Con:=⟨[eT6],[.val .bool],fun x=>f81 x.1.1.1 x.1.1.2 x.1.2.1.1 x.1.2.1.2 x.1.2.2.1 x.1.2.2.2.1 x.1.2.2.2.2.1 x.1.2.2.2.2.2⟩
theorem k81:con81.OK Tryz.prog 81:=con_of_tree (n:=10) (lf:=big) (lookC_ok (l:=[(114,con114),(116,con116),(118,con118),(122,con122),(123,con123)]) (u:=[]) (z:=[]) ⟨k114,k116,k118,k122,k123,trivial⟩ trivial) (rounds_of (l:=[]) trivial) fun x=>by kernel_rfl
noncomputable def con83:Con:=⟨[.i,.i,.i],[.val .bool],fun x=>f83 x.1 x.2.1 x.2.2.1⟩
theorem k83:con83.OK Tryz.prog 83:=con_of_tree (n:=10) (lf:=big) (lookC_ok (l:=[]) (u:=[]) (z:=[]) trivial trivial) (rounds_of (l:=[]) trivial) fun x=>by kernel_rfl
noncomputable def con82:Con:=⟨[(.pair .i (.pair .i (.pair .i .bool)))],[.val .bool],fun x=>f82 x.1.1 x.1.2.1 x.1.2.2.1 x.1.2.2.2⟩
theorem k82:con82.OK Tryz.prog 82:=con_of_tree (n:=10) (lf:=big) (lookC_ok (l:=[(83,con83)]) (u:=[]) (z:=[]) ⟨k83,trivial⟩ trivial) (rounds_of (l:=[]) trivial) fun x=>by kernel_rfl
noncomputable def con127:Con:=⟨[eT2,eT2],[.val .bool],fun x=>f127 x.1.1 x.1.2.1 x.1.2.2 x.2.1.1 x.2.1.2.1 x.2.1.2.2⟩
theorem k127:con127.OK Tryz.prog 127:=con_of_tree (n:=10) (lf:=big) (lookC_ok (l:=[]) (u:=[]) (z:=[]) trivial trivial) (rounds_of (l:=[]) trivial) fun x=>by kernel_rfl
noncomputable def con128:Con:=⟨[eT2,.i],[.val .bool],fun x=>f128 x.1.1 x.1.2.1 x.1.2.2 x.2.1⟩
theorem k128:con128.OK Tryz.prog 128:=con_of_tree (n:=10) (lf:=big) (lookC_ok (l:=[]) (u:=[]) (z:=[]) trivial trivial) (rounds_of (l:=[]) trivial) fun x=>by kernel_rfl
abbrev s84_4:LShape:=⟨39,[kK4,(1,.i),(19,.cont eT2),(20,.i),(21,.i)],[],[],[]⟩
abbrev s84_146_2_0:LShape:=⟨19,[kK4,(1,.fix (.fn (.func 126) [] [(.ptr 4294987824 0)])),(7,.i),(8,.i)],[kO6],[],[]⟩
abbrev o84_146_2_0:LShape:=⟨19,[],[kO6],[],[]⟩
abbrev q84_146_2_0:LShape:=⟨19,[(4,.i)],[kO6],[],[]⟩
noncomputable def l84_146_2_0:LSum:=⟨7,146,s84_146_2_0,0,o84_146_2_0,q84_146_2_0,u84_146_2_0,false,none,none,[]⟩
abbrev o84_4:LShape:=⟨39,[],[],[],[]⟩
abbrev q84_4:LShape:=⟨39,[(4,.bool)],[],[],[]⟩
noncomputable def l84_4:LSum:=⟨9,84,s84_4,0,o84_4,q84_4,u84_4,false,none,none,[]⟩
noncomputable def con84:Con:=⟨[eT10,.i],[.val .bool],fun x=>f84 x.1 x.2.1⟩
theorem k84:con84.OK Tryz.prog 84:=con_of_tree (n:=10) (lf:=big) (lookC_ok (l:=[(127,con127),(128,con128)]) (u:=[]) (z:=[]) ⟨k127,k128,trivial⟩ trivial) (rounds_of (l:=[(79228694094088327415612833792,2,l84_146_2_0),(kN0,4,l84_4)]) ⟨⟨by kernel_rfl,fun z=>by kernel_rfl⟩,⟨by kernel_rfl,fun z=>by kernel_rfl⟩,trivial⟩) fun x=>by kernel_rfl
noncomputable def con85:Con:=⟨[eT0],[.val .i],fun x=>f85 x.1.1.1.1 x.1.1.1.2 x.1.1.2.1.1 x.1.1.2.1.2 x.1.1.2.2.1 x.1.1.2.2.2.1 x.1.1.2.2.2.2.1 x.1.1.2.2.2.2.2 x.1.2.1.1 x.1.2.1.2.1 x.1.2.1.2.2.1 x.1.2.1.2.2.2 x.1.2.2.1 x.1.2.2.2.1 x.1.2.2.2.2.1 x.1.2.2.2.2.2⟩
theorem k85:con85.OK Tryz.prog 85:=con_of_tree (n:=10) (lf:=big) (lookC_ok (l:=[(116,con116)]) (u:=[]) (z:=[]) ⟨k116,trivial⟩ trivial) (rounds_of (l:=[]) trivial) fun x=>by kernel_rfl
noncomputable def con147:Con:=⟨[eT6],[.val .i],fun x=>f147 x.1.1.1 x.1.1.2 x.1.2.1.1 x.1.2.1.2 x.1.2.2.1 x.1.2.2.2.1 x.1.2.2.2.2.1 x.1.2.2.2.2.2⟩
theorem k147:con147.OK Tryz.prog 147:=con_of_tree (n:=10) (lf:=big) (lookC_ok (l:=[(81,con81),(122,con122),(123,con123)]) (u:=[]) (z:=[]) ⟨k81,k122,k123,trivial⟩ trivial) (rounds_of (l:=[]) trivial) fun x=>by kernel_rfl
noncomputable def con130:Con:=⟨[eT6,.i],[.val eT2,.val .bool],fun x=>f130 x.1.1.1 x.1.1.2 x.1.2.1.1 x.1.2.1.2 x.1.2.2.1 x.1.2.2.2.1 x.1.2.2.2.2.1 x.1.2.2.2.2.2 x.2.1⟩
theorem k130:con130.OK Tryz.prog 130:=con_of_tree (n:=10) (lf:=big) (lookC_ok (l:=[(81,con81),(116,con116),(123,con123),(147,con147)]) (u:=[]) (z:=[]) ⟨k81,k116,k123,k147,trivial⟩ trivial) (rounds_of (l:=[]) trivial) fun x=>by kernel_rfl
noncomputable def con148:Con:=⟨[eT6],[.val .i],fun x=>f148 x.1.1.1 x.1.1.2 x.1.2.1.1 x.1.2.1.2 x.1.2.2.1 x.1.2.2.2.1 x.1.2.2.2.2.1 x.1.2.2.2.2.2⟩
theorem k148:con148.OK Tryz.prog 148:=con_of_tree (n:=10) (lf:=big) (lookC_ok (l:=[(81,con81)]) (u:=[]) (z:=[]) ⟨k81,trivial⟩ trivial) (rounds_of (l:=[]) trivial) fun x=>by kernel_rfl
noncomputable def con131:Con:=⟨[eT6,.i,.i],[.val eT2,.val .bool],fun x=>f131 x.1.1.1 x.1.1.2 x.1.2.1.1 x.1.2.1.2 x.1.2.2.1 x.1.2.2.2.1 x.1.2.2.2.2.1 x.1.2.2.2.2.2 x.2.1 x.2.2.1⟩
theorem k131:con131.OK Tryz.prog 131:=con_of_tree (n:=10) (lf:=big) (lookC_ok (l:=[(116,con116),(148,con148)]) (u:=[]) (z:=[]) ⟨k116,k148,trivial⟩ trivial) (rounds_of (l:=[]) trivial) fun x=>by kernel_rfl
noncomputable def con150:Con:=⟨[eT2,.i],[.val .bool],fun x=>f150 x.1.1 x.1.2.1 x.1.2.2 x.2.1⟩
theorem k150:con150.OK Tryz.prog 150:=con_of_tree (n:=10) (lf:=big) (lookC_ok (l:=[]) (u:=[]) (z:=[]) trivial trivial) (rounds_of (l:=[]) trivial) fun x=>by kernel_rfl
abbrev s132_146_2_0:LShape:=⟨19,[kK4,(1,.fix (.fn (.func 149) [] [(.ptr kN0 0)])),(7,.i),(8,.i)],[kO2],[],[]⟩
abbrev o132_146_2_0:LShape:=⟨19,[],[kO2],[],[]⟩
abbrev q132_146_2_0:LShape:=⟨19,[(4,.i)],[kO2],[],[]⟩
noncomputable def l132_146_2_0:LSum:=⟨8,146,s132_146_2_0,0,o132_146_2_0,q132_146_2_0,u132_146_2_0,false,none,none,[]⟩
noncomputable def con132:Con:=⟨[eT10,.i],[.val .i],fun x=>f132 x.1 x.2.1⟩
theorem k132:con132.OK Tryz.prog 132:=con_of_tree (n:=10) (lf:=big) (lookC_ok (l:=[(150,con150)]) (u:=[]) (z:=[]) ⟨k150,trivial⟩ trivial) (rounds_of (l:=[(18446761807629516800,2,l132_146_2_0)]) ⟨⟨by kernel_rfl,fun z=>by kernel_rfl⟩,trivial⟩) fun x=>by kernel_rfl
noncomputable def con133:Con:=⟨[.i,.i,.i,.i],[.val .bool],fun x=>f133 x.1 x.2.1 x.2.2.1 x.2.2.2.1⟩
theorem k133:con133.OK Tryz.prog 133:=con_of_tree (n:=10) (lf:=big) (lookC_ok (l:=[]) (u:=[]) (z:=[]) trivial trivial) (rounds_of (l:=[]) trivial) fun x=>by kernel_rfl
abbrev s86_3:LShape:=⟨124,[kK0,(3,.fix (.mp kN3)),(12,.cont eT4),(13,.i),(14,.i)],[],[kO0,(kN3,.map)],[]⟩
abbrev o86_3:LShape:=⟨124,[kK0],[],[kO0],[]⟩
abbrev q86_3:LShape:=⟨124,[(2,.bool)],[],[],[]⟩
noncomputable def l86_3:LSum:=⟨9,86,s86_3,0,o86_3,q86_3,u86_3,false,none,none,[]⟩
noncomputable def con86:Con:=⟨[eT0],[.val .bool],fun x=>f86 x.1.1.1.1 x.1.1.1.2 x.1.1.2.1.1 x.1.1.2.1.2 x.1.1.2.2.1 x.1.1.2.2.2.1 x.1.1.2.2.2.2.1 x.1.1.2.2.2.2.2 x.1.2.1.1 x.1.2.1.2.1 x.1.2.1.2.2.1 x.1.2.1.2.2.2 x.1.2.2.1 x.1.2.2.2.1 x.1.2.2.2.2.1 x.1.2.2.2.2.2⟩
theorem k86:con86.OK Tryz.prog 86:=con_of_tree (n:=10) (lf:=big) (lookC_ok (l:=[(130,con130),(131,con131),(132,con132),(133,con133)]) (u:=[]) (z:=[]) ⟨k130,k131,k132,k133,trivial⟩ trivial) (rounds_of (l:=[(kN0,3,l86_3)]) ⟨⟨by kernel_rfl,fun z=>by kernel_rfl⟩,trivial⟩) fun x=>by kernel_rfl
noncomputable def con157:Con:=⟨[eT4],[.val (.pair (.pair .i .i) eT4)],fun x=>f157 x.1.1 x.1.2.1 x.1.2.2.1 x.1.2.2.2.1 x.1.2.2.2.2⟩
theorem k157:con157.OK Tryz.prog 157:=con_of_tree (n:=10) (lf:=big) (lookC_ok (l:=[]) (u:=[]) (z:=[]) trivial trivial) (rounds_of (l:=[]) trivial) fun x=>by kernel_rfl
noncomputable def con152:Con:=⟨[eT4],[.val (.pair .i .i)],fun x=>f152 x.1.1 x.1.2.1 x.1.2.2.1 x.1.2.2.2.1 x.1.2.2.2.2⟩
theorem k152:con152.OK Tryz.prog 152:=con_of_tree (n:=10) (lf:=big) (lookC_ok (l:=[(157,con157)]) (u:=[]) (z:=[]) ⟨k157,trivial⟩ trivial) (rounds_of (l:=[]) trivial) fun x=>by kernel_rfl
abbrev s134_88_2_0:LShape:=⟨19,[kK10,(1,.fix (.fn (.func 156) [] [(.ptr n1 0),(.ptr n2 0)])),(7,.i),(8,.i)],kL0,[],[]⟩
abbrev o134_88_2_0:LShape:=⟨19,[],kL0,[],[]⟩
abbrev q134_88_2_0:LShape:=⟨19,[(4,.i)],kL0,[],[]⟩
noncomputable def l134_88_2_0:LSum:=⟨7,88,s134_88_2_0,0,o134_88_2_0,q134_88_2_0,u134_88_2_0,false,none,none,[]⟩
noncomputable def con134:Con:=⟨[(.row eT4),.i,.i],[.val .i],fun x=>f134 x.1 x.2.1 x.2.2.1⟩
theorem k134:con134.OK Tryz.prog 134:=con_of_tree (n:=10) (lf:=big) (lookC_ok (l:=[(152,con152)]) (u:=[]) (z:=[]) ⟨k152,trivial⟩ trivial) (rounds_of (l:=[(79228239271166446032908189696,2,l134_88_2_0)]) ⟨⟨by kernel_rfl,fun z=>by kernel_rfl⟩,trivial⟩) fun x=>by kernel_rfl
abbrev s87_2:LShape:=⟨74,[kK0,(8,.cont eT2),(9,.i),(10,.i)],[],[kO0],[]⟩
abbrev o87_2:LShape:=⟨74,[],[],[],[]⟩
abbrev q87_2:LShape:=⟨74,[(2,.bool)],[],[],[]⟩
noncomputable def l87_2:LSum:=⟨9,87,s87_2,0,o87_2,q87_2,u87_2,false,none,none,[]⟩
noncomputable def con87:Con:=⟨[eT0],[.val .bool],fun x=>f87 x.1.1.1.1 x.1.1.1.2 x.1.1.2.1.1 x.1.1.2.1.2 x.1.1.2.2.1 x.1.1.2.2.2.1 x.1.1.2.2.2.2.1 x.1.1.2.2.2.2.2 x.1.2.1.1 x.1.2.1.2.1 x.1.2.1.2.2.1 x.1.2.1.2.2.2 x.1.2.2.1 x.1.2.2.2.1 x.1.2.2.2.2.1 x.1.2.2.2.2.2⟩
theorem k87:con87.OK Tryz.prog 87:=con_of_tree (n:=10) (lf:=big) (lookC_ok (l:=[(83,con83),(131,con131),(133,con133),(134,con134)]) (u:=[]) (z:=[]) ⟨k83,k131,k133,k134,trivial⟩ trivial) (rounds_of (l:=[(kN0,2,l87_2)]) ⟨⟨by kernel_rfl,fun z=>by kernel_rfl⟩,trivial⟩) fun x=>by kernel_rfl
noncomputable def con48:Con:=⟨[eT0],[.val .bool],fun x=>f48 x.1.1.1.1 x.1.1.1.2 x.1.1.2.1.1 x.1.1.2.1.2 x.1.1.2.2.1 x.1.1.2.2.2.1 x.1.1.2.2.2.2.1 x.1.1.2.2.2.2.2 x.1.2.1.1 x.1.2.1.2.1 x.1.2.1.2.2.1 x.1.2.1.2.2.2 x.1.2.2.1 x.1.2.2.2.1 x.1.2.2.2.2.1 x.1.2.2.2.2.2⟩
theorem k48:con48.OK Tryz.prog 48:=con_of_tree (n:=10) (lf:=big) (lookC_ok (l:=[(81,con81),(82,con82),(83,con83),(84,con84),(85,con85),(86,con86),(87,con87)]) (u:=[]) (z:=[]) ⟨k81,k82,k83,k84,k85,k86,k87,trivial⟩ trivial) (rounds_of (l:=[]) trivial) fun x=>by kernel_rfl
noncomputable def con65:Con:=⟨[eT5],[.val (.pair eT5 (.pair eT5 (.pair eT5 (.pair eT5 eT5)))),.val .bool],fun x=>f65 x.1⟩
theorem k65:con65.OK Tryz.prog 65:=con_of_tree (n:=10) (lf:=big) (lookC_ok (l:=[(63,con63)]) (u:=[]) (z:=[]) ⟨k63,trivial⟩ trivial) (rounds_of (l:=[]) trivial) fun x=>by kernel_rfl
abbrev s66_142_1_0:LShape:=⟨26,[(0,.fix (.yld 4294991872)),(1,.fix (.ptr n3 0)),(3,.i)],[(kN3,.box 57 [.fix (.sl 18446849639415752768 0)]),kO8,kO9,kO12],[],[⟨.c kN3 0,18446849639415752768,3,.i⟩]⟩
abbrev o66_142_1_0:LShape:=⟨26,[],[(kN3,.box 57 [.fix (.sl 18446849639415752800 0)]),kO8,kO9,kO12],[],[⟨.c kN3 0,18446849639415752800,3,.i⟩]⟩
abbrev q66_142_1_0:LShape:=⟨26,[],[(kN3,.box 57 [.fix (.sl 18446849639415752816 0)]),kO8,kO9,(4294991872,.loop 66 6 (.done (.exit 0)) [.fix .junk,.fix .junk,.fix .junk,.fix .junk,.fix (.ptr kN3 0),.fix (.ptr 4294975488 0),.fix (.lit (.tuple #[])),.fix (.lit (.tuple #[])),.fix .junk,.fix .junk,.fix (.lit (.tuple #[])),.fix (.lit (.tuple #[])),.fix (.lit (.tuple #[])),.fix (.lit (.tuple #[])),.fix (.lit (.tuple #[])),.fix (.lit (.tuple #[])),.fix (.lit (.tuple #[])),.fix (.lit (.tuple #[])),.fix (.lit (.tuple #[])),.fix (.lit (.tuple #[])),.fix (.lit (.tuple #[])),.fix (.lit (.tuple #[])),.fix (.lit (.tuple #[])),.fix .junk,.fix .junk,.fix .junk])],[],[⟨.c kN3 0,18446849639415752816,3,.i⟩]⟩
noncomputable def l66_142_1_0:LSum:=⟨8,142,s66_142_1_0,0,o66_142_1_0,q66_142_1_0,u66_142_1_0,false,none,none,[]⟩
noncomputable def con66:Con:=⟨[eT5],[.val (.row .i),.val .bool],fun x=>f66 x.1⟩
theorem k66:con66.OK Tryz.prog 66:=con_of_tree (n:=10) (lf:=big) (lookC_ok (l:=[(63,con63)]) (u:=[]) (z:=[]) ⟨k63,trivial⟩ trivial) (rounds_of (l:=[(18446849635415752704,1,l66_142_1_0)]) ⟨⟨by kernel_rfl,fun z=>by kernel_rfl⟩,trivial⟩) fun x=>by kernel_rfl
noncomputable def con91:Con:=⟨[.i,.i],[.val .i],fun x=>f91 x.1 x.2.1⟩
theorem k91:con91.OK Tryz.prog 91:=con_of_tree (n:=10) (lf:=big) (lookC_ok (l:=[]) (u:=[]) (z:=[]) trivial trivial) (rounds_of (l:=[]) trivial) fun x=>by kernel_rfl
abbrev s68_7:LShape:=⟨54,kL1,[],[],[⟨.t 8,8294967744,3,.i⟩]⟩
abbrev s68_8:LShape:=⟨54,kL1,[],[],[⟨.t 8,8294967808,3,.i⟩]⟩
abbrev o68_8:LShape:=⟨54,kL1,[],[],[⟨.t 8,8294967840,3,.i⟩]⟩
abbrev q68_8:LShape:=⟨54,[],[],[],[]⟩
noncomputable def l68_8:LSum:=⟨9,68,s68_8,1000000007,o68_8,q68_8,u68_8,false,(some 0),none,[]⟩
abbrev o68_7:LShape:=⟨54,[kK1],[],[],[⟨.t 8,8294967776,3,.i⟩]⟩
abbrev q68_7:LShape:=⟨54,[],[],[],[]⟩
noncomputable def l68_7:LSum:=⟨9,68,s68_7,0,o68_7,q68_7,u68_7,false,none,none,[]⟩
noncomputable def con68:Con:=⟨[eT5,.i,.i],[.val (.row .i),.val .bool],fun x=>f68 x.1 x.2.1 x.2.2.1⟩
theorem k68:con68.OK Tryz.prog 68:=con_of_tree (n:=10) (lf:=big) (lookC_ok (l:=[(91,con91)]) (u:=[]) (z:=[]) ⟨k91,trivial⟩ trivial) (rounds_of (l:=[(kN0,8,l68_8),(kN0,7,l68_7)]) ⟨⟨by kernel_rfl,fun z=>by kernel_rfl⟩,⟨by kernel_rfl,fun z=>by kernel_rfl⟩,trivial⟩) fun x=>by kernel_rfl
noncomputable def con96:Con:=⟨[.i],[.val .bool],fun x=>f96 x.1⟩
theorem k96:con96.OK Tryz.prog 96:=con_of_tree (n:=10) (lf:=big) (lookC_ok (l:=[]) (u:=[]) (z:=[]) trivial trivial) (rounds_of (l:=[]) trivial) fun x=>by kernel_rfl
noncomputable def con113:Con:=⟨[.i],[.val .i],fun x=>f113 x.1⟩
theorem k113:con113.OK Tryz.prog 113:=con_of_tree (n:=10) (lf:=big) (lookC_ok (l:=[]) (u:=[]) (z:=[]) trivial trivial) (rounds_of (l:=[]) trivial) fun x=>by kernel_rfl
abbrev s69_8:LShape:=⟨36,[(4,.cont .i),(6,.fix (.ptr 4294983680 0)),(7,.fix (.fn (.func 112) [] [(.ptr 4294983680 0)])),(19,.i),(20,.i)],[],[(4294983680,.box 3 [.i])],[⟨.t 8,8294967808,3,.i⟩]⟩
abbrev o69_8:LShape:=⟨36,[],[],[],[⟨.t 8,8294967840,3,.i⟩]⟩
abbrev q69_8:LShape:=⟨36,[(3,.bool)],[],[],[⟨.t 2,8294967856,3,.i⟩]⟩
noncomputable def l69_8:LSum:=⟨9,69,s69_8,0,o69_8,q69_8,u69_8,false,none,none,[]⟩
noncomputable def con69:Con:=⟨[eT5],[.val (.row .i),.val .bool],fun x=>f69 x.1⟩
theorem k69:con69.OK Tryz.prog 69:=con_of_tree (n:=10) (lf:=big) (lookC_ok (l:=[(66,con66),(96,con96),(113,con113)]) (u:=[]) (z:=[]) ⟨k66,k96,k113,trivial⟩ trivial) (rounds_of (l:=[(kN0,8,l69_8)]) ⟨⟨by kernel_rfl,fun z=>by kernel_rfl⟩,trivial⟩) fun x=>by kernel_rfl
abbrev s32_111_1_0:LShape:=⟨31,[(0,.fix (.yld 4295000064)),(1,.fix (.ptr n4 0)),(2,.fix (.ptr n5 0)),(4,.i)],[(kN0,.box 37 [.i,.i,.i,.i,.i,.i,.i,.i,.i,.i,.i,.bool,.i,.fix (.sl 18446884823787841600 0),.fix (.sl 18446884823787841601 0),.fix (.sl 18446884823787841602 0)]),kO13,(kN1,.box 37 [.i,.i,.i,.i,.i,.i,.i,.i,.i,.i,.i,.bool,.i,.fix (.sl 18446884823787841603 0),.fix (.sl 18446884823787841604 0),.fix (.sl 18446884823787841605 0)]),(n4,.box 57 [.cont .i]),(n5,.box 3 [.i]),kO14],[],[⟨.c kN0 13,18446884823787841600,131,eT2⟩,⟨.c kN0 14,18446884823787841601,102,eT4⟩,⟨.c kN0 15,18446884823787841602,108,eT2⟩,⟨.c kN1 13,18446884823787841603,131,eT2⟩,⟨.c kN1 14,18446884823787841604,102,eT4⟩,⟨.c kN1 15,18446884823787841605,108,eT2⟩]⟩
abbrev o32_111_1_0:LShape:=⟨31,[],[(kN0,.box 37 [.i,.i,.i,.i,.i,.i,.i,.i,.i,.i,.i,.bool,.i,.fix (.sl 18446884823787841632 0),.fix (.sl 18446884823787841633 0),.fix (.sl 18446884823787841634 0)]),kO13,(kN1,.box 37 [.i,.i,.i,.i,.i,.i,.i,.i,.i,.i,.i,.bool,.i,.fix (.sl 18446884823787841635 0),.fix (.sl 18446884823787841636 0),.fix (.sl 18446884823787841637 0)]),(n4,.box 57 [.cont .i]),(n5,.box 3 [.i]),kO14],[],[⟨.c kN0 13,18446884823787841632,131,eT2⟩,⟨.c kN0 14,18446884823787841633,102,eT4⟩,⟨.c kN0 15,18446884823787841634,108,eT2⟩,⟨.c kN1 13,18446884823787841635,131,eT2⟩,⟨.c kN1 14,18446884823787841636,102,eT4⟩,⟨.c kN1 15,18446884823787841637,108,eT2⟩]⟩
abbrev q32_111_1_0:LShape:=⟨31,[],[(kN0,.gone),(4294971472,.gone),(kN1,.gone),(n4,.gone),(n5,.gone),(4295000064,.gone)],[],[]⟩
noncomputable def l32_111_1_0:LSum:=⟨8,111,s32_111_1_0,0,o32_111_1_0,q32_111_1_0,u32_111_1_0,false,none,none,[]⟩
abbrev s32_16:LShape:=⟨237,[kK6,kK7,(12,.cont .i),(14,.cont .i),(16,.cont .i),(182,.cont .i),(183,.i),(184,.i)],[],[(kN0,.box 37 [.i,.i,.i,.i,.i,.i,.i,.i,.i,.i,.i,.bool,.i,.fix (.sl 8294968320 0),.fix (.sl 8294968321 0),.fix (.sl 8294968322 0)]),(kN1,.box 37 [.i,.i,.i,.i,.i,.i,.i,.i,.i,.i,.i,.bool,.i,.fix (.sl 8294968323 0),.fix (.sl 8294968324 0),.fix (.sl 8294968325 0)])],[⟨.c kN0 13,8294968320,131,eT2⟩,⟨.c kN0 14,8294968321,102,eT4⟩,⟨.c kN0 15,8294968322,108,eT2⟩,⟨.c kN1 13,8294968323,131,eT2⟩,⟨.c kN1 14,8294968324,102,eT4⟩,⟨.c kN1 15,8294968325,108,eT2⟩]⟩
abbrev o32_16:LShape:=⟨237,[kK6,kK7,(14,.cont .i),(16,.cont .i)],[],[(kN0,.box 37 [.i,.i,.i,.i,.i,.i,.i,.i,.i,.i,.i,.bool,.i,.fix (.sl 8294968352 0),.fix (.sl 8294968353 0),.fix (.sl 8294968354 0)]),(kN1,.box 37 [.i,.i,.i,.i,.i,.i,.i,.i,.i,.i,.i,.bool,.i,.fix (.sl 8294968355 0),.fix (.sl 8294968356 0),.fix (.sl 8294968357 0)])],[⟨.c kN0 13,8294968352,131,eT2⟩,⟨.c kN0 14,8294968353,102,eT4⟩,⟨.c kN0 15,8294968354,108,eT2⟩,⟨.c kN1 13,8294968355,131,eT2⟩,⟨.c kN1 14,8294968356,102,eT4⟩,⟨.c kN1 15,8294968357,108,eT2⟩]⟩
abbrev q32_16:LShape:=⟨237,[],[],[],[]⟩
noncomputable def l32_16:LSum:=⟨9,32,s32_16,2,o32_16,q32_16,u32_16,false,none,none,[]⟩
abbrev s32_22:LShape:=⟨237,[kK6,kK7,(16,.cont .i),(210,.cont .i),(211,.i),(212,.i)],[],[(kN0,.box 37 [.i,.i,.i,.i,.i,.i,.i,.i,.i,.i,.i,.bool,.i,.fix (.sl 8294968704 0),.fix (.sl 8294968705 0),.fix (.sl 8294968706 0)]),(kN1,.box 37 [.i,.i,.i,.i,.i,.i,.i,.i,.i,.i,.i,.bool,.i,.fix (.sl 8294968707 0),.fix (.sl 8294968708 0),.fix (.sl 8294968709 0)])],[⟨.c kN0 13,8294968704,131,eT2⟩,⟨.c kN0 14,8294968705,102,eT4⟩,⟨.c kN0 15,8294968706,108,eT2⟩,⟨.c kN1 13,8294968707,131,eT2⟩,⟨.c kN1 14,8294968708,102,eT4⟩,⟨.c kN1 15,8294968709,108,eT2⟩]⟩
abbrev o32_22:LShape:=⟨237,[kK6,kK7],[],[(kN0,.box 37 [.i,.i,.i,.i,.i,.i,.i,.i,.i,.i,.i,.bool,.i,.fix (.sl 8294968736 0),.fix (.sl 8294968737 0),.fix (.sl 8294968738 0)]),(kN1,.box 37 [.i,.i,.i,.i,.i,.i,.i,.i,.i,.i,.i,.bool,.i,.fix (.sl 8294968739 0),.fix (.sl 8294968740 0),.fix (.sl 8294968741 0)])],[⟨.c kN0 13,8294968736,131,eT2⟩,⟨.c kN0 14,8294968737,102,eT4⟩,⟨.c kN0 15,8294968738,108,eT2⟩,⟨.c kN1 13,8294968739,131,eT2⟩,⟨.c kN1 14,8294968740,102,eT4⟩,⟨.c kN1 15,8294968741,108,eT2⟩]⟩
abbrev q32_22:LShape:=⟨237,[],[],[],[]⟩
noncomputable def l32_22:LSum:=⟨9,32,s32_22,4,o32_22,q32_22,u32_22,false,none,none,[]⟩
noncomputable def con32:Con:=⟨[eT5],[.val eT0,.val .bool],fun x=>f32 x.1⟩
theorem k32:con32.OK Tryz.prog 32:=con_of_tree (n:=10) (lf:=big) (lookC_ok (l:=[(48,con48),(65,con65),(66,con66),(68,con68),(69,con69)]) (u:=[]) (z:=[]) ⟨k48,k65,k66,k68,k69,trivial⟩ trivial) (rounds_of (l:=[(18446884819787841536,1,l32_111_1_0),(kN0,16,l32_16),(kN0,22,l32_22)]) ⟨⟨by kernel_rfl,fun z=>by kernel_rfl⟩,⟨by kernel_rfl,fun z=>by kernel_rfl⟩,⟨by kernel_rfl,fun z=>by kernel_rfl⟩,trivial⟩) fun x=>by kernel_rfl
noncomputable def con13:Con:=⟨[eT5],[.val eT0,.val .i,.val .bool],fun x=>f13 x.1⟩
theorem k13:con13.OK Tryz.prog 13:=con_of_tree (n:=10) (lf:=big) (lookC_ok (l:=[(31,con31),(32,con32)]) (u:=[]) (z:=[]) ⟨k31,k32,trivial⟩ trivial) (rounds_of (l:=[]) trivial) fun x=>by kernel_rfl
noncomputable def con36:Con:=⟨[eT1,eT1],[.val .bool],fun x=>f36 x.1.1 x.1.2.1 x.1.2.2 x.2.1.1 x.2.1.2.1 x.2.1.2.2⟩
theorem k36:con36.OK Tryz.prog 36:=con_of_tree (n:=10) (lf:=big) (lookC_ok (l:=[(37,con37)]) (u:=[]) (z:=[]) ⟨k37,trivial⟩ trivial) (rounds_of (l:=[]) trivial) fun x=>by kernel_rfl
abbrev s19_38_4_0:LShape:=⟨32,[(1,.cont eT1),(2,.fix (.fn (.func 36) [] [])),(15,.cont eT1),(16,.i),(17,.i)],[kO1,kO10],[],[]⟩
abbrev o19_38_4_0:LShape:=⟨32,[],[kO1,kO10],[],[]⟩
abbrev q19_38_4_0:LShape:=⟨32,[(6,.bool)],[kO1,kO10],[],[]⟩
noncomputable def l19_38_4_0:LSum:=⟨8,38,s19_38_4_0,0,o19_38_4_0,q19_38_4_0,u19_38_4_0,false,none,none,[]⟩
noncomputable def con19:Con:=⟨[eT3,eT3],[.val .bool],fun x=>f19 x.1.1 x.1.2 x.2.1.1 x.2.1.2⟩
theorem k19:con19.OK Tryz.prog 19:=con_of_tree (n:=10) (lf:=big) (lookC_ok (l:=[(36,con36)]) (u:=[]) (z:=[]) ⟨k36,trivial⟩ trivial) (rounds_of (l:=[(18446780018290851840,4,l19_38_4_0)]) ⟨⟨by kernel_rfl,fun z=>by kernel_rfl⟩,trivial⟩) fun x=>by kernel_rfl
noncomputable def con15:Con:=⟨[eT8,eT8],[.val .bool],fun x=>f15 x.1.1.1 x.1.1.2 x.1.2.1 x.1.2.2 x.2.1.1.1 x.2.1.1.2 x.2.1.2.1 x.2.1.2.2⟩
theorem k15:con15.OK Tryz.prog 15:=con_of_tree (n:=10) (lf:=big) (lookC_ok (l:=[(19,con19)]) (u:=[]) (z:=[]) ⟨k19,trivial⟩ trivial) (rounds_of (l:=[]) trivial) fun x=>by kernel_rfl
abbrev ps90:List Ty:=[.i]
noncomputable abbrev L90:List (Nat×Con):=[]
noncomputable abbrev U90:List (Nat×UCon):=[]
noncomputable abbrev C90:Cons:=lookC L90 U90
abbrev s90_1:LShape:=⟨20,[(1,.i)],[],[],[⟨.t 0,8294967360,5,eT9⟩]⟩
abbrev o90_1:LShape:=⟨20,[(1,.i)],[],[],[⟨.t 0,8294967392,5,eT9⟩]⟩
abbrev q90_1:LShape:=⟨20,[],[],[],[]⟩
noncomputable def l90_1:LSum:=⟨9,90,s90_1,0,o90_1,q90_1,u90_1,false,none,none,[]⟩
noncomputable abbrev S90:List (Nat×Nat×LSum):=[(kN0,1,l90_1)]
noncomputable def ucn90:UCon:=⟨5,.int .u8,ps90,false,fun zs x=>g90 zs x.1⟩
theorem r90_1:Round Tryz.prog C90 (lookS S90) big kN0 1 l90_1:=⟨by kernel_rfl,fun z=>by kernel_rfl⟩
theorem e90 (zs:List (Ty.T eT9))(x:Args ps90):kTopU Tryz.prog C90 (lookS S90) big 9 90 5 eT9 ps90 zs x=f90 zs x.1:=by kernel_rfl
theorem ok90 [Glob][RngG Tryz.prog](h:AllOK Tryz.prog L90)(h':AllU Tryz.prog U90):ucn90.OK Tryz.prog 90:=ucon_of_tree (e:=.int .u8) (f:=fun (zs:List (Ty.T eT9)) (x:Args ps90)=>f90 zs x.1) (lookC_ok h h') (rounds_of (l:=S90) ⟨r90_1,trivial⟩) rfl e90
theorem k90:ucn90.OK Tryz.prog 90:=ok90 trivial trivial
abbrev s55_90_1_0:LShape:=⟨20,[(1,.i)],[],[],[⟨.t 0,18446796927282128960,5,eT9⟩]⟩
abbrev o55_90_1_0:LShape:=⟨20,[(1,.i)],[],[],[⟨.t 0,18446796927282128992,5,eT9⟩]⟩
abbrev q55_90_1_0:LShape:=⟨20,[],[],[],[]⟩
noncomputable def l55_90_1_0:LSum:=⟨8,90,s55_90_1_0,0,o55_90_1_0,q55_90_1_0,u55_90_1_0,false,none,none,[]⟩
noncomputable def con55:Con:=⟨[.i],[.val eT5],fun x=>f55 x.1⟩
theorem k55:con55.OK Tryz.prog 55:=con_of_tree (n:=10) (lf:=big) (lookC_ok (l:=[(89,con89)]) (u:=[]) (z:=[]) ⟨k89,trivial⟩ trivial) (rounds_of (l:=[(n3,1,l55_90_1_0)]) ⟨⟨by kernel_rfl,fun z=>by kernel_rfl⟩,trivial⟩) fun x=>by kernel_rfl
abbrev s102_3:LShape:=⟨36,[(0,.cont eT5),(3,.i),(9,.cont eT5),(10,.i),(11,.i)],[],[],[]⟩
abbrev o102_3:LShape:=⟨36,[(0,.cont eT5),(3,.i)],[],[],[]⟩
abbrev q102_3:LShape:=⟨36,[],[],[],[]⟩
noncomputable def l102_3:LSum:=⟨9,102,s102_3,0,o102_3,q102_3,u102_3,false,none,none,[]⟩
abbrev s102_11:LShape:=⟨36,[(25,.cont eT5),(26,.i),(27,.i)],[],[],[⟨.t 6,8294968000,5,eT9⟩]⟩
abbrev o102_11:LShape:=⟨36,[],[],[],[⟨.t 6,8294968032,5,eT9⟩]⟩
abbrev q102_11:LShape:=⟨36,[],[],[],[]⟩
noncomputable def l102_11:LSum:=⟨9,102,s102_11,2,o102_11,q102_11,u102_11,false,none,none,[]⟩
noncomputable def con102:Con:=⟨[(.row eT5)],[.val eT5],fun x=>f102 x.1⟩
theorem k102:con102.OK Tryz.prog 102:=con_of_tree (n:=10) (lf:=big) (lookC_ok (l:=[(137,conGrow0)]) (u:=[]) (z:=[]) ⟨okGrow0,trivial⟩ trivial) (rounds_of (l:=[(kN0,3,l102_3),(kN0,11,l102_11)]) ⟨⟨by kernel_rfl,fun z=>by kernel_rfl⟩,⟨by kernel_rfl,fun z=>by kernel_rfl⟩,trivial⟩) fun x=>by kernel_rfl
noncomputable def con101:Con:=⟨[eT5],[.val eT5],fun x=>f101 x.1⟩
theorem k101:con101.OK Tryz.prog 101:=con_of_tree (n:=10) (lf:=big) (lookC_ok (l:=[(102,con102),(107,con107),(108,con108)]) (u:=[]) (z:=[kN6]) ⟨k102,k107,k108,trivial⟩ trivial) (rounds_of (l:=[]) trivial) fun x=>by kernel_rfl
noncomputable def con59:Con:=⟨[(.pair .i eT5)],[.val eT5,.val .bool],fun x=>f59 x.1.1 x.1.2⟩
theorem k59:con59.OK Tryz.prog 59:=con_of_tree (n:=10) (lf:=big) (lookC_ok (l:=[(55,con55),(101,con101),(102,con102)]) (u:=[]) (z:=[4294979632,4294979744]) ⟨k55,k101,k102,trivial⟩ trivial) (rounds_of (l:=[]) trivial) fun x=>by kernel_rfl
abbrev s39_3:LShape:=⟨28,[kK0,kK2,(10,.i),(11,.i)],[],[(kN0,.box 24 [.i,.fix (.sl 8294967488 0)]),(kN2,.box 24 [.i,.fix (.sl 8294967489 0)])],[⟨.c kN0 1,8294967488,46,eT1⟩,⟨.c kN2 1,8294967489,46,eT1⟩]⟩
abbrev o39_3:LShape:=⟨28,[kK0,kK2],[],[(kN0,.box 24 [.i,.fix (.sl 8294967520 0)]),(kN2,.box 24 [.i,.fix (.sl 8294967521 0)])],[⟨.c kN0 1,8294967520,46,eT1⟩,⟨.c kN2 1,8294967521,46,eT1⟩]⟩
abbrev q39_3:LShape:=⟨28,[],[],[],[]⟩
noncomputable def l39_3:LSum:=⟨9,39,s39_3,0,o39_3,q39_3,u39_3,false,none,none,[]⟩
noncomputable def con39:Con:=⟨[eT3],[.pair (.val .i) (.own 46 eT1)],fun x=>f39 x.1.1 x.1.2⟩
theorem k39:con39.OK Tryz.prog 39:=con_of_tree (n:=10) (lf:=big) (lookC_ok (l:=[(76,conCFile),(77,conCByte)]) (u:=[]) (z:=[]) ⟨okCFile,okCByte,trivial⟩ trivial) (rounds_of (l:=[(kN0,3,l39_3)]) ⟨⟨by kernel_rfl,fun z=>by kernel_rfl⟩,trivial⟩) fun x=>by kernel_rfl
abbrev s1039_3:LShape:=⟨28,[kK0,kK2,(10,.i),(11,.i)],[],[kO15,(kN4,.ldrow 46 5 0),(kN2,.box 24 [.i,.fix (.sl 8294967488 0)])],[kR0]⟩
abbrev o1039_3:LShape:=⟨28,[kK0,kK2],[],[kO15,(kN4,.ldrow 46 5 0),(kN2,.box 24 [.i,.fix (.sl 8294967520 0)])],[kR1]⟩
abbrev q1039_3:LShape:=⟨28,[],[],[],[]⟩
noncomputable def l1039_3:LSum:=⟨9,39,s1039_3,0,o1039_3,q1039_3,u1039_3,false,none,none,[]⟩
noncomputable def con1039:Con:=⟨[DiskT],[.pair (.val .i) (.deep 46 5 false)],fun x=>f1039 x.1.1 x.1.2⟩
theorem k1039:con1039.OK Tryz.prog 39:=con_of_tree (n:=10) (lf:=big) (lookC_ok (l:=[(76,conCFileL)]) (u:=[(77,uCopy)]) (z:=[]) ⟨okCFileL,trivial⟩ ⟨okUCopy,trivial⟩) (rounds_of (l:=[(kN0,3,l1039_3)]) ⟨⟨by kernel_rfl,fun z=>by kernel_rfl⟩,trivial⟩) fun x=>by kernel_rfl
abbrev s58_99_2_0:LShape:=⟨26,[(1,.fix (.fn (.func 100) [] [(.ptr kN0 0),(.ptr kN2 0)])),(5,.i),(6,.i)],[kO1,(kN2,.box 3 [.i])],[],[]⟩
abbrev o58_99_2_0:LShape:=⟨26,[(5,.i)],[kO1,(kN2,.box 3 [.i])],[],[]⟩
abbrev q58_99_2_0:LShape:=⟨26,[],[(kN0,.gone),(kN2,.gone)],[],[]⟩
noncomputable def l58_99_2_0:LSum:=⟨8,99,s58_99_2_0,0,o58_99_2_0,q58_99_2_0,u58_99_2_0,false,none,none,[]⟩
noncomputable def con58:Con:=⟨[eT3,.i],[.val .i],fun x=>f58 x.1.1 x.1.2 x.2.1⟩
theorem k58:con58.OK Tryz.prog 58:=con_of_tree (n:=10) (lf:=big) (lookC_ok (l:=[]) (u:=[]) (z:=[]) trivial trivial) (rounds_of (l:=[(n2,2,l58_99_2_0)]) ⟨⟨by kernel_rfl,fun z=>by kernel_rfl⟩,trivial⟩) fun x=>by kernel_rfl
noncomputable def con56:Con:=⟨[eT3,.i],[.val .i],fun x=>f56 x.1.1 x.1.2 x.2.1⟩
theorem k56:con56.OK Tryz.prog 56:=con_of_tree (n:=10) (lf:=big) (lookC_ok (l:=[(26,con26),(58,con58)]) (u:=[]) (z:=[]) ⟨k26,k58,trivial⟩ trivial) (rounds_of (l:=[]) trivial) fun x=>by kernel_rfl
noncomputable def con103:Con:=⟨[eT3,.i,eT5],[.val eT3,.val .i],fun x=>f103 x.1.1 x.1.2 x.2.1 x.2.2.1⟩
theorem k103:con103.OK Tryz.prog 103:=con_of_tree (n:=10) (lf:=big) (lookC_ok (l:=[(26,con26),(39,con1039),(46,con46),(56,con56)]) (u:=[]) (z:=[]) ⟨k26,k1039,k46,k56,trivial⟩ trivial) (rounds_of (l:=[]) trivial) fun x=>by kernel_rfl
noncomputable def con60:Con:=⟨[(.one eT5),eT3,.i],[.val eT3,.val .i],fun x=>f60 x.1 x.2.1.1 x.2.1.2 x.2.2.1⟩
theorem k60:con60.OK Tryz.prog 60:=con_of_tree (n:=10) (lf:=big) (lookC_ok (l:=[(103,con103)]) (u:=[]) (z:=[]) ⟨k103,trivial⟩ trivial) (rounds_of (l:=[]) trivial) fun x=>by kernel_rfl
noncomputable def con61:Con:=⟨[eT3,.i],[.val eT3,.val .i],fun x=>f61 x.1.1 x.1.2 x.2.1⟩
theorem k61:con61.OK Tryz.prog 61:=con_of_tree (n:=10) (lf:=big) (lookC_ok (l:=[(26,con26),(39,con39),(56,con56)]) (u:=[]) (z:=[]) ⟨k26,k39,k56,trivial⟩ trivial) (rounds_of (l:=[]) trivial) fun x=>by kernel_rfl
abbrev s33_3:LShape:=⟨32,[kK0,kK2,(3,.fix (.ptr kN6 0)),(12,.cont eT1),(13,.i),(14,.i)],[],[kO16,(kN2,.box 26 [.i,.fix (.sl 8294967488 0),.i,.i]),(kN6,.box 24 [.i,.fix (.sl 8294967489 0)])],[kR0,⟨.c kN6 1,8294967489,46,eT1⟩]⟩
abbrev o33_3:LShape:=⟨32,[kK0,kK2,(3,.fix (.ptr kN6 0))],[],[kO16,(kN2,.box 26 [.i,.fix (.sl 8294967520 0),.i,.i]),(kN6,.box 24 [.i,.fix (.sl 8294967521 0)])],[kR1,⟨.c kN6 1,8294967521,46,eT1⟩]⟩
abbrev q33_3:LShape:=⟨32,[],[],[],[]⟩
noncomputable def l33_3:LSum:=⟨9,33,s33_3,0,o33_3,q33_3,u33_3,false,none,none,[]⟩
noncomputable def con33:Con:=⟨[eT8],[.val eT8],fun x=>f33 x.1.1.1 x.1.1.2 x.1.2.1 x.1.2.2⟩
theorem k33:con33.OK Tryz.prog 33:=con_of_tree (n:=10) (lf:=big) (lookC_ok (l:=[]) (u:=[]) (z:=[4294987808,4294991920]) trivial trivial) (rounds_of (l:=[(kN0,3,l33_3)]) ⟨⟨by kernel_rfl,fun z=>by kernel_rfl⟩,trivial⟩) fun x=>by kernel_rfl
abbrev s51_5:LShape:=⟨24,[(10,.cont .i),(11,.i),(12,.i)],[],[],[⟨.t 4,8294967616,5,eT9⟩]⟩
abbrev o51_5:LShape:=⟨24,[],[],[],[⟨.t 4,8294967648,5,eT9⟩]⟩
abbrev q51_5:LShape:=⟨24,[(3,.bool)],[],[],[⟨.t 2,8294967664,5,eT9⟩]⟩
noncomputable def l51_5:LSum:=⟨9,51,s51_5,0,o51_5,q51_5,u51_5,false,none,none,[]⟩
noncomputable def con51:Con:=⟨[(.row .i)],[.own 5 eT9,.val .bool],fun x=>f51 x.1⟩
theorem k51:con51.OK Tryz.prog 51:=con_of_tree (n:=10) (lf:=big) (lookC_ok (l:=[(89,con89)]) (u:=[(90,ucn90)]) (z:=[]) ⟨k89,trivial⟩ ⟨k90,trivial⟩) (rounds_of (l:=[(kN0,5,l51_5)]) ⟨⟨by kernel_rfl,fun z=>by kernel_rfl⟩,trivial⟩) fun x=>by kernel_rfl
noncomputable def con73:Con:=⟨[.i,.i,.i],[.val .bool],fun x=>f73 x.1 x.2.1 x.2.2.1⟩
theorem k73:con73.OK Tryz.prog 73:=con_of_tree (n:=10) (lf:=big) (lookC_ok (l:=[]) (u:=[]) (z:=[]) trivial trivial) (rounds_of (l:=[]) trivial) fun x=>by kernel_rfl
noncomputable def con74:Con:=⟨[eT7],[.val .bool],fun x=>f74 x.1.1 x.1.2.1 x.1.2.2.1 x.1.2.2.2.1 x.1.2.2.2.2.1 x.1.2.2.2.2.2.1 x.1.2.2.2.2.2.2.1 x.1.2.2.2.2.2.2.2.1 x.1.2.2.2.2.2.2.2.2⟩
theorem k74:con74.OK Tryz.prog 74:=con_of_tree (n:=10) (lf:=big) (lookC_ok (l:=[(73,con73),(82,con82)]) (u:=[]) (z:=[]) ⟨k73,k82,trivial⟩ trivial) (rounds_of (l:=[]) trivial) fun x=>by kernel_rfl
noncomputable def con75:Con:=⟨[eT7],[.val (.row .i)],fun x=>f75 x.1.1 x.1.2.1 x.1.2.2.1 x.1.2.2.2.1 x.1.2.2.2.2.1 x.1.2.2.2.2.2.1 x.1.2.2.2.2.2.2.1 x.1.2.2.2.2.2.2.2.1 x.1.2.2.2.2.2.2.2.2⟩
theorem k75:con75.OK Tryz.prog 75:=con_of_tree (n:=10) (lf:=big) (lookC_ok (l:=[]) (u:=[]) (z:=[]) trivial trivial) (rounds_of (l:=[]) trivial) fun x=>by kernel_rfl
abbrev s35_5:LShape:=⟨48,[(0,.i),(12,.cont eT7),(13,.i),(14,.i)],[],[],[⟨.t 6,8294967616,3,.i⟩]⟩
abbrev o35_5:LShape:=⟨48,[],[],[],[⟨.t 6,8294967648,3,.i⟩]⟩
abbrev q35_5:LShape:=⟨48,[(5,.bool)],[],[],[⟨.t 4,8294967664,5,eT9⟩]⟩
noncomputable def l35_5:LSum:=⟨9,35,s35_5,0,o35_5,q35_5,u35_5,false,none,none,[]⟩
noncomputable def con35:Con:=⟨[.i,(.row eT7)],[.val eT5,.val .bool],fun x=>f35 x.1 x.2.1⟩
theorem k35:con35.OK Tryz.prog 35:=con_of_tree (n:=10) (lf:=big) (lookC_ok (l:=[(51,con51),(73,con73),(74,con74),(75,con75)]) (u:=[]) (z:=[]) ⟨k51,k73,k74,k75,trivial⟩ trivial) (rounds_of (l:=[(kN0,5,l35_5)]) ⟨⟨by kernel_rfl,fun z=>by kernel_rfl⟩,trivial⟩) fun x=>by kernel_rfl
noncomputable def con17:Con:=⟨[eT8,(.row eT7)],[.val eT8,.val .i],fun x=>f17 x.1.1.1 x.1.1.2 x.1.2.1 x.1.2.2 x.2.1⟩
theorem k17:con17.OK Tryz.prog 17:=con_of_tree (n:=10) (lf:=big) (lookC_ok (l:=[(11,con11),(33,con33),(35,con35),(59,con59),(60,con60),(61,con61)]) (u:=[]) (z:=[]) ⟨k11,k33,k35,k59,k60,k61,trivial⟩ trivial) (rounds_of (l:=[]) trivial) fun x=>by kernel_rfl
noncomputable def con50:Con:=⟨[.i,.i],[.val .i],fun x=>f50 x.1 x.2.1⟩
theorem k50:con50.OK Tryz.prog 50:=con_of_tree (n:=10) (lf:=big) (lookC_ok (l:=[]) (u:=[]) (z:=[]) trivial trivial) (rounds_of (l:=[]) trivial) fun x=>by kernel_rfl
abbrev s52_6:LShape:=⟨69,[(52,.cont eT2),(53,.i),(54,.i)],[],[],[⟨.t 5,8294967680,3,.i⟩]⟩
abbrev o52_6:LShape:=⟨69,[],[],[],[⟨.t 5,8294967712,3,.i⟩]⟩
abbrev q52_6:LShape:=⟨69,[],[],[],[]⟩
noncomputable def l52_6:LSum:=⟨9,52,s52_6,0,o52_6,q52_6,u52_6,false,none,none,[]⟩
noncomputable def con52:Con:=⟨[eT0],[.own 3 .i],fun x=>f52 x.1.1.1.1 x.1.1.1.2 x.1.1.2.1.1 x.1.1.2.1.2 x.1.1.2.2.1 x.1.1.2.2.2.1 x.1.1.2.2.2.2.1 x.1.1.2.2.2.2.2 x.1.2.1.1 x.1.2.1.2.1 x.1.2.1.2.2.1 x.1.2.1.2.2.2 x.1.2.2.1 x.1.2.2.2.1 x.1.2.2.2.2.1 x.1.2.2.2.2.2⟩
theorem k52:con52.OK Tryz.prog 52:=con_of_tree (n:=10) (lf:=big) (lookC_ok (l:=[]) (u:=[]) (z:=[]) trivial trivial) (rounds_of (l:=[(kN0,6,l52_6)]) ⟨⟨by kernel_rfl,fun z=>by kernel_rfl⟩,trivial⟩) fun x=>by kernel_rfl
abbrev s53_135_2_0:LShape:=⟨19,[(0,.cont .i),(1,.fix (.fn (.func 92) [] [(.ptr kN0 0)])),(7,.i),(8,.i)],[kO2],[],[]⟩
abbrev o53_135_2_0:LShape:=⟨19,[],[kO2],[],[]⟩
abbrev q53_135_2_0:LShape:=⟨19,[(4,.i)],[kO2],[],[]⟩
noncomputable def l53_135_2_0:LSum:=⟨7,135,s53_135_2_0,0,o53_135_2_0,q53_135_2_0,u53_135_2_0,false,none,none,[]⟩
abbrev s53_9:LShape:=⟨62,kL2,[],[kO2],[⟨.t 8,8294967872,5,eT9⟩]⟩
abbrev s53_13:LShape:=⟨62,kL2,[],[kO2],[⟨.t 8,8294968128,5,eT9⟩]⟩
abbrev o53_13:LShape:=⟨62,kL2,[],[kO2],[⟨.t 8,8294968160,5,eT9⟩]⟩
abbrev q53_13:LShape:=⟨62,[],[],[],[]⟩
noncomputable def l53_13:LSum:=⟨9,53,s53_13,1000000007,o53_13,q53_13,u53_13,false,(some 0),none,[]⟩
abbrev o53_9:LShape:=⟨62,[kK1,(10,.i)],[],[],[⟨.t 8,8294967904,5,eT9⟩]⟩
abbrev q53_9:LShape:=⟨62,[],[],[],[]⟩
noncomputable def l53_9:LSum:=⟨9,53,s53_9,0,o53_9,q53_9,u53_9,false,none,none,[]⟩
noncomputable def con53:Con:=⟨[(.row .i),.i],[.own 5 eT9,.val .bool],fun x=>f53 x.1 x.2.1⟩
theorem k53:con53.OK Tryz.prog 53:=con_of_tree (n:=10) (lf:=big) (lookC_ok (l:=[(91,con91)]) (u:=[]) (z:=[]) ⟨k91,trivial⟩ trivial) (rounds_of (l:=[(79228390682041803040907853824,2,l53_135_2_0),(kN0,13,l53_13),(kN0,9,l53_9)]) ⟨⟨by kernel_rfl,fun z=>by kernel_rfl⟩,⟨by kernel_rfl,fun z=>by kernel_rfl⟩,⟨by kernel_rfl,fun z=>by kernel_rfl⟩,trivial⟩) fun x=>by kernel_rfl
noncomputable def con95:Con:=⟨[.i],[.val .i],fun x=>f95 x.1⟩
theorem k95:con95.OK Tryz.prog 95:=con_of_tree (n:=10) (lf:=big) (lookC_ok (l:=[]) (u:=[]) (z:=[]) trivial trivial) (rounds_of (l:=[]) trivial) fun x=>by kernel_rfl
abbrev s54_5:LShape:=⟨37,[(0,.cont .i),(5,.fix (.fn (.func 94) [] [(.ptr kN3 0)])),(13,.i),(14,.i)],[],[(kN3,.box 3 [.i])],[⟨.t 6,8294967616,3,.i⟩]⟩
abbrev o54_5:LShape:=⟨37,[],[],[],[⟨.t 6,8294967648,3,.i⟩]⟩
abbrev q54_5:LShape:=⟨37,[(3,.bool)],[],[],[⟨.t 2,8294967664,5,eT9⟩]⟩
noncomputable def l54_5:LSum:=⟨9,54,s54_5,0,o54_5,q54_5,u54_5,false,none,none,[]⟩
noncomputable def con54:Con:=⟨[(.row .i)],[.own 5 eT9,.val .bool],fun x=>f54 x.1⟩
theorem k54:con54.OK Tryz.prog 54:=con_of_tree (n:=10) (lf:=big) (lookC_ok (l:=[(51,con51),(95,con95),(96,con96)]) (u:=[]) (z:=[]) ⟨k51,k95,k96,trivial⟩ trivial) (rounds_of (l:=[(kN0,5,l54_5)]) ⟨⟨by kernel_rfl,fun z=>by kernel_rfl⟩,trivial⟩) fun x=>by kernel_rfl
abbrev s27_88_2_0:LShape:=⟨19,[kK10,(1,.fix (.fn (.func 47) [] [(.ptr kN0 0)])),(7,.i),(8,.i)],[kO0],[],[]⟩
abbrev o27_88_2_0:LShape:=⟨19,[],[kO0],[],[]⟩
abbrev q27_88_2_0:LShape:=⟨19,[(4,.i)],[kO0],[],[]⟩
noncomputable def l27_88_2_0:LSum:=⟨7,88,s27_88_2_0,0,o27_88_2_0,q27_88_2_0,u27_88_2_0,false,none,none,[]⟩
abbrev s27_6:LShape:=⟨117,[kK0,(28,.cont eT4),(29,.i),(30,.i)],[],[kO0],[⟨.t 5,8294967680,3,.i⟩,⟨.t 6,8294967681,3,.i⟩,⟨.t 7,8294967682,3,.i⟩,⟨.t 8,8294967683,3,.i⟩]⟩
abbrev o27_6:LShape:=⟨117,[kK0],[],[kO0],[⟨.t 5,8294967712,3,.i⟩,⟨.t 6,8294967713,3,.i⟩,⟨.t 7,8294967714,3,.i⟩,⟨.t 8,8294967715,3,.i⟩]⟩
abbrev q27_6:LShape:=⟨117,[],[],[],[]⟩
noncomputable def l27_6:LSum:=⟨9,27,s27_6,0,o27_6,q27_6,u27_6,false,none,none,[]⟩
abbrev s27_11:LShape:=⟨117,[kK0,(53,.cont eT2),(54,.i),(55,.i)],[],[kO0],[⟨.t 5,8294968000,3,.i⟩,⟨.t 6,8294968001,3,.i⟩,⟨.t 7,8294968002,3,.i⟩,⟨.t 8,8294968003,3,.i⟩]⟩
abbrev o27_11:LShape:=⟨117,[kK0],[],[kO0],[⟨.t 5,8294968032,3,.i⟩,⟨.t 6,8294968033,3,.i⟩,⟨.t 7,8294968034,3,.i⟩,⟨.t 8,8294968035,3,.i⟩]⟩
abbrev q27_11:LShape:=⟨117,[],[],[],[]⟩
noncomputable def l27_11:LSum:=⟨9,27,s27_11,2,o27_11,q27_11,u27_11,false,none,none,[]⟩
noncomputable def con27:Con:=⟨[eT0],[.val eT5,.val .bool],fun x=>f27 x.1.1.1.1 x.1.1.1.2 x.1.1.2.1.1 x.1.1.2.1.2 x.1.1.2.2.1 x.1.1.2.2.2.1 x.1.1.2.2.2.2.1 x.1.1.2.2.2.2.2 x.1.2.1.1 x.1.2.1.2.1 x.1.2.1.2.2.1 x.1.2.1.2.2.2 x.1.2.2.1 x.1.2.2.2.1 x.1.2.2.2.2.1 x.1.2.2.2.2.2⟩
theorem k27:con27.OK Tryz.prog 27:=con_of_tree (n:=10) (lf:=big) (lookC_ok (l:=[(48,con48),(50,con50),(51,con51),(52,con52),(53,con53),(54,con54),(55,con55)]) (u:=[]) (z:=[]) ⟨k48,k50,k51,k52,k53,k54,k55,trivial⟩ trivial) (rounds_of (l:=[(79228315714473887485290086400,2,l27_88_2_0),(kN0,6,l27_6),(kN0,11,l27_11)]) ⟨⟨by kernel_rfl,fun z=>by kernel_rfl⟩,⟨by kernel_rfl,fun z=>by kernel_rfl⟩,⟨by kernel_rfl,fun z=>by kernel_rfl⟩,trivial⟩) fun x=>by kernel_rfl
noncomputable def con29:Con:=⟨[eT3,.i],[.val eT3,.val .i],fun x=>f29 x.1.1 x.1.2 x.2.1⟩
theorem k29:con29.OK Tryz.prog 29:=con_of_tree (n:=10) (lf:=big) (lookC_ok (l:=[(26,con26),(39,con39),(56,con56),(58,con58)]) (u:=[(57,uIFile)]) (z:=[4295008368]) ⟨k26,k39,k56,k58,trivial⟩ ⟨okIFile,trivial⟩) (rounds_of (l:=[]) trivial) fun x=>by kernel_rfl
noncomputable def con12:Con:=⟨[eT3,eT0],[.val eT8,.val .i],fun x=>f12 x.1.1 x.1.2 x.2.1.1.1.1 x.2.1.1.1.2 x.2.1.1.2.1.1 x.2.1.1.2.1.2 x.2.1.1.2.2.1 x.2.1.1.2.2.2.1 x.2.1.1.2.2.2.2.1 x.2.1.1.2.2.2.2.2 x.2.1.2.1.1 x.2.1.2.1.2.1 x.2.1.2.1.2.2.1 x.2.1.2.1.2.2.2 x.2.1.2.2.1 x.2.1.2.2.2.1 x.2.1.2.2.2.2.1 x.2.1.2.2.2.2.2⟩
theorem k12:con12.OK Tryz.prog 12:=con_of_tree (n:=10) (lf:=big) (lookC_ok (l:=[(25,con25),(26,con26),(27,con27),(29,con29),(59,con59),(60,con60),(61,con61)]) (u:=[]) (z:=[]) ⟨k25,k26,k27,k29,k59,k60,k61,trivial⟩ trivial) (rounds_of (l:=[]) trivial) fun x=>by kernel_rfl
noncomputable def con18:Con:=⟨[.i],[.val eT3,.val .bool],fun x=>f18 x.1⟩
theorem k18:con18.OK Tryz.prog 18:=con_of_tree (n:=10) (lf:=big) (lookC_ok (l:=[(26,con26)]) (u:=[]) (z:=[]) ⟨k26,trivial⟩ trivial) (rounds_of (l:=[]) trivial) fun x=>by kernel_rfl
noncomputable def con41:Con:=⟨[eT6,(.pair .i (.pair .i (.pair .i .bool)))],[.val eT0,.val .bool],fun x=>f41 x.1.1.1 x.1.1.2 x.1.2.1.1 x.1.2.1.2 x.1.2.2.1 x.1.2.2.2.1 x.1.2.2.2.2.1 x.1.2.2.2.2.2 x.2.1.1 x.2.1.2.1 x.2.1.2.2.1 x.2.1.2.2.2⟩
theorem k41:con41.OK Tryz.prog 41:=con_of_tree (n:=10) (lf:=big) (lookC_ok (l:=[(48,con48)]) (u:=[]) (z:=[]) ⟨k48,trivial⟩ trivial) (rounds_of (l:=[]) trivial) fun x=>by kernel_rfl
noncomputable def con42:Con:=⟨[],[.val eT6],fun x=>f42 ⟩
theorem k42:con42.OK Tryz.prog 42:=con_of_tree (n:=10) (lf:=big) (lookC_ok (l:=[]) (u:=[]) (z:=[]) trivial trivial) (rounds_of (l:=[]) trivial) fun x=>by kernel_rfl
noncomputable def con21:Con:=⟨[],[.val eT8,.val eT0],fun x=>f21 ⟩
theorem k21:con21.OK Tryz.prog 21:=con_of_tree (n:=10) (lf:=big) (lookC_ok (l:=[(12,con12),(18,con18),(41,con41),(42,con42)]) (u:=[]) (z:=[]) ⟨k12,k18,k41,k42,trivial⟩ trivial) (rounds_of (l:=[]) trivial) fun x=>by kernel_rfl
abbrev s78_4:LShape:=⟨26,kL3,[],[],[]⟩
abbrev o78_4:LShape:=⟨26,[],[],[],[]⟩
abbrev q78_4:LShape:=⟨26,[(4,.bool)],[],[],[]⟩
noncomputable def l78_4:LSum:=⟨9,78,s78_4,0,o78_4,q78_4,u78_4,false,none,none,[]⟩
noncomputable def con78:Con:=⟨[eT10,eT10],[.val .bool],fun x=>f78 x.1 x.2.1⟩
theorem k78:con78.OK Tryz.prog 78:=con_of_tree (n:=10) (lf:=big) (lookC_ok (l:=[]) (u:=[]) (z:=[]) trivial trivial) (rounds_of (l:=[(kN0,4,l78_4)]) ⟨⟨by kernel_rfl,fun z=>by kernel_rfl⟩,trivial⟩) fun x=>by kernel_rfl
noncomputable def con43:Con:=⟨[eT10,eT10],[.val .bool],fun x=>f43 x.1 x.2.1⟩
theorem k43:con43.OK Tryz.prog 43:=con_of_tree (n:=10) (lf:=big) (lookC_ok (l:=[(78,con78)]) (u:=[]) (z:=[]) ⟨k78,trivial⟩ trivial) (rounds_of (l:=[]) trivial) fun x=>by kernel_rfl
abbrev s79_4:LShape:=⟨26,[kK10,(1,.cont eT4),(12,.i),(13,.i)],[],[],[]⟩
abbrev o79_4:LShape:=⟨26,[],[],[],[]⟩
abbrev q79_4:LShape:=⟨26,[(4,.bool)],[],[],[]⟩
noncomputable def l79_4:LSum:=⟨9,79,s79_4,0,o79_4,q79_4,u79_4,false,none,none,[]⟩
noncomputable def con79:Con:=⟨[(.row eT4),(.row eT4)],[.val .bool],fun x=>f79 x.1 x.2.1⟩
theorem k79:con79.OK Tryz.prog 79:=con_of_tree (n:=10) (lf:=big) (lookC_ok (l:=[]) (u:=[]) (z:=[]) trivial trivial) (rounds_of (l:=[(kN0,4,l79_4)]) ⟨⟨by kernel_rfl,fun z=>by kernel_rfl⟩,trivial⟩) fun x=>by kernel_rfl
noncomputable def con44:Con:=⟨[(.row eT4),(.row eT4)],[.val .bool],fun x=>f44 x.1 x.2.1⟩
theorem k44:con44.OK Tryz.prog 44:=con_of_tree (n:=10) (lf:=big) (lookC_ok (l:=[(79,con79)]) (u:=[]) (z:=[]) ⟨k79,trivial⟩ trivial) (rounds_of (l:=[]) trivial) fun x=>by kernel_rfl
abbrev s80_4:LShape:=⟨26,kL3,[],[],[]⟩
abbrev o80_4:LShape:=⟨26,[],[],[],[]⟩
abbrev q80_4:LShape:=⟨26,[(4,.bool)],[],[],[]⟩
noncomputable def l80_4:LSum:=⟨9,80,s80_4,0,o80_4,q80_4,u80_4,false,none,none,[]⟩
noncomputable def con80:Con:=⟨[eT10,eT10],[.val .bool],fun x=>f80 x.1 x.2.1⟩
theorem k80:con80.OK Tryz.prog 80:=con_of_tree (n:=10) (lf:=big) (lookC_ok (l:=[]) (u:=[]) (z:=[]) trivial trivial) (rounds_of (l:=[(kN0,4,l80_4)]) ⟨⟨by kernel_rfl,fun z=>by kernel_rfl⟩,trivial⟩) fun x=>by kernel_rfl
noncomputable def con45:Con:=⟨[eT10,eT10],[.val .bool],fun x=>f45 x.1 x.2.1⟩
theorem k45:con45.OK Tryz.prog 45:=con_of_tree (n:=10) (lf:=big) (lookC_ok (l:=[(80,con80)]) (u:=[]) (z:=[]) ⟨k80,trivial⟩ trivial) (rounds_of (l:=[]) trivial) fun x=>by kernel_rfl
noncomputable def con22:Con:=⟨[eT0,eT0],[.val .bool],fun x=>f22 x.1.1.1.1 x.1.1.1.2 x.1.1.2.1.1 x.1.1.2.1.2 x.1.1.2.2.1 x.1.1.2.2.2.1 x.1.1.2.2.2.2.1 x.1.1.2.2.2.2.2 x.1.2.1.1 x.1.2.1.2.1 x.1.2.1.2.2.1 x.1.2.1.2.2.2 x.1.2.2.1 x.1.2.2.2.1 x.1.2.2.2.2.1 x.1.2.2.2.2.2 x.2.1.1.1.1 x.2.1.1.1.2 x.2.1.1.2.1.1 x.2.1.1.2.1.2 x.2.1.1.2.2.1 x.2.1.1.2.2.2.1 x.2.1.1.2.2.2.2.1 x.2.1.1.2.2.2.2.2 x.2.1.2.1.1 x.2.1.2.1.2.1 x.2.1.2.1.2.2.1 x.2.1.2.1.2.2.2 x.2.1.2.2.1 x.2.1.2.2.2.1 x.2.1.2.2.2.2.1 x.2.1.2.2.2.2.2⟩
theorem k22:con22.OK Tryz.prog 22:=con_of_tree (n:=10) (lf:=big) (lookC_ok (l:=[(43,con43),(44,con44),(45,con45)]) (u:=[]) (z:=[]) ⟨k43,k44,k45,trivial⟩ trivial) (rounds_of (l:=[]) trivial) fun x=>by kernel_rfl
noncomputable def con8:Con:=⟨[],[.val .bool],fun x=>f8 ⟩
theorem k8:con8.OK Tryz.prog 8:=con_of_tree (n:=10) (lf:=big) (lookC_ok (l:=[(11,con11),(13,con13),(15,con15),(17,con17),(21,con21),(22,con22)]) (u:=[]) (z:=[4294975520]) ⟨k11,k13,k15,k17,k21,k22,trivial⟩ trivial) (rounds_of (l:=[]) trivial) fun x=>by kernel_rfl
abbrev s23_2:LShape:=⟨23,[kK0,(3,.i)],[],[kO1],[]⟩
abbrev o23_2:LShape:=⟨23,[kK0],[],[kO1],[]⟩
abbrev q23_2:LShape:=⟨23,[(2,.bool)],[],[],[]⟩
noncomputable def l23_2:LSum:=⟨9,23,s23_2,0,o23_2,q23_2,u23_2,false,none,none,[]⟩
noncomputable def con23:Con:=⟨[eT3],[.val .bool],fun x=>f23 x.1.1 x.1.2⟩
theorem k23:con23.OK Tryz.prog 23:=con_of_tree (n:=10) (lf:=big) (lookC_ok (l:=[]) (u:=[]) (z:=[]) trivial trivial) (rounds_of (l:=[(kN0,2,l23_2)]) ⟨⟨by kernel_rfl,fun z=>by kernel_rfl⟩,trivial⟩) fun x=>by kernel_rfl
noncomputable def con9:Con:=⟨[eT8],[.val .bool],fun x=>f9 x.1.1.1 x.1.1.2 x.1.2.1 x.1.2.2⟩
theorem k9:con9.OK Tryz.prog 9:=con_of_tree (n:=10) (lf:=big) (lookC_ok (l:=[(23,con23)]) (u:=[]) (z:=[]) ⟨k23,trivial⟩ trivial) (rounds_of (l:=[]) trivial) fun x=>by kernel_rfl
noncomputable def con24:Con:=⟨[(.row eT4),eT10],[.val .bool],fun x=>f24 x.1 x.2.1⟩
theorem k24:con24.OK Tryz.prog 24:=con_of_tree (n:=10) (lf:=big) (lookC_ok (l:=[]) (u:=[]) (z:=[]) trivial trivial) (rounds_of (l:=[]) trivial) fun x=>by kernel_rfl
noncomputable def con10:Con:=⟨[eT0],[.val .bool],fun x=>f10 x.1.1.1.1 x.1.1.1.2 x.1.1.2.1.1 x.1.1.2.1.2 x.1.1.2.2.1 x.1.1.2.2.2.1 x.1.1.2.2.2.2.1 x.1.1.2.2.2.2.2 x.1.2.1.1 x.1.2.1.2.1 x.1.2.1.2.2.1 x.1.2.1.2.2.2 x.1.2.2.1 x.1.2.2.2.1 x.1.2.2.2.2.1 x.1.2.2.2.2.2⟩
theorem k10:con10.OK Tryz.prog 10:=con_of_tree (n:=10) (lf:=big) (lookC_ok (l:=[(24,con24)]) (u:=[]) (z:=[]) ⟨k24,trivial⟩ trivial) (rounds_of (l:=[]) trivial) fun x=>by kernel_rfl
noncomputable def con14:Con:=⟨[eT8,eT0],[.val eT8,.val .i],fun x=>f14 x.1.1.1 x.1.1.2 x.1.2.1 x.1.2.2 x.2.1.1.1.1 x.2.1.1.1.2 x.2.1.1.2.1.1 x.2.1.1.2.1.2 x.2.1.1.2.2.1 x.2.1.1.2.2.2.1 x.2.1.1.2.2.2.2.1 x.2.1.1.2.2.2.2.2 x.2.1.2.1.1 x.2.1.2.1.2.1 x.2.1.2.1.2.2.1 x.2.1.2.1.2.2.2 x.2.1.2.2.1 x.2.1.2.2.2.1 x.2.1.2.2.2.2.1 x.2.1.2.2.2.2.2⟩
theorem k14:con14.OK Tryz.prog 14:=con_of_tree (n:=10) (lf:=big) (lookC_ok (l:=[(11,con11),(12,con12),(25,con25),(33,con33)]) (u:=[]) (z:=[]) ⟨k11,k12,k25,k33,trivial⟩ trivial) (rounds_of (l:=[]) trivial) fun x=>by kernel_rfl
noncomputable def con34:Con:=⟨[eT3,.i],[.val eT3,.val .i],fun x=>f34 x.1.1 x.1.2 x.2.1⟩
theorem k34:con34.OK Tryz.prog 34:=con_of_tree (n:=10) (lf:=big) (lookC_ok (l:=[(26,con26),(39,con39),(56,con56)]) (u:=[]) (z:=[]) ⟨k26,k39,k56,trivial⟩ trivial) (rounds_of (l:=[]) trivial) fun x=>by kernel_rfl
abbrev s16_4:LShape:=⟨55,[(1,.i),(4,.fix (.ptr kN2 0)),kK5],[],[(kN2,.box 26 [.i,.fix (.sl 8294967552 0),.i,.i]),(kN4,.box 26 [.i,.cont eT1,.i,.i])],[⟨.c kN2 1,8294967552,46,eT1⟩]⟩
abbrev o16_4:LShape:=⟨55,[],[],[],[]⟩
abbrev q16_4:LShape:=⟨55,[(4,.fix (.ptr kN2 0))],[],[(kN2,.box 26 [.i,.cont eT1,.i,.i])],[]⟩
noncomputable def l16_4:LSum:=⟨9,16,s16_4,0,o16_4,q16_4,u16_4,false,(some 0),none,[]⟩
noncomputable def con16:Con:=⟨[eT8,.i],[.val eT8],fun x=>f16 x.1.1.1 x.1.1.2 x.1.2.1 x.1.2.2 x.2.1⟩
theorem k16:con16.OK Tryz.prog 16:=con_of_tree (n:=10) (lf:=big) (lookC_ok (l:=[(11,con11),(13,con13),(33,con33),(34,con34)]) (u:=[]) (z:=[]) ⟨k11,k13,k33,k34,trivial⟩ trivial) (rounds_of (l:=[(kN0,4,l16_4)]) ⟨⟨by kernel_rfl,fun z=>by kernel_rfl⟩,trivial⟩) fun x=>by kernel_rfl
abbrev s20_6:LShape:=⟨96,[kK8,kK5,kK12,(21,.i),(22,.i)],[],[(kN5,.box 24 [.i,.fix (.sl 8294967680 0)]),kO4,kO5,kO11],[⟨.c kN5 1,8294967680,46,eT1⟩]⟩
abbrev s20_17:LShape:=⟨96,[kK8,kK5,kK12,(9,.inn 4294971408 0),(11,.i),(21,.i),(22,.i)],[],[(kN5,.box 24 [.i,.fix (.sl 8294968384 0)]),kO4,kO5,kO11],[⟨.c kN5 1,8294968384,46,eT1⟩]⟩
abbrev o20_17:LShape:=⟨96,[kK8,kK5,kK12,(21,.i),(22,.i)],[],[(kN5,.box 24 [.i,.fix (.sl 8294968416 0)]),kO4,kO5,kO11],[⟨.c kN5 1,8294968416,46,eT1⟩]⟩
abbrev q20_17:LShape:=⟨96,[],[],[],[]⟩
noncomputable def l20_17:LSum:=⟨9,20,s20_17,2,o20_17,q20_17,u20_17,false,none,none,[]⟩
abbrev o20_6:LShape:=⟨96,[kK8,kK5],[],[(kN5,.box 24 [.i,.fix (.sl 8294967712 0)]),kO4,kO5],[⟨.c kN5 1,8294967712,46,eT1⟩]⟩
abbrev q20_6:LShape:=⟨96,[],[],[],[]⟩
noncomputable def l20_6:LSum:=⟨9,20,s20_6,0,o20_6,q20_6,u20_6,false,none,none,[]⟩
noncomputable def con20:Con:=⟨[eT3,(.row .i)],[.val eT3],fun x=>f20 x.1.1 x.1.2 x.2.1⟩
theorem k20:con20.OK Tryz.prog 20:=con_of_tree (n:=10) (lf:=big) (lookC_ok (l:=[(26,con26),(39,con1039)]) (u:=[]) (z:=[]) ⟨k26,k1039,trivial⟩ trivial) (rounds_of (l:=[(kN0,17,l20_17),(kN0,6,l20_6)]) ⟨⟨by kernel_rfl,fun z=>by kernel_rfl⟩,⟨by kernel_rfl,fun z=>by kernel_rfl⟩,trivial⟩) fun x=>by kernel_rfl
end Go.Proofs.Zz
