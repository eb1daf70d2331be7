/- Eq17a, Eq17b, Eq17c, Eq17d, Eq17e, Eq17f. -/
import Derived.Test.YtjkplgcpgpicnaaGreatPU
import Derived.Test.YtjkplgcpgpicnaaGreatFD
namespace Go.Proofs.Zz
open Go Go.Sy
set_option linter.unusedVariables false
set_option maxHeartbeats 0
set_option maxRecDepth 100000
abbrev _root_.Go.Sy.Ty.i:Go.Sy.Ty:=.int .i64
abbrev _root_.Go.Sy.SK.i:Go.Sy.SK:=.int .i64
abbrev n0:Nat:=18446779399815561216
abbrev n1:Nat:=18446761945068470288
abbrev n2:Nat:=18446761945068470272
abbrev n3:Nat:=18446796923282128896
abbrev n4:Nat:=18446849768559738880
abbrev n5:Nat:=18446849768559738896
abbrev n6:Nat:=18446761807629516800
abbrev n7:Nat:=18447060874792271872
abbrev n8:Nat:=18447114201106219008
abbrev n9:Nat:=340288210869433754576934048087100358656
abbrev n10:Nat:=340289194566299531682949609528787730432
abbrev bO:Nat:=4294967296
abbrev fV:Nat:=4294967312
abbrev qB:Nat:=4294988496
abbrev vV:Nat:=4294967328
abbrev BW:Nat:=4294971424
abbrev It:Nat:=4294979584
abbrev J6:Nat:=4294971392
abbrev Lb:Nat:=4294987776
abbrev KJ:Nat:=4294983680
abbrev UT:Nat:=4294971456
abbrev PC:Nat:=18446884823787841600
abbrev Rr:Nat:=18446884823787841601
abbrev P6:Nat:=18446884823787841602
abbrev RP:Nat:=18446884823787841603
abbrev RR:Nat:=18446884823787841604
abbrev Qc:Nat:=18446884823787841605
abbrev RE:Nat:=18446884823787841632
abbrev QD:Nat:=18446884823787841633
abbrev Ry:Nat:=18446884823787841634
abbrev P9:Nat:=18446884823787841635
abbrev Q7:Nat:=18446884823787841636
abbrev RI:Nat:=18446884823787841637
abbrev Bi:Ty:=.pair .i .i
abbrev bV:Ty:=.pair .i Bi
abbrev Pg:Ty:=.pair Bi (.pair Bi (.pair .i bV))
abbrev eB:Ty:=.row bV
abbrev iu:Ty:=.pair .i (.pair .i bV)
abbrev rp:Ty:=.row iu
abbrev s5:Ty:=.pair Pg (.pair (.pair .i (.pair .i (.pair .i .bool))) (.pair .i (.pair eB (.pair rp eB))))
abbrev kR:Ty:=.int .u8
abbrev iW:Ty:=.row kR
abbrev qW:Ty:=.pair .i (.pair iW .i)
abbrev wm:Ty:=.pair .i (.pair .i (.pair .i (.pair .i (.pair .i (.pair .i (.pair .i (.pair .i .bool)))))))
abbrev tN:Ty:=.pair .i (.row qW)
abbrev VK:Ty:=.pair .i (.pair .i (.pair .i (.pair bV (.row .i))))
abbrev wk:Ty:=.pair tN Bi
abbrev wQ:Nat×SK:=(8,.i)
abbrev AK:Nat×SK:=(1,.fix (.ptr bO 0))
abbrev Dk:Nat×SK:=(7,.i)
abbrev ZJ:Nat×SK:=(9,.int .u64)
abbrev Sa:Nat×SK:=(2,.fix (.ptr fV 0))
abbrev WZ:Nat×SK:=(0,.cont bV)
abbrev W3:Nat×SK:=(2,.fix (.ptr bO 0))
abbrev WU:Nat×SK:=(0,.fix (.sl 4294971408 0))
abbrev kK8:Nat×SK:=(0,.cont kR)
abbrev ZM:Nat×SK:=(0,.cont iu)
abbrev RL:Nat×SK:=(8,.fix (.ptr qB 0))
abbrev Qx:Nat×SK:=(4,.fix (.ptr fV 0))
abbrev QH:Nat×SK:=(6,.fix (.ptr BW 0))
abbrev Q4:Nat×SK:=(1,.cont bV)
abbrev TZ:Nat×SK:=(1,.fix (.fn (.func 190) [(.ptr BW 0)] []))
abbrev aaC:Nat×SK:=(3,.fix (.ptr bO 0))
abbrev Ym:Nat×SK:=(1,.fix (.fn (.func 166) [] [(.ptr bO 0)]))
abbrev Y0:Nat×SK:=(1,.fix (.fn (.func 195) [] [(.ptr bO 0)]))
abbrev Zy:Nat×SK:=(12,.cont wm)
abbrev GK:Nat×OS:=(bO,.box 24 [.i,.cont qW])
abbrev Gu:Nat×OS:=(bO,.box 3 [.i])
abbrev JX:Nat×OS:=(bO,.box 39 [.i,.i,.i,.i,.i,.i,.i,.i,.i,.i,.i,.bool,.i,.cont bV,.cont iu,.cont bV])
abbrev Pf:Nat×OS:=(4294971408,.row 144 bV 0)
abbrev WS:Nat×OS:=(bO,.box 187 [.i,.i])
abbrev WY:Nat×OS:=(bO,.box 261 [.i,.i,.i,.i,.i,.i,.cont .i])
abbrev WV:Nat×OS:=(fV,.box 35 [.cont bV])
abbrev YE:Nat×OS:=(bO,.gone)
abbrev Zr:Nat×OS:=(bO,.box 144 [.i,.i,.i])
abbrev Xz:Nat×OS:=(Lb,.box 3 [.i])
abbrev Ra:Nat×OS:=(BW,.box 249 [.int .u32])
abbrev WG:Nat×OS:=(4294987824,.box 128 [.i,.i,.i])
abbrev aaa:Nat×OS:=(n1,.box 188 [.fix (.fn (.func 123) [] [])])
abbrev WC:Nat×OS:=(4294975488,.box 4 [.bool])
abbrev UN:Nat×OS:=(n3,.box 47 [.cont kR])
abbrev VA:Nat×OS:=(fV,.box 188 [.fix (.fn (.func 123) [] [])])
abbrev T9:Nat×OS:=(fV,.box 255 [.fix (.fn (.func 196) [] [])])
abbrev Ug:Nat×OS:=(4295020624,.box 128 [.i,.i,.i])
abbrev Uc:Nat×OS:=(n7,.box 128 [.i,.i,.i])
abbrev UI:Nat×OS:=(n8,.box 128 [.i,.i,.i])
abbrev UW:Nat×OS:=(n4,.box 22 [.cont qW])
abbrev TP:Nat×OS:=(It,.box 71 [.i,.i,.i,.i,.i,.i,.i,.i,.i,.i,.i,.bool,.i,.cont bV,.cont iu,.cont bV,.i,.i])
abbrev Vr:Nat×OS:=(fV,.box 24 [.i,.cont qW])
abbrev Yi:Nat×OS:=(4294991872,.loop 91 6 .ready [.fix .an,.fix .an,.fix .an,.fix .an,.fix (.ptr J6 0),.fix (.ptr 4294975488 0),.fix (.lit (.tuple #[])),.fix (.lit (.tuple #[])),.fix .an,.fix .an,.fix (.lit (.tuple #[])),.fix (.lit (.tuple #[])),.fix (.lit (.tuple #[])),.fix (.lit (.tuple #[])),.fix (.lit (.tuple #[])),.fix (.lit (.tuple #[])),.fix (.lit (.tuple #[])),.fix (.lit (.tuple #[])),.fix (.lit (.tuple #[])),.fix (.lit (.tuple #[])),.fix (.lit (.tuple #[])),.fix (.lit (.tuple #[])),.fix (.lit (.tuple #[])),.fix .an,.fix .an,.fix .an])
abbrev Zc:Nat×OS:=(4294971472,.box 151 [.cont kR,.cont kR,.cont kR,.cont kR,.cont kR])
abbrev YD:Nat×OS:=(4295000064,.loop 41 8 .ready [.fix .an,.fix .an,.fix .an,.fix .an,.fix .an,.fix .an,.fix .an,.fix .an,.fix (.ptr qB 0),.fix (.lit (.tuple #[])),.fix .an,.fix .an,.fix .an,.fix .an,.fix .an,.fix .an,.fix .an,.fix .an,.fix .an,.fix .an,.fix .an,.fix .an,.fix .an,.fix .an,.fix .an,.fix .an,.fix .an,.fix .an,.fix .an,.fix .an,.fix .an,.fix .an,.fix .an,.fix .an,.fix .an,.fix .an,.fix .an,.fix .an,.fix .an,.fix .an,.fix .an,.fix .an,.fix .an,.fix .an,.fix .an,.fix .an,.fix .an,.fix .an,.fix .an,.fix .an,.fix .an,.fix .an,.fix .an,.fix .an,.fix .an,.fix .an,.fix .an,.fix .an,.fix .an,.fix .an,.fix .an,.fix .an,.fix .an,.fix .an,.fix .an,.fix .an,.fix .an,.fix .an,.fix .an,.fix .an,.fix .an,.fix .an,.fix .an,.fix .an,.fix .an,.fix .an,.fix .an,.fix .an,.fix .an,.fix .an,.fix .an,.fix .an,.fix .an,.fix .an,.fix .an,.fix .an,.fix .an,.fix .an,.fix .an,.fix .an,.fix .an,.fix .an,.fix .an,.fix .an,.fix .an,.fix .an,.fix .an,.fix .an,.fix .an,.fix .an,.fix .an,.fix .an,.fix .an,.fix .an,.fix .an,.fix .an,.fix .an,.fix (.lit (.tuple #[])),.fix (.lit (.tuple #[])),.fix (.lit (.tuple #[])),.fix (.lit (.tuple #[])),.fix (.lit (.tuple #[])),.fix (.lit (.tuple #[])),.fix (.lit (.tuple #[])),.fix (.lit (.tuple #[])),.fix (.lit (.tuple #[])),.fix (.lit (.tuple #[])),.fix (.lit (.tuple #[])),.fix (.lit (.tuple #[])),.fix (.lit (.tuple #[])),.fix (.lit (.tuple #[])),.fix (.lit (.tuple #[])),.fix (.lit (.tuple #[])),.fix .an,.fix .an,.fix .an,.fix .an,.fix .an,.fix .an,.fix .an,.fix .an,.fix .an,.fix .an,.fix .an,.fix .an,.fix .an,.fix .an,.fix .an,.fix .an,.fix .an,.fix .an,.fix .an,.fix .an,.fix .an,.fix .an,.fix .an,.fix .an,.fix .an,.fix .an,.fix .an,.fix .an,.fix .an,.fix .an,.fix .an,.fix .an,.fix .an,.fix .an,.fix .an,.fix .an,.fix .an,.fix .an,.fix .an,.fix .an,.fix .an,.fix .an,.fix .an,.fix .an,.fix .an,.fix .an,.fix .an,.fix .an,.fix .an,.fix .an,.fix .an,.fix .an,.fix .an,.fix .an,.fix .an,.fix .an,.fix .an,.fix .an,.fix .an,.fix .an,.fix .an,.fix .an,.fix .an,.fix .an,.fix .an,.fix .an,.fix .an,.fix .an,.fix .an,.fix .an,.fix .an,.fix .an,.fix .an,.fix .an,.fix .an,.fix .an,.fix .an,.fix .an,.fix .an,.fix .an,.fix .an,.fix .an,.fix .an,.fix .an,.fix .an,.fix .an,.fix .an,.fix .an,.fix .an,.fix .an,.fix .an,.fix .an,.fix .an,.fix .an,.fix .an,.fix .an,.fix .an,.fix .an,.fix .an,.fix .an,.fix .an,.fix .an,.fix .an,.fix .an,.fix .an,.fix .an,.fix .an,.fix .an,.fix .an,.fix .an,.fix .an,.fix .an,.fix .an,.fix .an])
abbrev Xa:Nat×OS:=(BW,.box 39 [.i,.i,.i,.i,.i,.i,.i,.i,.i,.i,.i,.bool,.i,.cont bV,.cont iu,.cont bV])
abbrev ZC:Nat×OS:=(4294971488,.box 39 [.i,.i,.i,.i,.i,.i,.i,.i,.i,.i,.i,.bool,.i,.cont bV,.cont iu,.cont bV])
abbrev Zk:Nat×OS:=(4294983760,.box 71 [.i,.i,.i,.i,.i,.i,.i,.i,.i,.i,.i,.bool,.i,.cont bV,.cont iu,.cont bV,.i,.i])
abbrev X6:Nat×OS:=(n5,.box 71 [.i,.i,.i,.i,.i,.i,.i,.i,.i,.i,.i,.bool,.i,.cont bV,.cont iu,.cont bV,.i,.i])
abbrev Yw:Nat×OS:=(4295004160,.loop 25 9 .ready [.fix .an,.fix .an,.fix .an,.fix .an,.fix .an,.fix .an,.fix .an,.fix .an,.fix (.ptr 4294983760 0),.fix (.ptr Lb 0),.fix (.lit (.tuple #[])),.fix (.lit (.tuple #[])),.fix .an,.fix .an,.fix .an,.fix .an,.fix .an,.fix .an,.fix .an,.fix .an,.fix .an,.fix .an,.fix .an,.fix .an,.fix .an,.fix .an,.fix .an,.fix .an,.fix .an,.fix (.lit (.tuple #[])),.fix (.lit (.tuple #[])),.fix (.lit (.tuple #[])),.fix (.lit (.tuple #[])),.fix (.lit (.tuple #[])),.fix (.lit (.tuple #[])),.fix .an,.fix .an])
abbrev Yl:Nat×OS:=(bO,.box 24 [.i,.fix (.zW BW)])
abbrev XS:Nat×OS:=(4295000064,.loop 9 8 .ready [.fix .an,.fix .an,.fix .an,.fix .an,.fix .an,.fix (.ptr It 0),.fix (.ptr KJ 0),.fix (.ptr Lb 0),.fix .an,.fix (.lit (.tuple #[])),.fix (.lit (.tuple #[])),.fix .an,.fix (.lit (.tuple #[])),.fix .an,.fix .an,.fix .an,.fix .an,.fix .an,.fix .an,.fix .an,.fix .an,.fix .an,.fix .an,.fix .an,.fix (.lit (.tuple #[])),.fix (.lit (.tuple #[])),.fix (.lit (.tuple #[])),.fix (.lit (.tuple #[])),.fix (.lit (.tuple #[])),.fix (.lit (.tuple #[])),.fix (.lit (.tuple #[])),.fix (.lit (.tuple #[])),.fix (.lit (.tuple #[])),.fix (.lit (.tuple #[])),.fix (.lit (.tuple #[])),.fix (.lit (.tuple #[])),.fix (.lit (.tuple #[])),.fix (.lit (.tuple #[])),.fix (.lit (.tuple #[])),.fix (.lit (.tuple #[])),.fix (.lit (.tuple #[])),.fix .an,.fix .an,.fix .an,.fix .an,.fix .an,.fix .an,.fix .an,.fix .an,.fix .an,.fix .an,.fix .an,.fix .an,.fix .an,.fix .an,.fix .an,.fix .an,.fix .an,.fix .an,.fix .an,.fix .an,.fix .an,.fix .an,.fix .an,.fix .an,.fix .an,.fix .an,.fix .an,.fix .an,.fix .an,.fix .an,.fix .an,.fix .an])
abbrev XK:Nat×OS:=(bO,.box 28 [.i,.cont qW,.i,.i])
abbrev kR0:jm:=⟨.c fV 1,8294967488,49,qW⟩
abbrev kR1:jm:=⟨.c fV 1,8294967520,49,qW⟩
abbrev J3:List (Nat×SK):=[(4,.i)]
abbrev kL1:List (Nat×OS):=[(n2,.box 187 [.i,.i]),aaa]
abbrev kL2:List (Nat×SK):=[kK8,(2,.i),ZJ,(10,.i),(17,.i),(18,.i)]
abbrev kL3:List (Nat×SK):=[aaC,ZJ,(10,.i),(27,.cont .i),(28,.i),(29,.i)]
abbrev Zh:aj:=⟨19,[(3,.i),(6,.cont qW),Dk,wQ],[],[],[]⟩
abbrev Zw:aj:=⟨19,[(3,.i)],[],[],[]⟩
abbrev Yx:aj:=⟨19,[],[],[],[]⟩
noncomputable def Zv:aK:=⟨9,53,Zh,0,Zw,Yx,wI,false,none,none,[]⟩
noncomputable def Ki:aS:=⟨[(.row qW)],[.val .i],fun x=>f53 x.1⟩
theorem k53:Ki.OK Tryz.prog 53:=aa (n:=10) (lf:=aA) (ak (l:=[]) (u:=[]) (z:=[]) trivial trivial) (ah (l:=[(bO,3,Zv)]) ⟨⟨by kernel_rfl,fun z=>by kernel_rfl⟩,trivial⟩) fun x=>by kernel_rfl
abbrev XA:aj:=⟨60,[AK,(3,.i),(7,.cont qW),wQ,(9,.i)],[],[GK],[]⟩
abbrev XB:aj:=⟨60,[AK],[],[GK],[]⟩
abbrev YZ:aj:=⟨60,[(2,.bool)],[],[],[]⟩
noncomputable def XC:aK:=⟨9,23,XA,0,XB,YZ,uK,false,none,none,[]⟩
noncomputable def mF:aS:=⟨[tN],[.val .bool],fun x=>f23 x.1.1 x.1.2⟩
theorem Pk:mF.OK Tryz.prog 23:=aa (n:=10) (lf:=aA) (ak (l:=[(53,Ki)]) (u:=[]) (z:=[]) ⟨k53,trivial⟩ trivial) (ah (l:=[(bO,3,XC)]) ⟨⟨by kernel_rfl,fun z=>by kernel_rfl⟩,trivial⟩) fun x=>by kernel_rfl
noncomputable def Nv:aS:=⟨[kR],[.val .bool],fun x=>f125 x.1⟩
theorem aa5:Nv.OK Tryz.prog 125:=aa (n:=10) (lf:=aA) (ak (l:=[]) (u:=[]) (z:=[]) trivial trivial) (ah (l:=[]) trivial) fun x=>by kernel_rfl
abbrev CQ:aj:=⟨19,[kK8,(1,.fix (.fn (.func 125) [] [])),Dk,wQ],[],[],[]⟩
abbrev Bp:aj:=⟨19,[],[],[],[]⟩
abbrev Cv:aj:=⟨19,J3,[],[],[]⟩
noncomputable def Du:aK:=⟨7,161,CQ,0,Bp,Cv,dW,false,none,none,[]⟩
noncomputable def Td:aS:=⟨[iW],[.val .bool],fun x=>f87 x.1⟩
theorem k87:Td.OK Tryz.prog 87:=aa (n:=10) (lf:=aA) (ak (l:=[(125,Nv)]) (u:=[]) (z:=[]) ⟨aa5,trivial⟩ trivial) (ah (l:=[(79228239566314351212261015552,2,Du)]) ⟨⟨by kernel_rfl,fun z=>by kernel_rfl⟩,trivial⟩) fun x=>by kernel_rfl
noncomputable def Ar:aS:=⟨[.i],[.val .bool],fun x=>f126 x.1⟩
theorem TQ:Ar.OK Tryz.prog 126:=aa (n:=10) (lf:=aA) (ak (l:=[]) (u:=[]) (z:=[]) trivial trivial) (ah (l:=[]) trivial) fun x=>by kernel_rfl
abbrev YM:aj:=⟨63,[(1,.i),(6,.i),(29,.cont kR),(30,.i),(31,.i)],[],[],[]⟩
abbrev Ze:aj:=⟨63,[],[],[],[]⟩
abbrev Xf:aj:=⟨63,[(4,.i),(5,.i)],[],[],[]⟩
noncomputable def Xv:aK:=⟨9,88,YM,0,Ze,Xf,uT,false,none,none,[]⟩
noncomputable def HG:aS:=⟨[iW,.i],[.val .i,.val .i],fun x=>f88 x.1 x.2.1⟩
theorem k88:HG.OK Tryz.prog 88:=aa (n:=10) (lf:=aA) (ak (l:=[(126,Ar)]) (u:=[]) (z:=[]) ⟨TQ,trivial⟩ trivial) (ah (l:=[(bO,5,Xv)]) ⟨⟨by kernel_rfl,fun z=>by kernel_rfl⟩,trivial⟩) fun x=>by kernel_rfl
abbrev Zs:aj:=⟨26,[kK8,(1,.cont kR),(12,.i),(13,.i)],[],[],[]⟩
abbrev XU:aj:=⟨26,[],[],[],[]⟩
abbrev W9:aj:=⟨26,[(4,.bool)],[],[],[]⟩
noncomputable def XN:aK:=⟨9,82,Zs,0,XU,W9,vn,false,none,none,[]⟩
noncomputable def LQ:aS:=⟨[iW,iW],[.val .bool],fun x=>f82 x.1 x.2.1⟩
theorem k82:LQ.OK Tryz.prog 82:=aa (n:=10) (lf:=aA) (ak (l:=[]) (u:=[]) (z:=[]) trivial trivial) (ah (l:=[(bO,4,XN)]) ⟨⟨by kernel_rfl,fun z=>by kernel_rfl⟩,trivial⟩) fun x=>by kernel_rfl
noncomputable def F4:aS:=⟨[(.int .u32)],[.val iW],fun x=>f127 x.1⟩
theorem X8:F4.OK Tryz.prog 127:=aa (n:=10) (lf:=aA) (ak (l:=[]) (u:=[]) (z:=[]) trivial trivial) (ah (l:=[]) trivial) fun x=>by kernel_rfl
abbrev Ay:aj:=⟨26,[TZ,(7,.cont kR),wQ,(9,.i)],[Ra],[],[]⟩
abbrev x9:aj:=⟨26,[TZ,(5,.int .u8),(7,.cont kR),wQ,(9,.i),(13,.i)],[Ra],[],[]⟩
abbrev zE:aj:=⟨26,[TZ,(7,.cont kR),wQ,(9,.i)],[Ra],[],[]⟩
abbrev yl:aj:=⟨26,[],[(BW,.gone)],[],[]⟩
noncomputable def zj:aK:=⟨8,189,x9,2,zE,yl,dm,false,none,none,[]⟩
abbrev Al:aj:=⟨26,[],[Ra],[],[]⟩
abbrev A8:aj:=⟨26,[],[(BW,.gone)],[],[]⟩
noncomputable def Am:aK:=⟨8,189,Ay,0,Al,A8,eV,false,none,none,[]⟩
noncomputable def LI:aS:=⟨[(.int .u32),iW],[.val (.int .u32)],fun x=>f162 x.1 x.2.1⟩
theorem aa0:LI.OK Tryz.prog 162:=aa (n:=10) (lf:=aA) (ak (l:=[]) (u:=[]) (z:=[]) trivial trivial) (ah (l:=[(n0,4,zj),(n0,1,Am)]) ⟨⟨by kernel_rfl,fun z=>by kernel_rfl⟩,⟨by kernel_rfl,fun z=>by kernel_rfl⟩,trivial⟩) fun x=>by kernel_rfl
noncomputable def FI:aS:=⟨[iW],[.val (.int .u32)],fun x=>f128 x.1⟩
theorem ZA:FI.OK Tryz.prog 128:=aa (n:=10) (lf:=aA) (ak (l:=[(162,LI)]) (u:=[]) (z:=[]) ⟨aa0,trivial⟩ trivial) (ah (l:=[]) trivial) fun x=>by kernel_rfl
noncomputable def Sp:aS:=⟨[iW],[.val iW,.val .bool],fun x=>f89 x.1⟩
theorem k89:Sp.OK Tryz.prog 89:=aa (n:=10) (lf:=aA) (ak (l:=[(82,LQ),(127,F4),(128,FI),(129,u5)]) (u:=[]) (z:=[]) ⟨k82,X8,ZA,H7,trivial⟩ trivial) (ah (l:=[]) trivial) fun x=>by kernel_rfl
noncomputable def NC:aS:=⟨[iW,.i],[.val (.pair .i iW),.val .i,.val .i],fun x=>f40 x.1 x.2.1⟩
theorem k40:NC.OK Tryz.prog 40:=aa (n:=10) (lf:=aA) (ak (l:=[(87,Td),(88,HG),(89,Sp)]) (u:=[]) (z:=[]) ⟨k87,k88,k89,trivial⟩ trivial) (ah (l:=[]) trivial) fun x=>by kernel_rfl
noncomputable def SY:aS:=⟨[.i,.i,.i],[.val .bool],fun x=>f60 x.1 x.2.1 x.2.2.1⟩
theorem k60:SY.OK Tryz.prog 60:=aa (n:=10) (lf:=aA) (ak (l:=[]) (u:=[]) (z:=[]) trivial trivial) (ah (l:=[]) trivial) fun x=>by kernel_rfl
noncomputable def Au:aS:=⟨[Bi],[.val .bool],fun x=>f114 x.1.1 x.1.2⟩
theorem VZ:Au.OK Tryz.prog 114:=aa (n:=10) (lf:=aA) (ak (l:=[]) (u:=[]) (z:=[]) trivial trivial) (ah (l:=[]) trivial) fun x=>by kernel_rfl
noncomputable def vu:aS:=⟨[Bi],[.val .i],fun x=>f62 x.1.1 x.1.2⟩
theorem W5:vu.OK Tryz.prog 62:=aa (n:=10) (lf:=aA) (ak (l:=[(114,Au)]) (u:=[]) (z:=[]) ⟨VZ,trivial⟩ trivial) (ah (l:=[]) trivial) fun x=>by kernel_rfl
noncomputable def LY:aS:=⟨[Bi,.i],[.val .i],fun x=>f115 x.1.1 x.1.2 x.2.1⟩
theorem aaJ:LY.OK Tryz.prog 115:=aa (n:=10) (lf:=aA) (ak (l:=[(114,Au)]) (u:=[]) (z:=[]) ⟨VZ,trivial⟩ trivial) (ah (l:=[]) trivial) fun x=>by kernel_rfl
noncomputable def TC:aS:=⟨[Bi,Bi],[.val .bool],fun x=>f64 x.1.1 x.1.2 x.2.1.1 x.2.1.2⟩
theorem k64:TC.OK Tryz.prog 64:=aa (n:=10) (lf:=aA) (ak (l:=[(114,Au),(115,LY)]) (u:=[]) (z:=[]) ⟨VZ,aaJ,trivial⟩ trivial) (ah (l:=[]) trivial) fun x=>by kernel_rfl
noncomputable def Ol:aS:=⟨[Pg],[.val .i],fun x=>f68 x.1.1.1 x.1.1.2 x.1.2.1.1 x.1.2.1.2 x.1.2.2.1 x.1.2.2.2.1 x.1.2.2.2.2.1 x.1.2.2.2.2.2⟩
theorem k68:Ol.OK Tryz.prog 68:=aa (n:=10) (lf:=aA) (ak (l:=[]) (u:=[]) (z:=[]) trivial trivial) (ah (l:=[]) trivial) fun x=>by kernel_rfl
noncomputable def H9:aS:=⟨[Pg],[.val .i],fun x=>f69 x.1.1.1 x.1.1.2 x.1.2.1.1 x.1.2.1.2 x.1.2.2.1 x.1.2.2.2.1 x.1.2.2.2.2.1 x.1.2.2.2.2.2⟩
theorem Z6:H9.OK Tryz.prog 69:=aa (n:=10) (lf:=aA) (ak (l:=[(62,vu)]) (u:=[]) (z:=[]) ⟨W5,trivial⟩ trivial) (ah (l:=[]) trivial) fun x=>by kernel_rfl
noncomputable def D5:aS:=⟨[Pg],[.val .bool],fun x=>f29 x.1.1.1 x.1.1.2 x.1.2.1.1 x.1.2.1.2 x.1.2.2.1 x.1.2.2.2.1 x.1.2.2.2.2.1 x.1.2.2.2.2.2⟩
theorem ZI:D5.OK Tryz.prog 29:=aa (n:=10) (lf:=aA) (ak (l:=[(60,SY),(62,vu),(64,TC),(68,Ol),(69,H9)]) (u:=[]) (z:=[]) ⟨k60,W5,k64,k68,Z6,trivial⟩ trivial) (ah (l:=[]) trivial) fun x=>by kernel_rfl
noncomputable def Il:aS:=⟨[.i,.i,.i],[.val .bool],fun x=>f31 x.1 x.2.1 x.2.2.1⟩
theorem Z2:Il.OK Tryz.prog 31:=aa (n:=10) (lf:=aA) (ak (l:=[]) (u:=[]) (z:=[]) trivial trivial) (ah (l:=[]) trivial) fun x=>by kernel_rfl
noncomputable def Nd:aS:=⟨[(.pair .i (.pair .i (.pair .i .bool)))],[.val .bool],fun x=>f30 x.1.1 x.1.2.1 x.1.2.2.1 x.1.2.2.2⟩
theorem k30:Nd.OK Tryz.prog 30:=aa (n:=10) (lf:=aA) (ak (l:=[(31,Il)]) (u:=[]) (z:=[]) ⟨Z2,trivial⟩ trivial) (ah (l:=[]) trivial) fun x=>by kernel_rfl
noncomputable def OM:aS:=⟨[bV,bV],[.val .bool],fun x=>f73 x.1.1 x.1.2.1 x.1.2.2 x.2.1.1 x.2.1.2.1 x.2.1.2.2⟩
theorem k73:OM.OK Tryz.prog 73:=aa (n:=10) (lf:=aA) (ak (l:=[]) (u:=[]) (z:=[]) trivial trivial) (ah (l:=[]) trivial) fun x=>by kernel_rfl
noncomputable def NQ:aS:=⟨[bV,.i],[.val .bool],fun x=>f74 x.1.1 x.1.2.1 x.1.2.2 x.2.1⟩
theorem k74:NQ.OK Tryz.prog 74:=aa (n:=10) (lf:=aA) (ak (l:=[]) (u:=[]) (z:=[]) trivial trivial) (ah (l:=[]) trivial) fun x=>by kernel_rfl
abbrev XG:aj:=⟨39,[WZ,(1,.i),(19,.cont bV),(20,.i),(21,.i)],[],[],[]⟩
abbrev Dw:aj:=⟨19,[WZ,(1,.fix (.fn (.func 72) [] [(.ptr 4294987824 0)])),Dk,wQ],[WG],[],[]⟩
abbrev DW:aj:=⟨19,[],[WG],[],[]⟩
abbrev DK:aj:=⟨19,J3,[WG],[],[]⟩
noncomputable def Cy:aK:=⟨7,117,Dw,0,DW,DK,fL,false,none,none,[]⟩
abbrev XD:aj:=⟨39,[],[],[],[]⟩
abbrev Ys:aj:=⟨39,[(4,.bool)],[],[],[]⟩
noncomputable def Y2:aK:=⟨9,32,XG,0,XD,Ys,sU,false,none,none,[]⟩
noncomputable def KY:aS:=⟨[eB,.i],[.val .bool],fun x=>f32 x.1 x.2.1⟩
theorem k32:KY.OK Tryz.prog 32:=aa (n:=10) (lf:=aA) (ak (l:=[(73,OM),(74,NQ)]) (u:=[]) (z:=[]) ⟨k73,k74,trivial⟩ trivial) (ah (l:=[(79228694094088327415612833792,2,Cy),(bO,4,Y2)]) ⟨⟨by kernel_rfl,fun z=>by kernel_rfl⟩,⟨by kernel_rfl,fun z=>by kernel_rfl⟩,trivial⟩) fun x=>by kernel_rfl
noncomputable def Sl:aS:=⟨[s5],[.val .i],fun x=>f33 x.1.1.1.1 x.1.1.1.2 x.1.1.2.1.1 x.1.1.2.1.2 x.1.1.2.2.1 x.1.1.2.2.2.1 x.1.1.2.2.2.2.1 x.1.1.2.2.2.2.2 x.1.2.1.1 x.1.2.1.2.1 x.1.2.1.2.2.1 x.1.2.1.2.2.2 x.1.2.2.1 x.1.2.2.2.1 x.1.2.2.2.2.1 x.1.2.2.2.2.2⟩
theorem k33:Sl.OK Tryz.prog 33:=aa (n:=10) (lf:=aA) (ak (l:=[(62,vu)]) (u:=[]) (z:=[]) ⟨W5,trivial⟩ trivial) (ah (l:=[]) trivial) fun x=>by kernel_rfl
noncomputable def OY:aS:=⟨[Pg],[.val .i],fun x=>f118 x.1.1.1 x.1.1.2 x.1.2.1.1 x.1.2.1.2 x.1.2.2.1 x.1.2.2.2.1 x.1.2.2.2.2.1 x.1.2.2.2.2.2⟩
theorem aaX:OY.OK Tryz.prog 118:=aa (n:=10) (lf:=aA) (ak (l:=[(29,D5),(68,Ol),(69,H9)]) (u:=[]) (z:=[]) ⟨ZI,k68,Z6,trivial⟩ trivial) (ah (l:=[]) trivial) fun x=>by kernel_rfl
noncomputable def S9:aS:=⟨[Pg,.i],[.val bV,.val .bool],fun x=>f76 x.1.1.1 x.1.1.2 x.1.2.1.1 x.1.2.1.2 x.1.2.2.1 x.1.2.2.2.1 x.1.2.2.2.2.1 x.1.2.2.2.2.2 x.2.1⟩
theorem k76:S9.OK Tryz.prog 76:=aa (n:=10) (lf:=aA) (ak (l:=[(29,D5),(62,vu),(69,H9),(118,OY)]) (u:=[]) (z:=[]) ⟨ZI,W5,Z6,aaX,trivial⟩ trivial) (ah (l:=[]) trivial) fun x=>by kernel_rfl
noncomputable def OB:aS:=⟨[Pg],[.val .i],fun x=>f119 x.1.1.1 x.1.1.2 x.1.2.1.1 x.1.2.1.2 x.1.2.2.1 x.1.2.2.2.1 x.1.2.2.2.2.1 x.1.2.2.2.2.2⟩
theorem Z8:OB.OK Tryz.prog 119:=aa (n:=10) (lf:=aA) (ak (l:=[(29,D5)]) (u:=[]) (z:=[]) ⟨ZI,trivial⟩ trivial) (ah (l:=[]) trivial) fun x=>by kernel_rfl
noncomputable def MY:aS:=⟨[Pg,.i,.i],[.val bV,.val .bool],fun x=>f77 x.1.1.1 x.1.1.2 x.1.2.1.1 x.1.2.1.2 x.1.2.2.1 x.1.2.2.2.1 x.1.2.2.2.2.1 x.1.2.2.2.2.2 x.2.1 x.2.2.1⟩
theorem k77:MY.OK Tryz.prog 77:=aa (n:=10) (lf:=aA) (ak (l:=[(62,vu),(119,OB)]) (u:=[]) (z:=[]) ⟨W5,Z8,trivial⟩ trivial) (ah (l:=[]) trivial) fun x=>by kernel_rfl
noncomputable def FO:aS:=⟨[bV,.i],[.val .bool],fun x=>f121 x.1.1 x.1.2.1 x.1.2.2 x.2.1⟩
theorem Y1:FO.OK Tryz.prog 121:=aa (n:=10) (lf:=aA) (ak (l:=[]) (u:=[]) (z:=[]) trivial trivial) (ah (l:=[]) trivial) fun x=>by kernel_rfl
abbrev DL:aj:=⟨19,[WZ,(1,.fix (.fn (.func 120) [] [(.ptr bO 0)])),Dk,wQ],[Gu],[],[]⟩
abbrev C9:aj:=⟨19,[],[Gu],[],[]⟩
abbrev Bt:aj:=⟨19,J3,[Gu],[],[]⟩
noncomputable def B9:aK:=⟨8,117,DL,0,C9,Bt,fO,false,none,none,[]⟩
noncomputable def RU:aS:=⟨[eB,.i],[.val .i],fun x=>f78 x.1 x.2.1⟩
theorem k78:RU.OK Tryz.prog 78:=aa (n:=10) (lf:=aA) (ak (l:=[(121,FO)]) (u:=[]) (z:=[]) ⟨Y1,trivial⟩ trivial) (ah (l:=[(18446761807629516800,2,B9)]) ⟨⟨by kernel_rfl,fun z=>by kernel_rfl⟩,trivial⟩) fun x=>by kernel_rfl
noncomputable def LK:aS:=⟨[.i,.i,.i,.i],[.val .bool],fun x=>f79 x.1 x.2.1 x.2.2.1 x.2.2.2.1⟩
theorem k79:LK.OK Tryz.prog 79:=aa (n:=10) (lf:=aA) (ak (l:=[]) (u:=[]) (z:=[]) trivial trivial) (ah (l:=[]) trivial) fun x=>by kernel_rfl
abbrev ZB:aj:=⟨124,[AK,(3,.fix (.mp J6)),(12,.cont iu),(13,.i),(14,.i)],[],[JX,(J6,.map)],[]⟩
abbrev Xo:aj:=⟨124,[AK],[],[JX],[]⟩
abbrev Yj:aj:=⟨124,[(2,.bool)],[],[],[]⟩
noncomputable def X7:aK:=⟨9,34,ZB,0,Xo,Yj,sA,false,none,none,[]⟩
noncomputable def R6:aS:=⟨[s5],[.val .bool],fun x=>f34 x.1.1.1.1 x.1.1.1.2 x.1.1.2.1.1 x.1.1.2.1.2 x.1.1.2.2.1 x.1.1.2.2.2.1 x.1.1.2.2.2.2.1 x.1.1.2.2.2.2.2 x.1.2.1.1 x.1.2.1.2.1 x.1.2.1.2.2.1 x.1.2.1.2.2.2 x.1.2.2.1 x.1.2.2.2.1 x.1.2.2.2.2.1 x.1.2.2.2.2.2⟩
theorem k34:R6.OK Tryz.prog 34:=aa (n:=10) (lf:=aA) (ak (l:=[(76,S9),(77,MY),(78,RU),(79,LK)]) (u:=[]) (z:=[]) ⟨k76,k77,k78,k79,trivial⟩ trivial) (ah (l:=[(bO,3,X7)]) ⟨⟨by kernel_rfl,fun z=>by kernel_rfl⟩,trivial⟩) fun x=>by kernel_rfl
noncomputable def ED:aS:=⟨[iu],[.val (.pair Bi iu)],fun x=>f160 x.1.1 x.1.2.1 x.1.2.2.1 x.1.2.2.2.1 x.1.2.2.2.2⟩
theorem YU:ED.OK Tryz.prog 160:=aa (n:=10) (lf:=aA) (ak (l:=[]) (u:=[]) (z:=[]) trivial trivial) (ah (l:=[]) trivial) fun x=>by kernel_rfl
noncomputable def AJ:aS:=⟨[iu],[.val Bi],fun x=>f123 x.1.1 x.1.2.1 x.1.2.2.1 x.1.2.2.2.1 x.1.2.2.2.2⟩
theorem V9:AJ.OK Tryz.prog 123:=aa (n:=10) (lf:=aA) (ak (l:=[(160,ED)]) (u:=[]) (z:=[]) ⟨YU,trivial⟩ trivial) (ah (l:=[]) trivial) fun x=>by kernel_rfl
abbrev CX:aj:=⟨19,[ZM,(1,.fix (.fn (.func 159) [] [(.ptr n1 0),(.ptr n2 0)])),Dk,wQ],kL1,[],[]⟩
abbrev Bq:aj:=⟨19,[],kL1,[],[]⟩
abbrev DG:aj:=⟨19,J3,kL1,[],[]⟩
noncomputable def CO:aK:=⟨7,158,CX,0,Bq,DG,fM,false,none,none,[]⟩
noncomputable def CJ:aS:=⟨[rp,.i,.i],[.val .i],fun x=>f80 x.1 x.2.1 x.2.2.1⟩
theorem ZQ:CJ.OK Tryz.prog 80:=aa (n:=10) (lf:=aA) (ak (l:=[(123,AJ)]) (u:=[]) (z:=[]) ⟨V9,trivial⟩ trivial) (ah (l:=[(79228239271166446032908189696,2,CO)]) ⟨⟨by kernel_rfl,fun z=>by kernel_rfl⟩,trivial⟩) fun x=>by kernel_rfl
abbrev Xg:aj:=⟨74,[AK,(8,.cont bV),(9,.i),(10,.i)],[],[JX],[]⟩
abbrev XE:aj:=⟨74,[],[],[],[]⟩
abbrev YO:aj:=⟨74,[(2,.bool)],[],[],[]⟩
noncomputable def XP:aK:=⟨9,35,Xg,0,XE,YO,sV,false,none,none,[]⟩
noncomputable def Se:aS:=⟨[s5],[.val .bool],fun x=>f35 x.1.1.1.1 x.1.1.1.2 x.1.1.2.1.1 x.1.1.2.1.2 x.1.1.2.2.1 x.1.1.2.2.2.1 x.1.1.2.2.2.2.1 x.1.1.2.2.2.2.2 x.1.2.1.1 x.1.2.1.2.1 x.1.2.1.2.2.1 x.1.2.1.2.2.2 x.1.2.2.1 x.1.2.2.2.1 x.1.2.2.2.2.1 x.1.2.2.2.2.2⟩
theorem k35:Se.OK Tryz.prog 35:=aa (n:=10) (lf:=aA) (ak (l:=[(31,Il),(77,MY),(79,LK),(80,CJ)]) (u:=[]) (z:=[]) ⟨Z2,k77,k79,ZQ,trivial⟩ trivial) (ah (l:=[(bO,2,XP)]) ⟨⟨by kernel_rfl,fun z=>by kernel_rfl⟩,trivial⟩) fun x=>by kernel_rfl
noncomputable def uC:aS:=⟨[s5],[.val .bool],fun x=>f11 x.1.1.1.1 x.1.1.1.2 x.1.1.2.1.1 x.1.1.2.1.2 x.1.1.2.2.1 x.1.1.2.2.2.1 x.1.1.2.2.2.2.1 x.1.1.2.2.2.2.2 x.1.2.1.1 x.1.2.1.2.1 x.1.2.1.2.2.1 x.1.2.1.2.2.2 x.1.2.2.1 x.1.2.2.2.1 x.1.2.2.2.2.1 x.1.2.2.2.2.2⟩
theorem WM:uC.OK Tryz.prog 11:=aa (n:=10) (lf:=aA) (ak (l:=[(29,D5),(30,Nd),(31,Il),(32,KY),(33,Sl),(34,R6),(35,Se)]) (u:=[]) (z:=[]) ⟨ZI,k30,Z2,k32,k33,k34,k35,trivial⟩ trivial) (ah (l:=[]) trivial) fun x=>by kernel_rfl
noncomputable def Te:aS:=⟨[iW],[.val (.pair iW (.pair iW (.pair iW (.pair iW iW)))),.val .bool],fun x=>f90 x.1⟩
theorem k90:Te.OK Tryz.prog 90:=aa (n:=10) (lf:=aA) (ak (l:=[(88,HG)]) (u:=[]) (z:=[]) ⟨k88,trivial⟩ trivial) (ah (l:=[]) trivial) fun x=>by kernel_rfl
abbrev BG:aj:=⟨26,[(0,.fix (.ja 4294991872)),(1,.fix (.ptr n3 0)),(3,.i)],[(J6,.box 72 [.fix (.sl 18446849639415752768 0)]),WC,UN,Yi],[],[⟨.c J6 0,18446849639415752768,3,.i⟩]⟩
abbrev BR:aj:=⟨26,[],[(J6,.box 72 [.fix (.sl 18446849639415752800 0)]),WC,UN,Yi],[],[⟨.c J6 0,18446849639415752800,3,.i⟩]⟩
abbrev Dy:aj:=⟨26,[],[(J6,.box 72 [.fix (.sl 18446849639415752816 0)]),WC,UN,(4294991872,.loop 91 6 (.done (.exit 0)) [.fix .an,.fix .an,.fix .an,.fix .an,.fix (.ptr J6 0),.fix (.ptr 4294975488 0),.fix (.lit (.tuple #[])),.fix (.lit (.tuple #[])),.fix .an,.fix .an,.fix (.lit (.tuple #[])),.fix (.lit (.tuple #[])),.fix (.lit (.tuple #[])),.fix (.lit (.tuple #[])),.fix (.lit (.tuple #[])),.fix (.lit (.tuple #[])),.fix (.lit (.tuple #[])),.fix (.lit (.tuple #[])),.fix (.lit (.tuple #[])),.fix (.lit (.tuple #[])),.fix (.lit (.tuple #[])),.fix (.lit (.tuple #[])),.fix (.lit (.tuple #[])),.fix .an,.fix .an,.fix .an])],[],[⟨.c J6 0,18446849639415752816,3,.i⟩]⟩
noncomputable def Cj:aK:=⟨8,164,BG,0,BR,Dy,bL,false,none,none,[]⟩
noncomputable def Gz:aS:=⟨[iW],[.val (.row .i),.val .bool],fun x=>f91 x.1⟩
theorem k91:Gz.OK Tryz.prog 91:=aa (n:=10) (lf:=aA) (ak (l:=[(88,HG)]) (u:=[]) (z:=[]) ⟨k88,trivial⟩ trivial) (ah (l:=[(18446849635415752704,1,Cj)]) ⟨⟨by kernel_rfl,fun z=>by kernel_rfl⟩,trivial⟩) fun x=>by kernel_rfl
noncomputable def Fl:aS:=⟨[.i,.i],[.val .i],fun x=>f133 x.1 x.2.1⟩
theorem Yp:Fl.OK Tryz.prog 133:=aa (n:=10) (lf:=aA) (ak (l:=[]) (u:=[]) (z:=[]) trivial trivial) (ah (l:=[]) trivial) fun x=>by kernel_rfl
abbrev XW:aj:=⟨54,kL2,[],[],[⟨.t 8,8294967744,3,.i⟩]⟩
abbrev Zg:aj:=⟨54,kL2,[],[],[⟨.t 8,8294967808,3,.i⟩]⟩
abbrev YB:aj:=⟨54,kL2,[],[],[⟨.t 8,8294967840,3,.i⟩]⟩
abbrev YV:aj:=⟨54,[],[],[],[]⟩
noncomputable def Xk:aK:=⟨9,93,Zg,1000000007,YB,YV,DD,false,(some 0),none,[]⟩
abbrev Y7:aj:=⟨54,[ZJ],[],[],[⟨.t 8,8294967776,3,.i⟩]⟩
abbrev ZD:aj:=⟨54,[],[],[],[]⟩
noncomputable def Xt:aK:=⟨9,93,XW,0,Y7,ZD,xN,false,none,none,[]⟩
noncomputable def TA:aS:=⟨[iW,.i,.i],[.val (.row .i),.val .bool],fun x=>f93 x.1 x.2.1 x.2.2.1⟩
theorem k93:TA.OK Tryz.prog 93:=aa (n:=10) (lf:=aA) (ak (l:=[(133,Fl)]) (u:=[]) (z:=[]) ⟨Yp,trivial⟩ trivial) (ah (l:=[(bO,8,Xk),(bO,7,Xt)]) ⟨⟨by kernel_rfl,fun z=>by kernel_rfl⟩,⟨by kernel_rfl,fun z=>by kernel_rfl⟩,trivial⟩) fun x=>by kernel_rfl
noncomputable def N4:aS:=⟨[.i],[.val .i],fun x=>f135 x.1⟩
theorem aaH:N4.OK Tryz.prog 135:=aa (n:=10) (lf:=aA) (ak (l:=[]) (u:=[]) (z:=[]) trivial trivial) (ah (l:=[]) trivial) fun x=>by kernel_rfl
noncomputable def EM:aS:=⟨[.i],[.val .bool],fun x=>f136 x.1⟩
theorem Xq:EM.OK Tryz.prog 136:=aa (n:=10) (lf:=aA) (ak (l:=[]) (u:=[]) (z:=[]) trivial trivial) (ah (l:=[]) trivial) fun x=>by kernel_rfl
abbrev Yq:aj:=⟨36,[(4,.cont .i),(6,.fix (.ptr KJ 0)),(7,.fix (.fn (.func 134) [] [(.ptr KJ 0)])),(19,.i),(20,.i)],[],[(KJ,.box 3 [.i])],[⟨.t 8,8294967808,3,.i⟩]⟩
abbrev Xb:aj:=⟨36,[],[],[],[⟨.t 8,8294967840,3,.i⟩]⟩
abbrev XI:aj:=⟨36,[(3,.bool)],[],[],[⟨.t 2,8294967856,3,.i⟩]⟩
noncomputable def Zb:aK:=⟨9,94,Yq,0,Xb,XI,qz,false,none,none,[]⟩
noncomputable def Tn:aS:=⟨[iW],[.val (.row .i),.val .bool],fun x=>f94 x.1⟩
theorem k94:Tn.OK Tryz.prog 94:=aa (n:=10) (lf:=aA) (ak (l:=[(91,Gz),(135,N4),(136,EM)]) (u:=[]) (z:=[]) ⟨k91,aaH,Xq,trivial⟩ trivial) (ah (l:=[(bO,8,Zb)]) ⟨⟨by kernel_rfl,fun z=>by kernel_rfl⟩,trivial⟩) fun x=>by kernel_rfl
abbrev Dl:aj:=⟨31,[(0,.fix (.ja 4295000064)),(1,.fix (.ptr n4 0)),(2,.fix (.ptr n5 0)),(4,.i)],[(bO,.box 39 [.i,.i,.i,.i,.i,.i,.i,.i,.i,.i,.i,.bool,.i,.fix (.sl PC 0),.fix (.sl Rr 0),.fix (.sl P6 0)]),Zc,(qB,.box 39 [.i,.i,.i,.i,.i,.i,.i,.i,.i,.i,.i,.bool,.i,.fix (.sl RP 0),.fix (.sl RR 0),.fix (.sl Qc 0)]),(n4,.box 72 [.cont .i]),(n5,.box 3 [.i]),YD],[],[⟨.c bO 13,PC,128,bV⟩,⟨.c bO 14,Rr,135,iu⟩,⟨.c bO 15,P6,144,bV⟩,⟨.c qB 13,RP,128,bV⟩,⟨.c qB 14,RR,135,iu⟩,⟨.c qB 15,Qc,144,bV⟩]⟩
abbrev D8:aj:=⟨31,[],[(bO,.box 39 [.i,.i,.i,.i,.i,.i,.i,.i,.i,.i,.i,.bool,.i,.fix (.sl RE 0),.fix (.sl QD 0),.fix (.sl Ry 0)]),Zc,(qB,.box 39 [.i,.i,.i,.i,.i,.i,.i,.i,.i,.i,.i,.bool,.i,.fix (.sl P9 0),.fix (.sl Q7 0),.fix (.sl RI 0)]),(n4,.box 72 [.cont .i]),(n5,.box 3 [.i]),YD],[],[⟨.c bO 13,RE,128,bV⟩,⟨.c bO 14,QD,135,iu⟩,⟨.c bO 15,Ry,144,bV⟩,⟨.c qB 13,P9,128,bV⟩,⟨.c qB 14,Q7,135,iu⟩,⟨.c qB 15,RI,144,bV⟩]⟩
abbrev Cx:aj:=⟨31,[],[YE,(4294971472,.gone),(qB,.gone),(n4,.gone),(n5,.gone),(4295000064,.gone)],[],[]⟩
noncomputable def Bx:aK:=⟨8,132,Dl,0,D8,Cx,de,false,none,none,[]⟩
abbrev WA:aj:=⟨237,[W3,RL,(12,.cont .i),(14,.cont .i),(16,.cont .i),(182,.cont .i),(183,.i),(184,.i)],[],[(bO,.box 39 [.i,.i,.i,.i,.i,.i,.i,.i,.i,.i,.i,.bool,.i,.fix (.sl 8294968320 0),.fix (.sl 8294968321 0),.fix (.sl 8294968322 0)]),(qB,.box 39 [.i,.i,.i,.i,.i,.i,.i,.i,.i,.i,.i,.bool,.i,.fix (.sl 8294968323 0),.fix (.sl 8294968324 0),.fix (.sl 8294968325 0)])],[⟨.c bO 13,8294968320,128,bV⟩,⟨.c bO 14,8294968321,135,iu⟩,⟨.c bO 15,8294968322,144,bV⟩,⟨.c qB 13,8294968323,128,bV⟩,⟨.c qB 14,8294968324,135,iu⟩,⟨.c qB 15,8294968325,144,bV⟩]⟩
abbrev T4:aj:=⟨237,[W3,RL,(14,.cont .i),(16,.cont .i)],[],[(bO,.box 39 [.i,.i,.i,.i,.i,.i,.i,.i,.i,.i,.i,.bool,.i,.fix (.sl 8294968352 0),.fix (.sl 8294968353 0),.fix (.sl 8294968354 0)]),(qB,.box 39 [.i,.i,.i,.i,.i,.i,.i,.i,.i,.i,.i,.bool,.i,.fix (.sl 8294968355 0),.fix (.sl 8294968356 0),.fix (.sl 8294968357 0)])],[⟨.c bO 13,8294968352,128,bV⟩,⟨.c bO 14,8294968353,135,iu⟩,⟨.c bO 15,8294968354,144,bV⟩,⟨.c qB 13,8294968355,128,bV⟩,⟨.c qB 14,8294968356,135,iu⟩,⟨.c qB 15,8294968357,144,bV⟩]⟩
abbrev Vh:aj:=⟨237,[],[],[],[]⟩
noncomputable def VQ:aK:=⟨9,41,WA,2,T4,Vh,qG,false,none,none,[]⟩
abbrev UA:aj:=⟨237,[W3,RL,(16,.cont .i),(210,.cont .i),(211,.i),(212,.i)],[],[(bO,.box 39 [.i,.i,.i,.i,.i,.i,.i,.i,.i,.i,.i,.bool,.i,.fix (.sl 8294968704 0),.fix (.sl 8294968705 0),.fix (.sl 8294968706 0)]),(qB,.box 39 [.i,.i,.i,.i,.i,.i,.i,.i,.i,.i,.i,.bool,.i,.fix (.sl 8294968707 0),.fix (.sl 8294968708 0),.fix (.sl 8294968709 0)])],[⟨.c bO 13,8294968704,128,bV⟩,⟨.c bO 14,8294968705,135,iu⟩,⟨.c bO 15,8294968706,144,bV⟩,⟨.c qB 13,8294968707,128,bV⟩,⟨.c qB 14,8294968708,135,iu⟩,⟨.c qB 15,8294968709,144,bV⟩]⟩
abbrev Ve:aj:=⟨237,[W3,RL],[],[(bO,.box 39 [.i,.i,.i,.i,.i,.i,.i,.i,.i,.i,.i,.bool,.i,.fix (.sl 8294968736 0),.fix (.sl 8294968737 0),.fix (.sl 8294968738 0)]),(qB,.box 39 [.i,.i,.i,.i,.i,.i,.i,.i,.i,.i,.i,.bool,.i,.fix (.sl 8294968739 0),.fix (.sl 8294968740 0),.fix (.sl 8294968741 0)])],[⟨.c bO 13,8294968736,128,bV⟩,⟨.c bO 14,8294968737,135,iu⟩,⟨.c bO 15,8294968738,144,bV⟩,⟨.c qB 13,8294968739,128,bV⟩,⟨.c qB 14,8294968740,135,iu⟩,⟨.c qB 15,8294968741,144,bV⟩]⟩
abbrev Ux:aj:=⟨237,[],[],[],[]⟩
noncomputable def Ue:aK:=⟨9,41,UA,4,Ve,Ux,rL,false,none,none,[]⟩
noncomputable def R8:aS:=⟨[iW],[.val s5,.val .bool],fun x=>f41 x.1⟩
theorem k41:R8.OK Tryz.prog 41:=aa (n:=10) (lf:=aA) (ak (l:=[(11,uC),(90,Te),(91,Gz),(93,TA),(94,Tn)]) (u:=[]) (z:=[]) ⟨WM,k90,k91,k93,k94,trivial⟩ trivial) (ah (l:=[(18446884819787841536,1,Bx),(bO,16,VQ),(bO,22,Ue)]) ⟨⟨by kernel_rfl,fun z=>by kernel_rfl⟩,⟨by kernel_rfl,fun z=>by kernel_rfl⟩,⟨by kernel_rfl,fun z=>by kernel_rfl⟩,trivial⟩) fun x=>by kernel_rfl
noncomputable def LU:aS:=⟨[iW],[.val s5,.val .i,.val .bool],fun x=>f14 x.1⟩
theorem k14:LU.OK Tryz.prog 14:=aa (n:=10) (lf:=aA) (ak (l:=[(40,NC),(41,R8)]) (u:=[]) (z:=[]) ⟨k40,k41,trivial⟩ trivial) (ah (l:=[]) trivial) fun x=>by kernel_rfl
noncomputable def Kz:aS:=⟨[s5],[.val s5],fun x=>f42 x.1.1.1.1 x.1.1.1.2 x.1.1.2.1.1 x.1.1.2.1.2 x.1.1.2.2.1 x.1.1.2.2.2.1 x.1.1.2.2.2.2.1 x.1.1.2.2.2.2.2 x.1.2.1.1 x.1.2.1.2.1 x.1.2.1.2.2.1 x.1.2.1.2.2.2 x.1.2.2.1 x.1.2.2.2.1 x.1.2.2.2.2.1 x.1.2.2.2.2.2⟩
theorem k42:Kz.OK Tryz.prog 42:=aa (n:=10) (lf:=aA) (ak (l:=[(95,oV),(96,jb),(97,lD)]) (u:=[]) (z:=[]) ⟨yW,qf,tW,trivial⟩ trivial) (ah (l:=[]) trivial) fun x=>by kernel_rfl
noncomputable def zm:aS:=⟨[.i,.i,.i],[.val .bool],fun x=>f104 x.1 x.2.1 x.2.2.1⟩
theorem WK:zm.OK Tryz.prog 104:=aa (n:=10) (lf:=aA) (ak (l:=[]) (u:=[]) (z:=[]) trivial trivial) (ah (l:=[]) trivial) fun x=>by kernel_rfl
noncomputable def GN:aS:=⟨[wm],[.val .bool],fun x=>f98 x.1.1 x.1.2.1 x.1.2.2.1 x.1.2.2.2.1 x.1.2.2.2.2.1 x.1.2.2.2.2.2.1 x.1.2.2.2.2.2.2.1 x.1.2.2.2.2.2.2.2.1 x.1.2.2.2.2.2.2.2.2⟩
theorem k98:GN.OK Tryz.prog 98:=aa (n:=10) (lf:=aA) (ak (l:=[(30,Nd),(104,zm)]) (u:=[]) (z:=[]) ⟨k30,WK,trivial⟩ trivial) (ah (l:=[]) trivial) fun x=>by kernel_rfl
abbrev za:aj:=⟨19,[WU,Ym,Dk,wQ],[Gu,Pf],[],[]⟩
abbrev yg:aj:=⟨19,[],[Gu,Pf],[],[]⟩
abbrev yA:aj:=⟨19,J3,[Gu,Pf],[],[]⟩
noncomputable def zf:aK:=⟨7,191,za,0,yg,yA,eN,false,none,none,[]⟩
abbrev AO:aj:=⟨42,[WU,Ym,(5,.i),(6,.i)],[Gu,Pf],[],[]⟩
abbrev yd:aj:=⟨42,[WU,(5,.i)],[Gu,Pf],[],[]⟩
abbrev yN:aj:=⟨42,[],[YE,(4294971408,.gone)],[],[]⟩
noncomputable def yZ:aK:=⟨8,165,AO,0,yd,yN,eo,false,none,none,[]⟩
noncomputable def Lu:aS:=⟨[eB,.i],[.own 144 bV],fun x=>f137 x.1 x.2.1⟩
theorem aaS:Lu.OK Tryz.prog 137:=aa (n:=10) (lf:=aA) (ak (l:=[(97,lD)]) (u:=[]) (z:=[]) ⟨tW,trivial⟩ trivial) (ah (l:=[(79228238976018540853555363840,2,zf),(18446761876348993536,5,yZ)]) ⟨⟨by kernel_rfl,fun z=>by kernel_rfl⟩,⟨by kernel_rfl,fun z=>by kernel_rfl⟩,trivial⟩) fun x=>by kernel_rfl
abbrev ZE:aj:=⟨45,[(1,.i),Qx,QH,(28,.i),(29,.i)],[],[(fV,.box 39 [.i,.i,.i,.i,.i,.i,.i,.i,.i,.i,.i,.bool,.i,.fix (.sl 8294967680 0),.fix (.sl 8294967681 0),.fix (.sl 8294967682 0)]),(BW,.box 39 [.i,.i,.i,.i,.i,.i,.i,.i,.i,.i,.i,.bool,.i,.fix (.sl 8294967683 0),.fix (.sl 8294967684 0),.fix (.sl 8294967685 0)])],[⟨.c fV 13,8294967680,128,bV⟩,⟨.c fV 14,8294967681,135,iu⟩,⟨.c fV 15,8294967682,144,bV⟩,⟨.c BW 13,8294967683,128,bV⟩,⟨.c BW 14,8294967684,135,iu⟩,⟨.c BW 15,8294967685,144,bV⟩]⟩
abbrev Xn:aj:=⟨45,[(1,.i),Qx,QH],[],[(fV,.box 39 [.i,.i,.i,.i,.i,.i,.i,.i,.i,.i,.i,.bool,.i,.fix (.sl 8294967712 0),.fix (.sl 8294967713 0),.fix (.sl 8294967714 0)]),(BW,.box 39 [.i,.i,.i,.i,.i,.i,.i,.i,.i,.i,.i,.bool,.i,.fix (.sl 8294967715 0),.fix (.sl 8294967716 0),.fix (.sl 8294967717 0)])],[⟨.c fV 13,8294967712,128,bV⟩,⟨.c fV 14,8294967713,135,iu⟩,⟨.c fV 15,8294967714,144,bV⟩,⟨.c BW 13,8294967715,128,bV⟩,⟨.c BW 14,8294967716,135,iu⟩,⟨.c BW 15,8294967717,144,bV⟩]⟩
abbrev Yo:aj:=⟨45,[],[],[],[]⟩
noncomputable def Zt:aK:=⟨9,99,ZE,0,Xn,Yo,xb,false,none,none,[]⟩
noncomputable def Sf:aS:=⟨[s5,.i],[.val s5,.val .bool],fun x=>f99 x.1.1.1.1 x.1.1.1.2 x.1.1.2.1.1 x.1.1.2.1.2 x.1.1.2.2.1 x.1.1.2.2.2.1 x.1.1.2.2.2.2.1 x.1.1.2.2.2.2.2 x.1.2.1.1 x.1.2.1.2.1 x.1.2.1.2.2.1 x.1.2.1.2.2.2 x.1.2.2.1 x.1.2.2.2.1 x.1.2.2.2.2.1 x.1.2.2.2.2.2 x.2.1⟩
theorem k99:Sf.OK Tryz.prog 99:=aa (n:=10) (lf:=aA) (ak (l:=[(11,uC),(95,oV),(96,jb),(97,lD),(137,Lu)]) (u:=[]) (z:=[]) ⟨WM,yW,qf,tW,aaS,trivial⟩ trivial) (ah (l:=[(bO,6,Zt)]) ⟨⟨by kernel_rfl,fun z=>by kernel_rfl⟩,trivial⟩) fun x=>by kernel_rfl
abbrev Ui:aj:=⟨18,[(3,.i),(6,.cont .i),Dk,wQ],[],[],[]⟩
abbrev V1:aj:=⟨18,[(3,.i)],[],[],[]⟩
abbrev T8:aj:=⟨18,[(2,.i)],[],[],[]⟩
noncomputable def Wh:aK:=⟨9,218,Ui,0,V1,T8,lm,false,none,none,[]⟩
noncomputable def LD:aS:=⟨[(.row .i)],[.val .i],fun x=>f218 x.1⟩
theorem aaw:LD.OK Tryz.prog 218:=aa (n:=10) (lf:=aA) (ak (l:=[]) (u:=[]) (z:=[]) trivial trivial) (ah (l:=[(bO,3,Wh)]) ⟨⟨by kernel_rfl,fun z=>by kernel_rfl⟩,trivial⟩) fun x=>by kernel_rfl
noncomputable def Ml:aS:=⟨[.i],[.val .bool],fun x=>f236 x.1⟩
theorem aav:Ml.OK Tryz.prog 236:=aa (n:=10) (lf:=aA) (ak (l:=[]) (u:=[]) (z:=[]) trivial trivial) (ah (l:=[]) trivial) fun x=>by kernel_rfl
noncomputable def K6:aS:=⟨[.i,.i],[.val .i],fun x=>f219 x.1 x.2.1⟩
theorem Z5:K6.OK Tryz.prog 219:=aa (n:=10) (lf:=aA) (ak (l:=[(236,Ml)]) (u:=[]) (z:=[]) ⟨aav,trivial⟩ trivial) (ah (l:=[]) trivial) fun x=>by kernel_rfl
noncomputable def FC:aS:=⟨[Bi,Bi],[.val .i],fun x=>f207 x.1.1 x.1.2 x.2.1.1 x.2.1.2⟩
theorem Xp:FC.OK Tryz.prog 207:=aa (n:=10) (lf:=aA) (ak (l:=[(218,LD),(219,K6)]) (u:=[]) (z:=[]) ⟨aaw,Z5,trivial⟩ trivial) (ah (l:=[]) trivial) fun x=>by kernel_rfl
abbrev zV:aj:=⟨19,[ZM,(1,.fix (.fn (.func 206) [] [(.ptr fV 0),(.ptr bO 0)])),Dk,wQ],[WS,VA],[],[]⟩
abbrev Aw:aj:=⟨19,[],[WS,VA],[],[]⟩
abbrev Ak:aj:=⟨19,J3,[WS,VA],[],[]⟩
noncomputable def zb:aK:=⟨8,158,zV,0,Aw,Ak,eA,false,none,none,[]⟩
noncomputable def ME:aS:=⟨[rp,Bi,(.Bk 123)],[.val .i],fun x=>f193 x.1 x.2.1.1 x.2.1.2⟩
theorem aan:ME.OK Tryz.prog 193:=aa (n:=10) (lf:=aA) (ak (l:=[(123,AJ),(207,FC)]) (u:=[]) (z:=[]) ⟨V9,Xp,trivial⟩ trivial) (ah (l:=[(n6,2,zb)]) ⟨⟨by kernel_rfl,fun z=>by kernel_rfl⟩,trivial⟩) fun x=>by kernel_rfl
noncomputable def Lx:aS:=⟨[rp,iu],[.val rp,.val .bool],fun x=>f167 x.1 x.2.1.1 x.2.1.2.1 x.2.1.2.2.1 x.2.1.2.2.2.1 x.2.1.2.2.2.2⟩
theorem Z3:Lx.OK Tryz.prog 167:=aa (n:=10) (lf:=aA) (ak (l:=[(80,CJ),(96,jb),(123,AJ),(193,ME)]) (u:=[(192,HU)]) (z:=[]) ⟨ZQ,qf,V9,aan,trivial⟩ ⟨MG,trivial⟩) (ah (l:=[]) trivial) fun x=>by kernel_rfl
noncomputable def MT:aS:=⟨[rp,.i,.i],[.val rp,.val .bool],fun x=>f168 x.1 x.2.1 x.2.2.1⟩
theorem aaq:MT.OK Tryz.prog 168:=aa (n:=10) (lf:=aA) (ak (l:=[(80,CJ),(96,jb)]) (u:=[]) (z:=[]) ⟨ZQ,qf,trivial⟩ trivial) (ah (l:=[]) trivial) fun x=>by kernel_rfl
noncomputable def NH:aS:=⟨[bV],[.val (.pair Bi bV)],fun x=>f208 x.1.1 x.1.2.1 x.1.2.2⟩
theorem aaR:NH.OK Tryz.prog 208:=aa (n:=10) (lf:=aA) (ak (l:=[]) (u:=[]) (z:=[]) trivial trivial) (ah (l:=[]) trivial) fun x=>by kernel_rfl
noncomputable def EW:aS:=⟨[bV],[.val Bi],fun x=>f196 x.1.1 x.1.2.1 x.1.2.2⟩
theorem YK:EW.OK Tryz.prog 196:=aa (n:=10) (lf:=aA) (ak (l:=[(208,NH)]) (u:=[]) (z:=[]) ⟨aaR,trivial⟩ trivial) (ah (l:=[]) trivial) fun x=>by kernel_rfl
abbrev yJ:aj:=⟨19,[WZ,(1,.fix (.fn (.func 211) [] [(.ptr fV 0),(.ptr bO 0)])),Dk,wQ],[WS,T9],[],[]⟩
abbrev yz:aj:=⟨19,[],[WS,T9],[],[]⟩
abbrev zk:aj:=⟨19,J3,[WS,T9],[],[]⟩
noncomputable def AH:aK:=⟨8,191,yJ,0,yz,zk,eD,false,none,none,[]⟩
noncomputable def Oa:aS:=⟨[eB,Bi,(.Bk 196)],[.val .i],fun x=>f198 x.1 x.2.1.1 x.2.1.2⟩
theorem aaZ:Oa.OK Tryz.prog 198:=aa (n:=10) (lf:=aA) (ak (l:=[(196,EW),(207,FC)]) (u:=[]) (z:=[]) ⟨YK,Xp,trivial⟩ trivial) (ah (l:=[(n6,2,AH)]) ⟨⟨by kernel_rfl,fun z=>by kernel_rfl⟩,trivial⟩) fun x=>by kernel_rfl
abbrev Ac:aj:=⟨19,[WU,Y0,Dk,wQ],[Zr,Pf],[],[]⟩
abbrev yY:aj:=⟨19,[],[Zr,Pf],[],[]⟩
abbrev yy:aj:=⟨19,J3,[Zr,Pf],[],[]⟩
noncomputable def yK:aK:=⟨7,191,Ac,0,yY,yy,eS,false,none,none,[]⟩
abbrev yT:aj:=⟨42,[WU,Y0,(5,.i),(6,.i)],[Zr,Pf],[],[]⟩
abbrev yL:aj:=⟨42,[WU,(5,.i)],[Zr,Pf],[],[]⟩
abbrev AU:aj:=⟨42,[],[YE,(4294971408,.gone)],[],[]⟩
noncomputable def zQ:aK:=⟨8,165,yT,0,yL,AU,e7,false,none,none,[]⟩
noncomputable def Of:aS:=⟨[eB,bV],[.val eB],fun x=>f169 x.1 x.2.1.1 x.2.1.2.1 x.2.1.2.2⟩
theorem aag:Of.OK Tryz.prog 169:=aa (n:=10) (lf:=aA) (ak (l:=[(97,lD),(196,EW),(198,Oa)]) (u:=[(197,N5)]) (z:=[]) ⟨tW,YK,aaZ,trivial⟩ ⟨RC,trivial⟩) (ah (l:=[(79228238976018540853555363840,2,yK),(18446761876348993536,5,zQ)]) ⟨⟨by kernel_rfl,fun z=>by kernel_rfl⟩,⟨by kernel_rfl,fun z=>by kernel_rfl⟩,trivial⟩) fun x=>by kernel_rfl
abbrev VS:aj:=⟨24,[(6,.cont iu),Dk,wQ],[],[],[⟨.t 3,8294967488,3,.i⟩]⟩
abbrev Ub:aj:=⟨24,[],[],[],[⟨.t 3,8294967520,3,.i⟩]⟩
abbrev V0:aj:=⟨24,[],[],[],[]⟩
noncomputable def Vy:aK:=⟨9,170,VS,0,Ub,V0,uo,false,none,none,[]⟩
noncomputable def Kg:aS:=⟨[rp],[.val (.row .i)],fun x=>f170 x.1⟩
theorem aaE:Kg.OK Tryz.prog 170:=aa (n:=10) (lf:=aA) (ak (l:=[(160,ED)]) (u:=[(199,TO),(200,BT)]) (z:=[]) ⟨YU,trivial⟩ ⟨Vk,JK,trivial⟩) (ah (l:=[(bO,3,Vy)]) ⟨⟨by kernel_rfl,fun z=>by kernel_rfl⟩,trivial⟩) fun x=>by kernel_rfl
abbrev UU:aj:=⟨37,[Q4,(2,.i),(7,.fix (.ptr fV 0)),(16,.cont bV),(17,.i),(18,.i)],[],[(fV,.box 128 [.i,.i,.i])],[]⟩
abbrev VC:aj:=⟨37,[Q4,(2,.i)],[],[],[]⟩
abbrev UC:aj:=⟨37,[wQ],[],[],[]⟩
noncomputable def Uy:aK:=⟨9,234,UU,0,VC,UC,qF,false,none,none,[]⟩
noncomputable def Kq:aS:=⟨[VK,eB,.i,bV],[.val .i],fun x=>f234 x.1.1 x.1.2.1 x.1.2.2.1 x.1.2.2.2.1.1 x.1.2.2.2.1.2.1 x.1.2.2.2.1.2.2 x.1.2.2.2.2 x.2.1 x.2.2.1 x.2.2.2.1.1 x.2.2.2.1.2.1 x.2.2.2.1.2.2⟩
theorem aar:Kq.OK Tryz.prog 234:=aa (n:=10) (lf:=aA) (ak (l:=[(73,OM),(74,NQ)]) (u:=[]) (z:=[]) ⟨k73,k74,trivial⟩ trivial) (ah (l:=[(bO,4,Uy)]) ⟨⟨by kernel_rfl,fun z=>by kernel_rfl⟩,trivial⟩) fun x=>by kernel_rfl
abbrev Aj:aj:=⟨19,[(0,.cont .i),(1,.fix (.fn (.func 233) [] [(.ptr fV 0),(.ptr bO 0),(.ptr n7 0)])),Dk,wQ],[WY,WV,Ug,Uc],[],[]⟩
abbrev yO:aj:=⟨19,[],[WY,WV,Ug,Uc],[],[]⟩
abbrev zZ:aj:=⟨19,J3,[WY,WV,Ug,Uc],[],[]⟩
noncomputable def zI:aK:=⟨6,202,Aj,0,yO,zZ,dw,false,none,none,[]⟩
abbrev yS:aj:=⟨19,[(0,.cont .i),(1,.fix (.fn (.func 233) [] [(.ptr fV 0),(.ptr bO 0),(.ptr n8 0)])),Dk,wQ],[WY,WV,UI],[],[]⟩
abbrev zT:aj:=⟨19,[],[WY,WV,UI],[],[]⟩
abbrev zv:aj:=⟨19,J3,[WY,WV,UI],[],[]⟩
noncomputable def zY:aK:=⟨6,202,yS,0,zT,zv,dy,false,none,none,[]⟩
noncomputable def Ou:aS:=⟨[VK,eB],[.val .i],fun x=>f214 x.1.1 x.1.2.1 x.1.2.2.1 x.1.2.2.2.1.1 x.1.2.2.2.1.2.1 x.1.2.2.2.1.2.2 x.1.2.2.2.2 x.2.1⟩
theorem aaz:Ou.OK Tryz.prog 214:=aa (n:=10) (lf:=aA) (ak (l:=[(32,KY),(121,FO),(234,Kq)]) (u:=[]) (z:=[]) ⟨k32,Y1,aar,trivial⟩ trivial) (ah (l:=[(n9,2,zI),(n10,2,zY)]) ⟨⟨by kernel_rfl,fun z=>by kernel_rfl⟩,⟨by kernel_rfl,fun z=>by kernel_rfl⟩,trivial⟩) fun x=>by kernel_rfl
noncomputable def uH:aS:=⟨[VK,eB],[.val eB,.val .i],fun x=>f201 x.1.1 x.1.2.1 x.1.2.2.1 x.1.2.2.2.1.1 x.1.2.2.2.1.2.1 x.1.2.2.2.1.2.2 x.1.2.2.2.2 x.2.1⟩
theorem Q8:uH.OK Tryz.prog 201:=aa (n:=10) (lf:=aA) (ak (l:=[(95,oV),(214,Ou)]) (u:=[]) (z:=[]) ⟨yW,aaz,trivial⟩ trivial) (ah (l:=[]) trivial) fun x=>by kernel_rfl
noncomputable def M9:aS:=⟨[eB,.i,.i,.i],[.val eB,.val .i],fun x=>f171 x.1 x.2.1 x.2.2.1 x.2.2.2.1⟩
theorem aai:M9.OK Tryz.prog 171:=aa (n:=10) (lf:=aA) (ak (l:=[(201,uH)]) (u:=[]) (z:=[]) ⟨Q8,trivial⟩ trivial) (ah (l:=[]) trivial) fun x=>by kernel_rfl
noncomputable def Kl:aS:=⟨[eB,.i,.i],[.val eB,.val .i],fun x=>f172 x.1 x.2.1 x.2.2.1⟩
theorem Z4:Kl.OK Tryz.prog 172:=aa (n:=10) (lf:=aA) (ak (l:=[(201,uH)]) (u:=[]) (z:=[]) ⟨Q8,trivial⟩ trivial) (ah (l:=[]) trivial) fun x=>by kernel_rfl
noncomputable def LG:aS:=⟨[eB,.i,.i,.i,(.row .i)],[.val eB,.val .i],fun x=>f173 x.1 x.2.1 x.2.2.1 x.2.2.2.1 x.2.2.2.2.1⟩
theorem aaK:LG.OK Tryz.prog 173:=aa (n:=10) (lf:=aA) (ak (l:=[(201,uH)]) (u:=[]) (z:=[]) ⟨Q8,trivial⟩ trivial) (ah (l:=[]) trivial) fun x=>by kernel_rfl
noncomputable def Nn:aS:=⟨[eB,.i,.i,(.row .i)],[.val eB,.val .i],fun x=>f174 x.1 x.2.1 x.2.2.1 x.2.2.2.1⟩
theorem aaf:Nn.OK Tryz.prog 174:=aa (n:=10) (lf:=aA) (ak (l:=[(201,uH)]) (u:=[]) (z:=[]) ⟨Q8,trivial⟩ trivial) (ah (l:=[]) trivial) fun x=>by kernel_rfl
noncomputable def TM:aS:=⟨[s5,wm],[.val s5,.val .i],fun x=>f43 x.1.1.1.1 x.1.1.1.2 x.1.1.2.1.1 x.1.1.2.1.2 x.1.1.2.2.1 x.1.1.2.2.2.1 x.1.1.2.2.2.2.1 x.1.1.2.2.2.2.2 x.1.2.1.1 x.1.2.1.2.1 x.1.2.1.2.2.1 x.1.2.1.2.2.2 x.1.2.2.1 x.1.2.2.2.1 x.1.2.2.2.2.1 x.1.2.2.2.2.2 x.2.1.1 x.2.1.2.1 x.2.1.2.2.1 x.2.1.2.2.2.1 x.2.1.2.2.2.2.1 x.2.1.2.2.2.2.2.1 x.2.1.2.2.2.2.2.2.1 x.2.1.2.2.2.2.2.2.2.1 x.2.1.2.2.2.2.2.2.2.2⟩
theorem k43:TM.OK Tryz.prog 43:=aa (n:=10) (lf:=aA) (ak (l:=[(11,uC),(42,Kz),(62,vu),(80,CJ),(98,GN),(99,Sf),(167,Lx),(168,MT),(169,Of),(170,Kg),(171,M9),(172,Kl),(173,LG),(174,Nn)]) (u:=[]) (z:=[]) ⟨WM,k42,W5,ZQ,k98,k99,Z3,aaq,aag,aaE,aai,Z4,aaK,aaf,trivial⟩ trivial) (ah (l:=[]) trivial) fun x=>by kernel_rfl
abbrev Y4:aj:=⟨33,[W3,Qx,QH,Dk,Zy,(13,.i),(14,.i)],[],[JX,(fV,.box 39 [.i,.i,.i,.i,.i,.i,.i,.i,.i,.i,.i,.bool,.i,.fix (.sl 8294967552 0),.fix (.sl 8294967553 0),.fix (.sl 8294967554 0)]),Xa],[⟨.c fV 13,8294967552,128,bV⟩,⟨.c fV 14,8294967553,135,iu⟩,⟨.c fV 15,8294967554,144,bV⟩]⟩
abbrev Yv:aj:=⟨33,[W3,Qx,QH,Dk],[],[JX,(fV,.box 39 [.i,.i,.i,.i,.i,.i,.i,.i,.i,.i,.i,.bool,.i,.fix (.sl 8294967584 0),.fix (.sl 8294967585 0),.fix (.sl 8294967586 0)]),Xa],[⟨.c fV 13,8294967584,128,bV⟩,⟨.c fV 14,8294967585,135,iu⟩,⟨.c fV 15,8294967586,144,bV⟩]⟩
abbrev XJ:aj:=⟨33,[],[],[],[]⟩
noncomputable def YG:aK:=⟨9,17,Y4,0,Yv,XJ,sC,false,none,none,[]⟩
noncomputable def M6:aS:=⟨[s5,(.row wm)],[.val s5,.val .i],fun x=>f17 x.1.1.1.1 x.1.1.1.2 x.1.1.2.1.1 x.1.1.2.1.2 x.1.1.2.2.1 x.1.1.2.2.2.1 x.1.1.2.2.2.2.1 x.1.1.2.2.2.2.2 x.1.2.1.1 x.1.2.1.2.1 x.1.2.1.2.2.1 x.1.2.1.2.2.2 x.1.2.2.1 x.1.2.2.2.1 x.1.2.2.2.2.1 x.1.2.2.2.2.2 x.2.1⟩
theorem k17:M6.OK Tryz.prog 17:=aa (n:=10) (lf:=aA) (ak (l:=[(42,Kz),(43,TM)]) (u:=[]) (z:=[]) ⟨k42,k43,trivial⟩ trivial) (ah (l:=[(bO,4,YG)]) ⟨⟨by kernel_rfl,fun z=>by kernel_rfl⟩,trivial⟩) fun x=>by kernel_rfl
abbrev VB:aj:=⟨93,[(8,.fix (.ptr 4294983696 0)),(9,.fix (.ptr 4294987824 0))],[],[(4294983696,.box 218 [.fix (.fn (.func 185) [] []),.fix (.fn (.func 185) [] []),.fix (.fn (.func 186) [] []),.fix (.fn (.func 187) [] []),.fix (.fn (.func 186) [] []),.fix (.fn (.func 187) [] []),.fix (.fn (.func 188) [] [])]),(4294987824,.box 222 [.i,.cont .i,.i,.i,.i,.i,.i,.i,.i,.i,.bool,.bool])],[⟨.t 10,8294967744,69,wm⟩]⟩
abbrev VP:aj:=⟨93,[],[],[],[⟨.t 10,8294967776,69,wm⟩]⟩
abbrev Uw:aj:=⟨93,[(5,.bool)],[],[],[⟨.t 4,8294967792,69,wm⟩]⟩
noncomputable def Wv:aK:=⟨9,111,VB,0,VP,Uw,q8,false,none,none,[]⟩
noncomputable def Oh:aS:=⟨[.i,iW],[.val (.row wm),.val .bool],fun x=>f111 x.1 x.2.1⟩
theorem aax:Oh.OK Tryz.prog 111:=aa (n:=10) (lf:=aA) (ak (l:=[(91,Gz),(98,GN),(104,zm)]) (u:=[]) (z:=[]) ⟨k91,k98,WK,trivial⟩ trivial) (ah (l:=[(bO,7,Wv)]) ⟨⟨by kernel_rfl,fun z=>by kernel_rfl⟩,trivial⟩) fun x=>by kernel_rfl
abbrev CE:aj:=⟨69,[(0,.fix (.ja 4295004160)),(2,.fix (.ptr n4 0)),(4,.fix (.ptr 18446902411973885968 0))],[(bO,.box 71 [.i,.i,.i,.i,.i,.i,.i,.i,.i,.i,.i,.bool,.i,.fix (.sl 18446902415973886016 0),.fix (.sl 18446902415973886017 0),.fix (.sl 18446902415973886018 0),.i,.i]),ZC,Zk,(Lb,.box 58 [.fix (.sl 18446902415973886019 0)]),(n4,.box 47 [.cont kR]),X6,Yw],[(18446902411973885968,.box 71 [.i,.i,.i,.i,.i,.i,.i,.i,.i,.i,.i,.bool,.i,.cont bV,.cont iu,.cont bV,.i,.i])],[⟨.c bO 13,18446902415973886016,128,bV⟩,⟨.c bO 14,18446902415973886017,135,iu⟩,⟨.c bO 15,18446902415973886018,144,bV⟩,⟨.c Lb 0,18446902415973886019,69,wm⟩]⟩
abbrev Ch:aj:=⟨69,[],[YE,(4294971488,.gone),(4294983760,.gone),(Lb,.gone),(n4,.gone),(n5,.gone),(4295004160,.gone)],[],[]⟩
abbrev C7:aj:=⟨69,[],[(bO,.box 71 [.i,.i,.i,.i,.i,.i,.i,.i,.i,.i,.i,.bool,.i,.fix (.sl 18446902415973886064 0),.fix (.sl 18446902415973886065 0),.fix (.sl 18446902415973886066 0),.i,.i]),ZC,Zk,(Lb,.box 58 [.fix (.sl 18446902415973886067 0)]),(n4,.box 47 [.cont kR]),X6,Yw],[],[⟨.c bO 13,18446902415973886064,128,bV⟩,⟨.c bO 14,18446902415973886065,135,iu⟩,⟨.c bO 15,18446902415973886066,144,bV⟩,⟨.c Lb 0,18446902415973886067,69,wm⟩]⟩
noncomputable def B5:aK:=⟨8,110,CE,0,Ch,C7,cE,false,none,none,[]⟩
noncomputable def CP:aS:=⟨[iW],[.val (.pair s5 Bi),.val (.row wm),.val .bool],fun x=>f25 x.1⟩
theorem ZL:CP.OK Tryz.prog 25:=aa (n:=10) (lf:=aA) (ak (l:=[(14,LU),(17,M6),(40,NC),(111,Oh)]) (u:=[]) (z:=[]) ⟨k14,k17,k40,aax,trivial⟩ trivial) (ah (l:=[(18446902411973885952,1,B5)]) ⟨⟨by kernel_rfl,fun z=>by kernel_rfl⟩,trivial⟩) fun x=>by kernel_rfl
abbrev VD:aj:=⟨28,[AK,Sa,(10,.i),(11,.i)],[],[(bO,.box 24 [.i,.fix (.sl 8294967488 0)]),(fV,.box 24 [.i,.fix (.sl 8294967489 0)])],[⟨.c bO 1,8294967488,49,qW⟩,⟨.c fV 1,8294967489,49,qW⟩]⟩
abbrev Un:aj:=⟨28,[AK,Sa],[],[(bO,.box 24 [.i,.fix (.sl 8294967520 0)]),(fV,.box 24 [.i,.fix (.sl 8294967521 0)])],[⟨.c bO 1,8294967520,49,qW⟩,⟨.c fV 1,8294967521,49,qW⟩]⟩
abbrev VU:aj:=⟨28,[],[],[],[]⟩
noncomputable def Wj:aK:=⟨9,112,VD,0,Un,VU,qT,false,none,none,[]⟩
noncomputable def vl:aS:=⟨[tN],[.pair (.val .i) (.own 49 qW)],fun x=>f112 x.1.1 x.1.2⟩
theorem Rx:vl.OK Tryz.prog 112:=aa (n:=10) (lf:=aA) (ak (l:=[(129,u5),(157,BJ)]) (u:=[]) (z:=[]) ⟨H7,Hw,trivial⟩ trivial) (ah (l:=[(bO,3,Wj)]) ⟨⟨by kernel_rfl,fun z=>by kernel_rfl⟩,trivial⟩) fun x=>by kernel_rfl
abbrev Rl:aj:=⟨28,[AK,Sa,(10,.i),(11,.i)],[],[Yl,(BW,.xH 49 5 0),(fV,.box 24 [.i,.fix (.sl 8294967488 0)])],[kR0]⟩
abbrev P4:aj:=⟨28,[AK,Sa],[],[Yl,(BW,.xH 49 5 0),(fV,.box 24 [.i,.fix (.sl 8294967520 0)])],[kR1]⟩
abbrev Qv:aj:=⟨28,[],[],[],[]⟩
noncomputable def Rh:aK:=⟨9,112,Rl,0,P4,Qv,GO,false,none,none,[]⟩
noncomputable def HZ:aS:=⟨[Zf],[.pair (.val .i) (.deep 49 5 false)],fun x=>DY x.1.1 x.1.2⟩
theorem YJ:HZ.OK Tryz.prog 112:=aa (n:=10) (lf:=aA) (ak (l:=[(157,xh)]) (u:=[(129,Sr)]) (z:=[]) ⟨Ld,trivial⟩ ⟨QV,trivial⟩) (ah (l:=[(bO,3,Rh)]) ⟨⟨by kernel_rfl,fun z=>by kernel_rfl⟩,trivial⟩) fun x=>by kernel_rfl
abbrev AS:aj:=⟨26,[(1,.fix (.fn (.func 182) [] [(.ptr bO 0),(.ptr fV 0)])),(5,.i),(6,.i)],[GK,(fV,.box 3 [.i])],[],[]⟩
abbrev zK:aj:=⟨26,[(5,.i)],[GK,(fV,.box 3 [.i])],[],[]⟩
abbrev zg:aj:=⟨26,[],[YE,(fV,.gone)],[],[]⟩
noncomputable def Af:aK:=⟨8,181,AS,0,zK,zg,eX,false,none,none,[]⟩
noncomputable def FR:aS:=⟨[tN,.i],[.val .i],fun x=>f149 x.1.1 x.1.2 x.2.1⟩
theorem Zx:FR.OK Tryz.prog 149:=aa (n:=10) (lf:=aA) (ak (l:=[]) (u:=[]) (z:=[]) trivial trivial) (ah (l:=[(n2,2,Af)]) ⟨⟨by kernel_rfl,fun z=>by kernel_rfl⟩,trivial⟩) fun x=>by kernel_rfl
noncomputable def rB:aS:=⟨[tN,.i],[.val .i],fun x=>f113 x.1.1 x.1.2 x.2.1⟩
theorem Nw:rB.OK Tryz.prog 113:=aa (n:=10) (lf:=aA) (ak (l:=[(23,mF),(149,FR)]) (u:=[]) (z:=[]) ⟨Pk,Zx,trivial⟩ trivial) (ah (l:=[]) trivial) fun x=>by kernel_rfl
noncomputable def RW:aS:=⟨[tN,.i],[.val tN,.val .i],fun x=>f26 x.1.1 x.1.2 x.2.1⟩
theorem k26:RW.OK Tryz.prog 26:=aa (n:=10) (lf:=aA) (ak (l:=[(23,mF),(112,vl),(113,rB)]) (u:=[]) (z:=[]) ⟨Pk,Rx,Nw,trivial⟩ trivial) (ah (l:=[]) trivial) fun x=>by kernel_rfl
noncomputable def Tp:aS:=⟨[tN,.i,.i],[.val tN,.val .i],fun x=>f27 x.1.1 x.1.2 x.2.1 x.2.2.1⟩
theorem k27:Tp.OK Tryz.prog 27:=aa (n:=10) (lf:=aA) (ak (l:=[(23,mF),(112,vl),(113,rB)]) (u:=[]) (z:=[]) ⟨Pk,Rx,Nw,trivial⟩ trivial) (ah (l:=[]) trivial) fun x=>by kernel_rfl
abbrev ID:aj:=⟨19,[(0,.fix (.ja 4295000064)),(1,.fix (.ptr n4 0)),(3,.i)],[GK,(fV,.box 28 [.i,.fix (.sl PC 0),.i,.i]),(vV,.box 39 [.i,.i,.i,.i,.i,.i,.i,.i,.i,.i,.i,.bool,.i,.fix (.sl Rr 0),.fix (.sl P6 0),.fix (.sl RP 0)]),(It,.box 71 [.i,.i,.i,.i,.i,.i,.i,.i,.i,.i,.i,.bool,.i,.fix (.sl RR 0),.fix (.sl Qc 0),.fix (.sl 18446884823787841606 0),.i,.i]),(KJ,.box 72 [.fix (.sl 18446884823787841607 0)]),Xz,UW,XS],[],[⟨.c fV 1,PC,49,qW⟩,⟨.c vV 13,Rr,128,bV⟩,⟨.c vV 14,P6,135,iu⟩,⟨.c vV 15,RP,144,bV⟩,⟨.c It 13,RR,128,bV⟩,⟨.c It 14,Qc,135,iu⟩,⟨.c It 15,18446884823787841606,144,bV⟩,⟨.c KJ 0,18446884823787841607,3,.i⟩]⟩
abbrev IZ:aj:=⟨19,[],[GK,(fV,.box 28 [.i,.fix (.sl RE 0),.i,.i]),(vV,.box 39 [.i,.i,.i,.i,.i,.i,.i,.i,.i,.i,.i,.bool,.i,.fix (.sl QD 0),.fix (.sl Ry 0),.fix (.sl P9 0)]),(It,.box 71 [.i,.i,.i,.i,.i,.i,.i,.i,.i,.i,.i,.bool,.i,.fix (.sl Q7 0),.fix (.sl RI 0),.fix (.sl 18446884823787841638 0),.i,.i]),(KJ,.box 72 [.fix (.sl 18446884823787841639 0)]),Xz,UW,XS],[],[⟨.c fV 1,RE,49,qW⟩,⟨.c vV 13,QD,128,bV⟩,⟨.c vV 14,Ry,135,iu⟩,⟨.c vV 15,P9,144,bV⟩,⟨.c It 13,Q7,128,bV⟩,⟨.c It 14,RI,135,iu⟩,⟨.c It 15,18446884823787841638,144,bV⟩,⟨.c KJ 0,18446884823787841639,3,.i⟩]⟩
abbrev Iw:aj:=⟨19,[],[GK,(fV,.box 28 [.i,.fix (.sl 18446884823787841648 0),.i,.i]),(vV,.box 39 [.i,.i,.i,.i,.i,.i,.i,.i,.i,.i,.i,.bool,.i,.fix (.sl 18446884823787841649 0),.fix (.sl 18446884823787841650 0),.fix (.sl 18446884823787841651 0)]),TP,(KJ,.box 72 [.fix (.sl 18446884823787841652 0)]),Xz,UW,(4295000064,.loop 9 8 (.done (.exit 0)) [.fix .an,.fix .an,.fix .an,.fix .an,.fix .an,.fix (.ptr It 0),.fix (.ptr KJ 0),.fix (.ptr Lb 0),.fix .an,.fix (.lit (.tuple #[])),.fix (.lit (.tuple #[])),.fix .an,.fix (.lit (.tuple #[])),.fix .an,.fix .an,.fix .an,.fix .an,.fix .an,.fix .an,.fix .an,.fix .an,.fix .an,.fix .an,.fix .an,.fix (.lit (.tuple #[])),.fix (.lit (.tuple #[])),.fix (.lit (.tuple #[])),.fix (.lit (.tuple #[])),.fix (.lit (.tuple #[])),.fix (.lit (.tuple #[])),.fix (.lit (.tuple #[])),.fix (.lit (.tuple #[])),.fix (.lit (.tuple #[])),.fix (.lit (.tuple #[])),.fix (.lit (.tuple #[])),.fix (.lit (.tuple #[])),.fix (.lit (.tuple #[])),.fix (.lit (.tuple #[])),.fix (.lit (.tuple #[])),.fix (.lit (.tuple #[])),.fix (.lit (.tuple #[])),.fix .an,.fix .an,.fix .an,.fix .an,.fix .an,.fix .an,.fix .an,.fix .an,.fix .an,.fix .an,.fix .an,.fix .an,.fix .an,.fix .an,.fix .an,.fix .an,.fix .an,.fix .an,.fix .an,.fix .an,.fix .an,.fix .an,.fix .an,.fix .an,.fix .an,.fix .an,.fix .an,.fix .an,.fix .an,.fix .an,.fix .an,.fix .an])],[],[⟨.c fV 1,18446884823787841648,49,qW⟩,⟨.c vV 13,18446884823787841649,128,bV⟩,⟨.c vV 14,18446884823787841650,135,iu⟩,⟨.c vV 15,18446884823787841651,144,bV⟩,⟨.c KJ 0,18446884823787841652,3,.i⟩]⟩
noncomputable def I7:aK:=⟨8,54,ID,0,IZ,Iw,bZ,false,none,none,[]⟩
abbrev Yu:aj:=⟨73,[AK,Sa,(3,.fix (.ptr vV 0)),(5,.fix (.ptr It 0)),(7,.fix (.ptr Lb 0)),(46,.i),(47,.i)],[],[GK,(fV,.box 28 [.i,.fix (.sl 8294968257 0),.i,.i]),(vV,.box 39 [.i,.i,.i,.i,.i,.i,.i,.i,.i,.i,.i,.bool,.i,.fix (.sl 8294968258 0),.fix (.sl 8294968259 0),.fix (.sl 8294968260 0)]),TP,Xz],[⟨.t 45,8294968256,3,.i⟩,⟨.c fV 1,8294968257,49,qW⟩,⟨.c vV 13,8294968258,128,bV⟩,⟨.c vV 14,8294968259,135,iu⟩,⟨.c vV 15,8294968260,144,bV⟩]⟩
abbrev Yt:aj:=⟨73,[AK,Sa,(3,.fix (.ptr vV 0)),(5,.fix (.ptr It 0)),(7,.fix (.ptr Lb 0))],[],[GK,(fV,.box 28 [.i,.fix (.sl 8294968288 0),.i,.i]),(vV,.box 39 [.i,.i,.i,.i,.i,.i,.i,.i,.i,.i,.i,.bool,.i,.fix (.sl 8294968289 0),.fix (.sl 8294968290 0),.fix (.sl 8294968291 0)]),TP,Xz],[⟨.c fV 1,8294968288,49,qW⟩,⟨.c vV 13,8294968289,128,bV⟩,⟨.c vV 14,8294968290,135,iu⟩,⟨.c vV 15,8294968291,144,bV⟩]⟩
abbrev Zo:aj:=⟨73,[],[],[],[]⟩
noncomputable def Xr:aK:=⟨9,9,Yu,2,Yt,Zo,lM,false,none,none,[]⟩
noncomputable def RH:aS:=⟨[tN],[.val wk,.val s5,.val .i],fun x=>f9 x.1.1 x.1.2⟩
theorem k9:RH.OK Tryz.prog 9:=aa (n:=10) (lf:=aA) (ak (l:=[(23,mF),(25,CP),(26,RW),(27,Tp)]) (u:=[]) (z:=[]) ⟨Pk,ZL,k26,k27,trivial⟩ trivial) (ah (l:=[(18446884819787841536,1,I7),(bO,15,Xr)]) ⟨⟨by kernel_rfl,fun z=>by kernel_rfl⟩,⟨by kernel_rfl,fun z=>by kernel_rfl⟩,trivial⟩) fun x=>by kernel_rfl
noncomputable def SJ:aS:=⟨[qW,qW],[.val .bool],fun x=>f81 x.1.1 x.1.2.1 x.1.2.2 x.2.1.1 x.2.1.2.1 x.2.1.2.2⟩
theorem k81:SJ.OK Tryz.prog 81:=aa (n:=10) (lf:=aA) (ak (l:=[(82,LQ)]) (u:=[]) (z:=[]) ⟨k82,trivial⟩ trivial) (ah (l:=[]) trivial) fun x=>by kernel_rfl
abbrev EE:aj:=⟨32,[(1,.cont qW),(2,.fix (.fn (.func 81) [] [])),(15,.cont qW),(16,.i),(17,.i)],[GK,Vr],[],[]⟩
abbrev EF:aj:=⟨32,[],[GK,Vr],[],[]⟩
abbrev Ev:aj:=⟨32,[(6,.bool)],[GK,Vr],[],[]⟩
noncomputable def FV:aK:=⟨8,83,EE,0,EF,Ev,dS,false,none,none,[]⟩
noncomputable def Tb:aS:=⟨[tN,tN],[.val .bool],fun x=>f36 x.1.1 x.1.2 x.2.1.1 x.2.1.2⟩
theorem k36:Tb.OK Tryz.prog 36:=aa (n:=10) (lf:=aA) (ak (l:=[(81,SJ)]) (u:=[]) (z:=[]) ⟨k81,trivial⟩ trivial) (ah (l:=[(18446780018290851840,4,FV)]) ⟨⟨by kernel_rfl,fun z=>by kernel_rfl⟩,trivial⟩) fun x=>by kernel_rfl
noncomputable def Mj:aS:=⟨[wk,wk],[.val .bool],fun x=>f12 x.1.1.1 x.1.1.2 x.1.2.1 x.1.2.2 x.2.1.1.1 x.2.1.1.2 x.2.1.2.1 x.2.1.2.2⟩
theorem k12:Mj.OK Tryz.prog 12:=aa (n:=10) (lf:=aA) (ak (l:=[(36,Tb)]) (u:=[]) (z:=[]) ⟨k36,trivial⟩ trivial) (ah (l:=[]) trivial) fun x=>by kernel_rfl
abbrev Xd:aj:=⟨26,[WZ,Q4,(12,.i),(13,.i)],[],[],[]⟩
abbrev YR:aj:=⟨26,[],[],[],[]⟩
abbrev Zi:aj:=⟨26,[(4,.bool)],[],[],[]⟩
noncomputable def Yz:aK:=⟨9,84,Xd,0,YR,Zi,Dm,false,none,none,[]⟩
noncomputable def Sw:aS:=⟨[eB,eB],[.val .bool],fun x=>f84 x.1 x.2.1⟩
theorem k84:Sw.OK Tryz.prog 84:=aa (n:=10) (lf:=aA) (ak (l:=[]) (u:=[]) (z:=[]) trivial trivial) (ah (l:=[(bO,4,Yz)]) ⟨⟨by kernel_rfl,fun z=>by kernel_rfl⟩,trivial⟩) fun x=>by kernel_rfl
noncomputable def Sk:aS:=⟨[eB,eB],[.val .bool],fun x=>f37 x.1 x.2.1⟩
theorem k37:Sk.OK Tryz.prog 37:=aa (n:=10) (lf:=aA) (ak (l:=[(84,Sw)]) (u:=[]) (z:=[]) ⟨k84,trivial⟩ trivial) (ah (l:=[]) trivial) fun x=>by kernel_rfl
abbrev Xm:aj:=⟨26,[ZM,(1,.cont iu),(12,.i),(13,.i)],[],[],[]⟩
abbrev YH:aj:=⟨26,[],[],[],[]⟩
abbrev Y8:aj:=⟨26,[(4,.bool)],[],[],[]⟩
noncomputable def Yh:aK:=⟨9,85,Xm,0,YH,Y8,BV,false,none,none,[]⟩
noncomputable def S7:aS:=⟨[rp,rp],[.val .bool],fun x=>f85 x.1 x.2.1⟩
theorem k85:S7.OK Tryz.prog 85:=aa (n:=10) (lf:=aA) (ak (l:=[]) (u:=[]) (z:=[]) trivial trivial) (ah (l:=[(bO,4,Yh)]) ⟨⟨by kernel_rfl,fun z=>by kernel_rfl⟩,trivial⟩) fun x=>by kernel_rfl
noncomputable def Tl:aS:=⟨[rp,rp],[.val .bool],fun x=>f38 x.1 x.2.1⟩
theorem k38:Tl.OK Tryz.prog 38:=aa (n:=10) (lf:=aA) (ak (l:=[(85,S7)]) (u:=[]) (z:=[]) ⟨k85,trivial⟩ trivial) (ah (l:=[]) trivial) fun x=>by kernel_rfl
abbrev Zq:aj:=⟨26,[WZ,Q4,(12,.i),(13,.i)],[],[],[]⟩
abbrev Yk:aj:=⟨26,[],[],[],[]⟩
abbrev Yb:aj:=⟨26,[(4,.bool)],[],[],[]⟩
noncomputable def Y9:aK:=⟨9,86,Zq,0,Yk,Yb,DX,false,none,none,[]⟩
noncomputable def RS:aS:=⟨[eB,eB],[.val .bool],fun x=>f86 x.1 x.2.1⟩
theorem k86:RS.OK Tryz.prog 86:=aa (n:=10) (lf:=aA) (ak (l:=[]) (u:=[]) (z:=[]) trivial trivial) (ah (l:=[(bO,4,Y9)]) ⟨⟨by kernel_rfl,fun z=>by kernel_rfl⟩,trivial⟩) fun x=>by kernel_rfl
noncomputable def Tc:aS:=⟨[eB,eB],[.val .bool],fun x=>f39 x.1 x.2.1⟩
theorem k39:Tc.OK Tryz.prog 39:=aa (n:=10) (lf:=aA) (ak (l:=[(86,RS)]) (u:=[]) (z:=[]) ⟨k86,trivial⟩ trivial) (ah (l:=[]) trivial) fun x=>by kernel_rfl
noncomputable def GF:aS:=⟨[s5,s5],[.val .bool],fun x=>f13 x.1.1.1.1 x.1.1.1.2 x.1.1.2.1.1 x.1.1.2.1.2 x.1.1.2.2.1 x.1.1.2.2.2.1 x.1.1.2.2.2.2.1 x.1.1.2.2.2.2.2 x.1.2.1.1 x.1.2.1.2.1 x.1.2.1.2.2.1 x.1.2.1.2.2.2 x.1.2.2.1 x.1.2.2.2.1 x.1.2.2.2.2.1 x.1.2.2.2.2.2 x.2.1.1.1.1 x.2.1.1.1.2 x.2.1.1.2.1.1 x.2.1.1.2.1.2 x.2.1.1.2.2.1 x.2.1.1.2.2.2.1 x.2.1.1.2.2.2.2.1 x.2.1.1.2.2.2.2.2 x.2.1.2.1.1 x.2.1.2.1.2.1 x.2.1.2.1.2.2.1 x.2.1.2.1.2.2.2 x.2.1.2.2.1 x.2.1.2.2.2.1 x.2.1.2.2.2.2.1 x.2.1.2.2.2.2.2⟩
theorem k13:GF.OK Tryz.prog 13:=aa (n:=10) (lf:=aA) (ak (l:=[(37,Sk),(38,Tl),(39,Tc)]) (u:=[]) (z:=[]) ⟨k37,k38,k39,trivial⟩ trivial) (ah (l:=[]) trivial) fun x=>by kernel_rfl
noncomputable def OQ:aS:=⟨[iW],[.val s5,.val .bool],fun x=>f15 x.1⟩
theorem k15:OQ.OK Tryz.prog 15:=aa (n:=10) (lf:=aA) (ak (l:=[(25,CP)]) (u:=[]) (z:=[]) ⟨ZL,trivial⟩ trivial) (ah (l:=[]) trivial) fun x=>by kernel_rfl
noncomputable def Cn:aS:=⟨[iW],[.val .i,.val .bool],fun x=>f16 x.1⟩
theorem ZK:Cn.OK Tryz.prog 16:=aa (n:=10) (lf:=aA) (ak (l:=[(25,CP)]) (u:=[]) (z:=[]) ⟨ZL,trivial⟩ trivial) (ah (l:=[]) trivial) fun x=>by kernel_rfl
noncomputable def Gx:aS:=⟨[iW],[.val (.row wm)],fun x=>f18 x.1⟩
theorem k18:Gx.OK Tryz.prog 18:=aa (n:=10) (lf:=aA) (ak (l:=[(25,CP)]) (u:=[]) (z:=[]) ⟨ZL,trivial⟩ trivial) (ah (l:=[]) trivial) fun x=>by kernel_rfl
noncomputable def SO:aS:=⟨[Pg,(.pair .i (.pair .i (.pair .i .bool)))],[.val s5,.val .bool],fun x=>f46 x.1.1.1 x.1.1.2 x.1.2.1.1 x.1.2.1.2 x.1.2.2.1 x.1.2.2.2.1 x.1.2.2.2.2.1 x.1.2.2.2.2.2 x.2.1.1 x.2.1.2.1 x.2.1.2.2.1 x.2.1.2.2.2⟩
theorem k46:SO.OK Tryz.prog 46:=aa (n:=10) (lf:=aA) (ak (l:=[(11,uC)]) (u:=[]) (z:=[]) ⟨WM,trivial⟩ trivial) (ah (l:=[]) trivial) fun x=>by kernel_rfl
noncomputable def Tu:aS:=⟨[],[.val Pg],fun x=>f47 ⟩
theorem k47:Tu.OK Tryz.prog 47:=aa (n:=10) (lf:=aA) (ak (l:=[]) (u:=[]) (z:=[]) trivial trivial) (ah (l:=[]) trivial) fun x=>by kernel_rfl
noncomputable def Tt:aS:=⟨[.i],[.val tN,.val .bool],fun x=>f48 x.1⟩
theorem k48:Tt.OK Tryz.prog 48:=aa (n:=10) (lf:=aA) (ak (l:=[(23,mF)]) (u:=[]) (z:=[]) ⟨Pk,trivial⟩ trivial) (ah (l:=[]) trivial) fun x=>by kernel_rfl
noncomputable def Kn:aS:=⟨[tN],[.val .i,.val .i],fun x=>f28 x.1.1 x.1.2⟩
theorem k28:Kn.OK Tryz.prog 28:=aa (n:=10) (lf:=aA) (ak (l:=[]) (u:=[]) (z:=[]) trivial trivial) (ah (l:=[]) trivial) fun x=>by kernel_rfl
abbrev Ib:List Ty:=[.i]
noncomputable abbrev XL:List (Nat×aS):=[]
noncomputable abbrev Yd:List (Nat×bI):=[]
noncomputable abbrev XO:Cons:=xI XL Yd
abbrev TR:aj:=⟨20,[(1,.i)],[],[],[⟨.t 0,8294967360,5,kR⟩]⟩
abbrev Uk:aj:=⟨20,[(1,.i)],[],[],[⟨.t 0,8294967392,5,kR⟩]⟩
abbrev VM:aj:=⟨20,[],[],[],[]⟩
noncomputable def Lf:aK:=⟨9,150,TR,0,Uk,VM,La,false,none,none,[]⟩
noncomputable abbrev UR:List (Nat×Nat×aK):=[(bO,1,Lf)]
noncomputable def FJ:bI:=⟨5,.int .u8,Ib,false,fun zs x=>W8 zs x.1⟩
theorem Wk:Round Tryz.prog XO (kN UR) aA bO 1 Lf:=⟨by kernel_rfl,fun z=>by kernel_rfl⟩
theorem aah (zs:List (Ty.T kR))(x:cS Ib):HS Tryz.prog XO (kN UR) aA 9 150 5 kR Ib zs x=f150 zs x.1:=by kernel_rfl
theorem Zu [aq][BP Tryz.prog](h:r7 Tryz.prog XL)(h':CF Tryz.prog Yd):FJ.OK Tryz.prog 150:=Az (e:=.int .u8) (f:=fun (zs:List (Ty.T kR)) (x:cS Ib)=>f150 zs x.1) (ak h h') (ah (l:=UR) ⟨Wk,trivial⟩) rfl aah
theorem ZZ:FJ.OK Tryz.prog 150:=Zu trivial trivial
abbrev yo:aj:=⟨20,[(1,.i)],[],[],[⟨.t 0,18446796927282128960,5,kR⟩]⟩
abbrev zL:aj:=⟨20,[(1,.i)],[],[],[⟨.t 0,18446796927282128992,5,kR⟩]⟩
abbrev AE:aj:=⟨20,[],[],[],[]⟩
noncomputable def AL:aK:=⟨8,150,yo,0,zL,AE,qn,false,none,none,[]⟩
noncomputable def FB:aS:=⟨[.i],[.val iW],fun x=>f147 x.1⟩
theorem Y6:FB.OK Tryz.prog 147:=aa (n:=10) (lf:=aA) (ak (l:=[(126,Ar)]) (u:=[]) (z:=[]) ⟨TQ,trivial⟩ trivial) (ah (l:=[(n3,1,AL)]) ⟨⟨by kernel_rfl,fun z=>by kernel_rfl⟩,trivial⟩) fun x=>by kernel_rfl
abbrev UG:aj:=⟨36,[(0,.cont iW),(3,.i),(9,.cont iW),(10,.i),(11,.i)],[],[],[]⟩
abbrev VI:aj:=⟨36,[(0,.cont iW),(3,.i)],[],[],[]⟩
abbrev Ww:aj:=⟨36,[],[],[],[]⟩
noncomputable def Ua:aK:=⟨9,152,UG,0,VI,Ww,NY,false,none,none,[]⟩
abbrev Rf:aj:=⟨36,[(25,.cont iW),(26,.i),(27,.i)],[],[],[⟨.t 6,8294968000,5,kR⟩]⟩
abbrev Pv:aj:=⟨36,[],[],[],[⟨.t 6,8294968032,5,kR⟩]⟩
abbrev Ps:aj:=⟨36,[],[],[],[]⟩
noncomputable def Pp:aK:=⟨9,152,Rf,2,Pv,Ps,Ih,false,none,none,[]⟩
noncomputable def EL:aS:=⟨[(.row iW)],[.val iW],fun x=>f152 x.1⟩
theorem YX:EL.OK Tryz.prog 152:=aa (n:=10) (lf:=aA) (ak (l:=[(183,CZ)]) (u:=[]) (z:=[]) ⟨Rv,trivial⟩ trivial) (ah (l:=[(bO,3,Ua),(bO,11,Pp)]) ⟨⟨by kernel_rfl,fun z=>by kernel_rfl⟩,⟨by kernel_rfl,fun z=>by kernel_rfl⟩,trivial⟩) fun x=>by kernel_rfl
noncomputable def N3:aS:=⟨[iW],[.val iW],fun x=>f151 x.1⟩
theorem aal:N3.OK Tryz.prog 151:=aa (n:=10) (lf:=aA) (ak (l:=[(127,F4),(128,FI),(152,EL)]) (u:=[]) (z:=[UT]) ⟨X8,ZA,YX,trivial⟩ trivial) (ah (l:=[]) trivial) fun x=>by kernel_rfl
noncomputable def FU:aS:=⟨[(.pair .i iW)],[.val iW,.val .bool],fun x=>f107 x.1.1 x.1.2⟩
theorem XM:FU.OK Tryz.prog 107:=aa (n:=10) (lf:=aA) (ak (l:=[(147,FB),(151,N3),(152,EL)]) (u:=[]) (z:=[4294979632,4294979744]) ⟨Y6,aal,YX,trivial⟩ trivial) (ah (l:=[]) trivial) fun x=>by kernel_rfl
noncomputable def Mm:aS:=⟨[tN,.i,iW],[.val tN,.val .i],fun x=>f153 x.1.1 x.1.2 x.2.1 x.2.2.1⟩
theorem Z7:Mm.OK Tryz.prog 153:=aa (n:=10) (lf:=aA) (ak (l:=[(23,mF),(53,Ki),(112,HZ),(113,rB)]) (u:=[]) (z:=[]) ⟨Pk,k53,YJ,Nw,trivial⟩ trivial) (ah (l:=[]) trivial) fun x=>by kernel_rfl
noncomputable def EU:aS:=⟨[(.one iW),tN,.i],[.val tN,.val .i],fun x=>f108 x.1 x.2.1.1 x.2.1.2 x.2.2.1⟩
theorem YL:EU.OK Tryz.prog 108:=aa (n:=10) (lf:=aA) (ak (l:=[(153,Mm)]) (u:=[]) (z:=[]) ⟨Z7,trivial⟩ trivial) (ah (l:=[]) trivial) fun x=>by kernel_rfl
noncomputable def Gc:aS:=⟨[tN,.i],[.val tN,.val .i],fun x=>f109 x.1.1 x.1.2 x.2.1⟩
theorem ZG:Gc.OK Tryz.prog 109:=aa (n:=10) (lf:=aA) (ak (l:=[(23,mF),(112,vl),(113,rB)]) (u:=[]) (z:=[]) ⟨Pk,Rx,Nw,trivial⟩ trivial) (ah (l:=[]) trivial) fun x=>by kernel_rfl
abbrev V4:aj:=⟨24,[(10,.cont .i),(11,.i),(12,.i)],[],[],[⟨.t 4,8294967616,5,kR⟩]⟩
abbrev Vw:aj:=⟨24,[],[],[],[⟨.t 4,8294967648,5,kR⟩]⟩
abbrev Uu:aj:=⟨24,[(3,.bool)],[],[],[⟨.t 2,8294967664,5,kR⟩]⟩
noncomputable def VT:aK:=⟨9,106,V4,0,Vw,Uu,MB,false,none,none,[]⟩
noncomputable def yP:aS:=⟨[(.row .i)],[.own 5 kR,.val .bool],fun x=>f106 x.1⟩
theorem Us:yP.OK Tryz.prog 106:=aa (n:=10) (lf:=aA) (ak (l:=[(126,Ar)]) (u:=[(150,FJ)]) (z:=[]) ⟨TQ,trivial⟩ ⟨ZZ,trivial⟩) (ah (l:=[(bO,5,VT)]) ⟨⟨by kernel_rfl,fun z=>by kernel_rfl⟩,trivial⟩) fun x=>by kernel_rfl
noncomputable def Mw:aS:=⟨[.i,.i],[.val .i],fun x=>f143 x.1 x.2.1⟩
theorem Z0:Mw.OK Tryz.prog 143:=aa (n:=10) (lf:=aA) (ak (l:=[]) (u:=[]) (z:=[]) trivial trivial) (ah (l:=[]) trivial) fun x=>by kernel_rfl
abbrev U1:aj:=⟨69,[(52,.cont bV),(53,.i),(54,.i)],[],[],[⟨.t 5,8294967680,3,.i⟩]⟩
abbrev Up:aj:=⟨69,[],[],[],[⟨.t 5,8294967712,3,.i⟩]⟩
abbrev Vx:aj:=⟨69,[],[],[],[]⟩
noncomputable def UD:aK:=⟨9,144,U1,0,Up,Vx,Fz,false,none,none,[]⟩
noncomputable def MM:aS:=⟨[s5],[.own 3 .i],fun x=>f144 x.1.1.1.1 x.1.1.1.2 x.1.1.2.1.1 x.1.1.2.1.2 x.1.1.2.2.1 x.1.1.2.2.2.1 x.1.1.2.2.2.2.1 x.1.1.2.2.2.2.2 x.1.2.1.1 x.1.2.1.2.1 x.1.2.1.2.2.1 x.1.2.1.2.2.2 x.1.2.2.1 x.1.2.2.2.1 x.1.2.2.2.2.1 x.1.2.2.2.2.2⟩
theorem aaM:MM.OK Tryz.prog 144:=aa (n:=10) (lf:=aA) (ak (l:=[]) (u:=[]) (z:=[]) trivial trivial) (ah (l:=[(bO,6,UD)]) ⟨⟨by kernel_rfl,fun z=>by kernel_rfl⟩,trivial⟩) fun x=>by kernel_rfl
abbrev zn:aj:=⟨19,[(0,.cont .i),(1,.fix (.fn (.func 175) [] [(.ptr bO 0)])),Dk,wQ],[Gu],[],[]⟩
abbrev yU:aj:=⟨19,[],[Gu],[],[]⟩
abbrev Ah:aj:=⟨19,J3,[Gu],[],[]⟩
noncomputable def yb:aK:=⟨7,202,zn,0,yU,Ah,pS,false,none,none,[]⟩
abbrev Vp:aj:=⟨62,kL3,[],[Gu],[⟨.t 8,8294967872,5,kR⟩]⟩
abbrev PV:aj:=⟨62,kL3,[],[Gu],[⟨.t 8,8294968128,5,kR⟩]⟩
abbrev Qo:aj:=⟨62,kL3,[],[Gu],[⟨.t 8,8294968160,5,kR⟩]⟩
abbrev Qa:aj:=⟨62,[],[],[],[]⟩
noncomputable def PE:aK:=⟨9,145,PV,1000000007,Qo,Qa,HM,false,(some 0),none,[]⟩
abbrev Vv:aj:=⟨62,[ZJ,(10,.i)],[],[],[⟨.t 8,8294967904,5,kR⟩]⟩
abbrev UB:aj:=⟨62,[],[],[],[]⟩
noncomputable def U7:aK:=⟨9,145,Vp,0,Vv,UB,EP,false,none,none,[]⟩
noncomputable def LP:aS:=⟨[(.row .i),.i],[.own 5 kR,.val .bool],fun x=>f145 x.1 x.2.1⟩
theorem aaG:LP.OK Tryz.prog 145:=aa (n:=10) (lf:=aA) (ak (l:=[(133,Fl)]) (u:=[]) (z:=[]) ⟨Yp,trivial⟩ trivial) (ah (l:=[(79228390682041803040907853824,2,yb),(bO,13,PE),(bO,9,U7)]) ⟨⟨by kernel_rfl,fun z=>by kernel_rfl⟩,⟨by kernel_rfl,fun z=>by kernel_rfl⟩,⟨by kernel_rfl,fun z=>by kernel_rfl⟩,trivial⟩) fun x=>by kernel_rfl
noncomputable def Mv:aS:=⟨[.i],[.val .i],fun x=>f178 x.1⟩
theorem aa4:Mv.OK Tryz.prog 178:=aa (n:=10) (lf:=aA) (ak (l:=[]) (u:=[]) (z:=[]) trivial trivial) (ah (l:=[]) trivial) fun x=>by kernel_rfl
abbrev Wl:aj:=⟨37,[(0,.cont .i),(5,.fix (.fn (.func 177) [] [(.ptr J6 0)])),(13,.i),(14,.i)],[],[(J6,.box 3 [.i])],[⟨.t 6,8294967616,3,.i⟩]⟩
abbrev We:aj:=⟨37,[],[],[],[⟨.t 6,8294967648,3,.i⟩]⟩
abbrev VF:aj:=⟨37,[(3,.bool)],[],[],[⟨.t 2,8294967664,5,kR⟩]⟩
noncomputable def WL:aK:=⟨9,146,Wl,0,We,VF,LS,false,none,none,[]⟩
noncomputable def NS:aS:=⟨[(.row .i)],[.own 5 kR,.val .bool],fun x=>f146 x.1⟩
theorem aaQ:NS.OK Tryz.prog 146:=aa (n:=10) (lf:=aA) (ak (l:=[(106,yP),(136,EM),(178,Mv)]) (u:=[]) (z:=[]) ⟨Us,Xq,aa4,trivial⟩ trivial) (ah (l:=[(bO,5,WL)]) ⟨⟨by kernel_rfl,fun z=>by kernel_rfl⟩,trivial⟩) fun x=>by kernel_rfl
abbrev ya:aj:=⟨19,[ZM,(1,.fix (.fn (.func 141) [] [(.ptr bO 0)])),Dk,wQ],[JX],[],[]⟩
abbrev ze:aj:=⟨19,[],[JX],[],[]⟩
abbrev Ax:aj:=⟨19,J3,[JX],[],[]⟩
noncomputable def Ai:aK:=⟨7,158,ya,0,ze,Ax,pX,false,none,none,[]⟩
abbrev WI:aj:=⟨117,[AK,(28,.cont iu),(29,.i),(30,.i)],[],[JX],[⟨.t 5,8294967680,3,.i⟩,⟨.t 6,8294967681,3,.i⟩,⟨.t 7,8294967682,3,.i⟩,⟨.t 8,8294967683,3,.i⟩]⟩
abbrev VE:aj:=⟨117,[AK],[],[JX],[⟨.t 5,8294967712,3,.i⟩,⟨.t 6,8294967713,3,.i⟩,⟨.t 7,8294967714,3,.i⟩,⟨.t 8,8294967715,3,.i⟩]⟩
abbrev VJ:aj:=⟨117,[],[],[],[]⟩
noncomputable def U0:aK:=⟨9,101,WI,0,VE,VJ,Fo,false,none,none,[]⟩
abbrev Ro:aj:=⟨117,[AK,(53,.cont bV),(54,.i),(55,.i)],[],[JX],[⟨.t 5,8294968000,3,.i⟩,⟨.t 6,8294968001,3,.i⟩,⟨.t 7,8294968002,3,.i⟩,⟨.t 8,8294968003,3,.i⟩]⟩
abbrev Q1:aj:=⟨117,[AK],[],[JX],[⟨.t 5,8294968032,3,.i⟩,⟨.t 6,8294968033,3,.i⟩,⟨.t 7,8294968034,3,.i⟩,⟨.t 8,8294968035,3,.i⟩]⟩
abbrev P3:aj:=⟨117,[],[],[],[]⟩
noncomputable def Rg:aK:=⟨9,101,Ro,2,Q1,P3,yq,false,none,none,[]⟩
noncomputable def ON:aS:=⟨[s5],[.val iW,.val .bool],fun x=>f101 x.1.1.1.1 x.1.1.1.2 x.1.1.2.1.1 x.1.1.2.1.2 x.1.1.2.2.1 x.1.1.2.2.2.1 x.1.1.2.2.2.2.1 x.1.1.2.2.2.2.2 x.1.2.1.1 x.1.2.1.2.1 x.1.2.1.2.2.1 x.1.2.1.2.2.2 x.1.2.2.1 x.1.2.2.2.1 x.1.2.2.2.2.1 x.1.2.2.2.2.2⟩
theorem aaV:ON.OK Tryz.prog 101:=aa (n:=10) (lf:=aA) (ak (l:=[(11,uC),(106,yP),(143,Mw),(144,MM),(145,LP),(146,NS),(147,FB)]) (u:=[]) (z:=[]) ⟨WM,Us,Z0,aaM,aaG,aaQ,Y6,trivial⟩ trivial) (ah (l:=[(79228315714473887485290086400,2,Ai),(bO,6,U0),(bO,11,Rg)]) ⟨⟨by kernel_rfl,fun z=>by kernel_rfl⟩,⟨by kernel_rfl,fun z=>by kernel_rfl⟩,⟨by kernel_rfl,fun z=>by kernel_rfl⟩,trivial⟩) fun x=>by kernel_rfl
noncomputable def Ky:aS:=⟨[tN,.i],[.val tN,.val .i],fun x=>f103 x.1.1 x.1.2 x.2.1⟩
theorem aao:Ky.OK Tryz.prog 103:=aa (n:=10) (lf:=aA) (ak (l:=[(23,mF),(112,vl),(113,rB),(149,FR)]) (u:=[(148,LB)]) (z:=[4295008368]) ⟨Pk,Rx,Nw,Zx,trivial⟩ ⟨Pw,trivial⟩) (ah (l:=[]) trivial) fun x=>by kernel_rfl
noncomputable def SZ:aS:=⟨[tN,s5],[.val wk,.val .i],fun x=>f49 x.1.1 x.1.2 x.2.1.1.1.1 x.2.1.1.1.2 x.2.1.1.2.1.1 x.2.1.1.2.1.2 x.2.1.1.2.2.1 x.2.1.1.2.2.2.1 x.2.1.1.2.2.2.2.1 x.2.1.1.2.2.2.2.2 x.2.1.2.1.1 x.2.1.2.1.2.1 x.2.1.2.1.2.2.1 x.2.1.2.1.2.2.2 x.2.1.2.2.1 x.2.1.2.2.2.1 x.2.1.2.2.2.2.1 x.2.1.2.2.2.2.2⟩
theorem k49:SZ.OK Tryz.prog 49:=aa (n:=10) (lf:=aA) (ak (l:=[(23,mF),(28,Kn),(101,ON),(103,Ky),(107,FU),(108,EU),(109,Gc)]) (u:=[]) (z:=[]) ⟨Pk,k28,aaV,aao,XM,YL,ZG,trivial⟩ trivial) (ah (l:=[]) trivial) fun x=>by kernel_rfl
noncomputable def Ss:aS:=⟨[],[.val wk,.val s5],fun x=>f21 ⟩
theorem k21:Ss.OK Tryz.prog 21:=aa (n:=10) (lf:=aA) (ak (l:=[(46,SO),(47,Tu),(48,Tt),(49,SZ)]) (u:=[]) (z:=[]) ⟨k46,k47,k48,k49,trivial⟩ trivial) (ah (l:=[]) trivial) fun x=>by kernel_rfl
noncomputable def KB:aS:=⟨[wk],[.val .bool],fun x=>f10 x.1.1.1 x.1.1.2 x.1.2.1 x.1.2.2⟩
theorem k10:KB.OK Tryz.prog 10:=aa (n:=10) (lf:=aA) (ak (l:=[(23,mF),(28,Kn)]) (u:=[]) (z:=[]) ⟨Pk,k28,trivial⟩ trivial) (ah (l:=[]) trivial) fun x=>by kernel_rfl
abbrev XH:aj:=⟨32,[AK,Sa,(3,.fix (.ptr UT 0)),(12,.cont qW),(13,.i),(14,.i)],[],[XK,(fV,.box 28 [.i,.fix (.sl 8294967488 0),.i,.i]),(UT,.box 24 [.i,.fix (.sl 8294967489 0)])],[kR0,⟨.c UT 1,8294967489,49,qW⟩]⟩
abbrev Xc:aj:=⟨32,[AK,Sa,(3,.fix (.ptr UT 0))],[],[XK,(fV,.box 28 [.i,.fix (.sl 8294967520 0),.i,.i]),(UT,.box 24 [.i,.fix (.sl 8294967521 0)])],[kR1,⟨.c UT 1,8294967521,49,qW⟩]⟩
abbrev Xs:aj:=⟨32,[],[],[],[]⟩
noncomputable def Xl:aK:=⟨9,50,XH,0,Xc,Xs,Tj,false,none,none,[]⟩
noncomputable def Sq:aS:=⟨[wk],[.val wk],fun x=>f50 x.1.1.1 x.1.1.2 x.1.2.1 x.1.2.2⟩
theorem k50:Sq.OK Tryz.prog 50:=aa (n:=10) (lf:=aA) (ak (l:=[]) (u:=[]) (z:=[4294987808,4294991920]) trivial trivial) (ah (l:=[(bO,3,Xl)]) ⟨⟨by kernel_rfl,fun z=>by kernel_rfl⟩,trivial⟩) fun x=>by kernel_rfl
noncomputable def Ns:aS:=⟨[wm],[.val (.row .i)],fun x=>f105 x.1.1 x.1.2.1 x.1.2.2.1 x.1.2.2.2.1 x.1.2.2.2.2.1 x.1.2.2.2.2.2.1 x.1.2.2.2.2.2.2.1 x.1.2.2.2.2.2.2.2.1 x.1.2.2.2.2.2.2.2.2⟩
theorem aay:Ns.OK Tryz.prog 105:=aa (n:=10) (lf:=aA) (ak (l:=[]) (u:=[]) (z:=[]) trivial trivial) (ah (l:=[]) trivial) fun x=>by kernel_rfl
abbrev Zp:aj:=⟨48,[(0,.i),Zy,(13,.i),(14,.i)],[],[],[⟨.t 6,8294967616,3,.i⟩]⟩
abbrev Zm:aj:=⟨48,[],[],[],[⟨.t 6,8294967648,3,.i⟩]⟩
abbrev YT:aj:=⟨48,[(5,.bool)],[],[],[⟨.t 4,8294967664,5,kR⟩]⟩
noncomputable def YY:aK:=⟨9,51,Zp,0,Zm,YT,SI,false,none,none,[]⟩
noncomputable def SQ:aS:=⟨[.i,(.row wm)],[.val iW,.val .bool],fun x=>f51 x.1 x.2.1⟩
theorem k51:SQ.OK Tryz.prog 51:=aa (n:=10) (lf:=aA) (ak (l:=[(98,GN),(104,zm),(105,Ns),(106,yP)]) (u:=[]) (z:=[]) ⟨k98,WK,aay,Us,trivial⟩ trivial) (ah (l:=[(bO,5,YY)]) ⟨⟨by kernel_rfl,fun z=>by kernel_rfl⟩,trivial⟩) fun x=>by kernel_rfl
noncomputable def TK:aS:=⟨[wk,(.row wm)],[.val wk,.val .i],fun x=>f22 x.1.1.1 x.1.1.2 x.1.2.1 x.1.2.2 x.2.1⟩
theorem k22:TK.OK Tryz.prog 22:=aa (n:=10) (lf:=aA) (ak (l:=[(10,KB),(50,Sq),(51,SQ),(107,FU),(108,EU),(109,Gc)]) (u:=[]) (z:=[]) ⟨k10,k50,k51,XM,YL,ZG,trivial⟩ trivial) (ah (l:=[]) trivial) fun x=>by kernel_rfl
abbrev aap:aj:=⟨23,[AK,(3,.i)],[],[GK],[]⟩
abbrev aae:aj:=⟨23,[AK],[],[GK],[]⟩
abbrev aaF:aj:=⟨23,[(2,.bool)],[],[],[]⟩
noncomputable def aas:aK:=⟨9,8,aap,0,aae,aaF,EV,false,none,none,[]⟩
noncomputable def Uo:aS:=⟨[tN],[.val .bool],fun x=>f8 x.1.1 x.1.2⟩
theorem k8:Uo.OK Tryz.prog 8:=aa (n:=10) (lf:=aA) (ak (l:=[]) (u:=[]) (z:=[]) trivial trivial) (ah (l:=[(bO,2,aas)]) ⟨⟨by kernel_rfl,fun z=>by kernel_rfl⟩,trivial⟩) fun x=>by kernel_rfl
noncomputable def TI:aS:=⟨[rp,eB],[.val .bool],fun x=>f44 x.1 x.2.1⟩
theorem k44:TI.OK Tryz.prog 44:=aa (n:=10) (lf:=aA) (ak (l:=[]) (u:=[]) (z:=[]) trivial trivial) (ah (l:=[]) trivial) fun x=>by kernel_rfl
noncomputable def Tf:aS:=⟨[s5],[.val .bool],fun x=>f19 x.1.1.1.1 x.1.1.1.2 x.1.1.2.1.1 x.1.1.2.1.2 x.1.1.2.2.1 x.1.1.2.2.2.1 x.1.1.2.2.2.2.1 x.1.1.2.2.2.2.2 x.1.2.1.1 x.1.2.1.2.1 x.1.2.1.2.2.1 x.1.2.1.2.2.2 x.1.2.2.1 x.1.2.2.2.1 x.1.2.2.2.2.1 x.1.2.2.2.2.2⟩
theorem k19:Tf.OK Tryz.prog 19:=aa (n:=10) (lf:=aA) (ak (l:=[(44,TI)]) (u:=[]) (z:=[]) ⟨k44,trivial⟩ trivial) (ah (l:=[]) trivial) fun x=>by kernel_rfl
abbrev XV:aj:=⟨26,[(0,.cont wm),(1,.cont wm),(12,.i),(13,.i)],[],[],[]⟩
abbrev X9:aj:=⟨26,[],[],[],[]⟩
abbrev XZ:aj:=⟨26,[(4,.bool)],[],[],[]⟩
noncomputable def W7:aK:=⟨9,45,XV,0,X9,XZ,xB,false,none,none,[]⟩
noncomputable def Tx:aS:=⟨[(.row wm),(.row wm)],[.val .bool],fun x=>f45 x.1 x.2.1⟩
theorem k45:Tx.OK Tryz.prog 45:=aa (n:=10) (lf:=aA) (ak (l:=[]) (u:=[]) (z:=[]) trivial trivial) (ah (l:=[(bO,4,W7)]) ⟨⟨by kernel_rfl,fun z=>by kernel_rfl⟩,trivial⟩) fun x=>by kernel_rfl
noncomputable def Tq:aS:=⟨[(.row wm),(.row wm)],[.val .bool],fun x=>f20 x.1 x.2.1⟩
theorem k20:Tq.OK Tryz.prog 20:=aa (n:=10) (lf:=aA) (ak (l:=[(45,Tx)]) (u:=[]) (z:=[]) ⟨k45,trivial⟩ trivial) (ah (l:=[]) trivial) fun x=>by kernel_rfl
noncomputable def Nu:aS:=⟨[],[.val .bool],fun x=>f7 ⟩
theorem k7:Nu.OK Tryz.prog 7:=aa (n:=10) (lf:=aA) (ak (l:=[(9,RH),(12,Mj),(13,GF),(15,OQ),(16,Cn),(18,Gx),(21,Ss),(22,TK)]) (u:=[]) (z:=[4294975536]) ⟨k9,k12,k13,k15,ZK,k18,k21,k22,trivial⟩ trivial) (ah (l:=[]) trivial) fun x=>by kernel_rfl
end Go.Proofs.Zz
