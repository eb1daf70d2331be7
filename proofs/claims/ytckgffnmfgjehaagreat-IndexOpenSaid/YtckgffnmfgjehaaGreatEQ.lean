/- Eq18a, Eq18b, Eq18c, Eq18d, Eq18e, Eq18f. -/
import Derived.Test.YtckgffnmfgjehaaGreatPU
import Derived.Test.YtckgffnmfgjehaaGreatFD
namespace Go.Proofs.Zz
open Go Go.Sy
set_option linter.unusedVariables false
set_option maxHeartbeats 0
set_option maxRecDepth 100000
abbrev _root_.Go.Sy.Ty.i:Go.Sy.Ty:=.int .i64
abbrev _root_.Go.Sy.SK.i:Go.Sy.SK:=.int .i64
abbrev n0:Nat:=18446761807629516800
abbrev n1:Nat:=18446867292026306560
abbrev n2:Nat:=18446779399815561216
abbrev n3:Nat:=18446761945068470288
abbrev n4:Nat:=18446761945068470272
abbrev n5:Nat:=18446796923282128896
abbrev n6:Nat:=18446849768559738880
abbrev n7:Nat:=18446849768559738896
abbrev n8:Nat:=79228238976018540853555363840
abbrev n9:Nat:=18446761876348993536
abbrev n10:Nat:=18447060874792271872
abbrev n11:Nat:=18447114201106219008
abbrev n12:Nat:=340288210869433754576934048087100358656
abbrev n13:Nat:=340289194566299531682949609528787730432
abbrev n14:Nat:=18446796992001605632
abbrev n15:Nat:=18446902545117872128
abbrev n16:Nat:=79228843143780514457045696512
abbrev n17:Nat:=1461514192729396845559878576066955113181946576896
abbrev bP:Nat:=4294967296
abbrev fB:Nat:=4294967312
abbrev rO:Nat:=4294967328
abbrev rT:Nat:=4294988496
abbrev x9:Nat:=4294979584
abbrev Ef:Nat:=4294971424
abbrev FE:Nat:=4294979616
abbrev JJ:Nat:=4294987776
abbrev MA:Nat:=4294971392
abbrev M6:Nat:=4294983680
abbrev EE:Nat:=8294967616
abbrev Gb:Nat:=4294971456
abbrev Sq:Nat:=18446884823787841600
abbrev R6:Nat:=18446884823787841601
abbrev TP:Nat:=18446884823787841602
abbrev T7:Nat:=18446884823787841603
abbrev TB:Nat:=18446884823787841604
abbrev SP:Nat:=18446884823787841605
abbrev TW:Nat:=18446884823787841632
abbrev Tq:Nat:=18446884823787841633
abbrev RX:Nat:=18446884823787841634
abbrev TM:Nat:=18446884823787841635
abbrev TS:Nat:=18446884823787841636
abbrev Tg:Nat:=18446884823787841637
abbrev CW:Ty:=.pair .i .i
abbrev bR:Ty:=.pair .i CW
abbrev Ji:Ty:=.pair CW (.pair CW (.pair .i bR))
abbrev jx:Ty:=.row bR
abbrev eF:Ty:=.pair .i (.pair .i bR)
abbrev ld:Ty:=.row eF
abbrev yc:Ty:=.pair Ji (.pair (.pair .i (.pair .i (.pair .i .bool))) (.pair .i (.pair jx (.pair ld jx))))
abbrev lN:Ty:=.int .u8
abbrev jC:Ty:=.row lN
abbrev uN:Ty:=.pair .i (.pair jC .i)
abbrev FC:Ty:=.pair .i (.pair .i (.pair .i (.pair .i (.pair .i (.pair .i (.pair .i (.pair .i .bool)))))))
abbrev uI:Ty:=.pair .i (.row uN)
abbrev YY:Ty:=.pair .i (.pair .i (.pair .i (.pair bR (.row .i))))
abbrev Ea:Ty:=.pair uI CW
abbrev xU:Nat×SK:=(8,.i)
abbrev yS:Nat×SK:=(7,.i)
abbrev CJ:Nat×SK:=(1,.fix (.ptr bP 0))
abbrev IP:Nat×SK:=(4,.i)
abbrev TK:Nat×SK:=(10,.i)
abbrev kK5:Nat×SK:=(9,.int .u64)
abbrev U3:Nat×SK:=(2,.fix (.ptr fB 0))
abbrev ZH:Nat×SK:=(0,.cont eF)
abbrev ZG:Nat×SK:=(2,.fix (.ptr bP 0))
abbrev ZA:Nat×SK:=(0,.fix (.sl 4294971408 0))
abbrev Ym:Nat×SK:=(0,.cont lN)
abbrev TO:Nat×SK:=(0,.cont bR)
abbrev SE:Nat×SK:=(8,.fix (.ptr rT 0))
abbrev Sl:Nat×SK:=(4,.fix (.ptr fB 0))
abbrev Tm:Nat×SK:=(6,.fix (.ptr Ef 0))
abbrev Z5:Nat×SK:=(3,.fix (.ptr bP 0))
abbrev TG:Nat×SK:=(3,.fix (.ptr FE 0))
abbrev WY:Nat×SK:=(1,.fix (.fn (.func 187) [(.ptr Ef 0)] []))
abbrev XQ:Nat×SK:=(18,.cont uN)
abbrev YZ:Nat×SK:=(0,.fix (.ptr FE 0))
abbrev ZJ:Nat×SK:=(8,.cont eF)
abbrev aaw:Nat×SK:=(1,.fix (.fn (.func 192) [] [(.ptr bP 0)]))
abbrev abP:Nat×SK:=(1,.fix (.fn (.func 205) [] [(.ptr bP 0)]))
abbrev aa2:Nat×SK:=(12,.cont FC)
abbrev CP:Nat×OS:=(bP,.box 3 [.i])
abbrev Jt:Nat×OS:=(bP,.box 45 [.i,.cont uN])
abbrev Ms:Nat×OS:=(bP,.box 55 [.i,.i,.i,.i,.i,.i,.i,.i,.i,.i,.i,.bool,.i,.cont bR,.cont eF,.cont bR])
abbrev R7:Nat×OS:=(x9,.cL)
abbrev RG:Nat×OS:=(4294971408,.row 184 bR 0)
abbrev Yg:Nat×OS:=(fB,.box 3 [.i])
abbrev Yf:Nat×OS:=(bP,.gone)
abbrev kO7:Nat×OS:=(4294991904,.box 84 [.i,.cont lN,.i])
abbrev kO8:Nat×OS:=(4294996080,.box 55 [.i,.i,.i,.i,.i,.i,.i,.i,.i,.i,.i,.bool,.i,.cont bR,.cont eF,.cont bR])
abbrev ZD:Nat×OS:=(bP,.box 252 [.i,.i])
abbrev LJ:Nat×OS:=(bP,.box 285 [.i,.i,.i,.i,.i,.i,.cont .i])
abbrev LV:Nat×OS:=(fB,.box 51 [.cont bR])
abbrev Uu:Nat×OS:=(FE,.box 99 [.fix (.sl EE 0),.fix (.mp x9)])
abbrev MQ:Nat×OS:=(bP,.box 184 [.i,.i,.i])
abbrev Rg:Nat×OS:=(JJ,.box 3 [.i])
abbrev YN:Nat×OS:=(EE,.row 27 eF 0)
abbrev XZ:Nat×OS:=(n15,.box 55 [.i,.i,.i,.i,.i,.i,.i,.i,.i,.i,.i,.bool,.i,.cont bR,.cont eF,.cont bR])
abbrev Tn:Nat×OS:=(Ef,.box 256 [.int .u32])
abbrev XS:Nat×OS:=(bP,.box 34 [.i,.i,.i,.i,.i,.i,.i,.i])
abbrev Y0:Nat×OS:=(rO,.box 3 [.i])
abbrev YJ:Nat×OS:=(4294967344,.box 3 [.i])
abbrev XW:Nat×OS:=(4294983744,.box 3 [.i])
abbrev XD:Nat×OS:=(n1,.box 22 [.cont eF])
abbrev Wl:Nat×OS:=(4294987824,.box 180 [.i,.i,.i])
abbrev ac7:Nat×OS:=(n3,.box 253 [.fix (.fn (.func 179) [] [])])
abbrev XI:Nat×OS:=(4294975488,.box 4 [.bool])
abbrev Zv:Nat×OS:=(n5,.box 82 [.cont lN])
abbrev Wp:Nat×OS:=(fB,.box 253 [.fix (.fn (.func 179) [] [])])
abbrev XO:Nat×OS:=(fB,.box 279 [.fix (.fn (.func 206) [] [])])
abbrev YI:Nat×OS:=(4295020624,.box 180 [.i,.i,.i])
abbrev W3:Nat×OS:=(n10,.box 180 [.i,.i,.i])
abbrev XR:Nat×OS:=(n11,.box 180 [.i,.i,.i])
abbrev Zl:Nat×OS:=(fB,.box 34 [.i,.i,.i,.i,.i,.i,.i,.i])
abbrev Yu:Nat×OS:=(rO,.box 4 [.bool])
abbrev Xq:Nat×OS:=(n14,.box 43 [.cont uN])
abbrev WN:Nat×OS:=(n6,.box 43 [.cont uN])
abbrev YH:Nat×OS:=(x9,.box 86 [.i,.i,.i,.i,.i,.i,.i,.i,.i,.i,.i,.bool,.i,.cont bR,.cont eF,.cont bR,.i,.i])
abbrev acA:Nat×OS:=(n16,.box 27 [.i,.i,.i,.i,.i])
abbrev ZU:Nat×OS:=(4295004160,.loop 14 9 .ready [.fix .ah,.fix .ah,.fix .ah,.fix .ah,.fix .ah,.fix .ah,.fix .ah,.fix (.ptr fB 0),.fix .ah,.fix (.ptr rO 0),.fix (.ptr 4294967344 0),.fix .ah,.fix (.ptr 4294983744 0),.fix .ah,.fix (.lit (.tuple #[])),.fix .ah,.fix .ah,.fix .ah,.fix .ah,.fix .ah,.fix .ah,.fix .ah,.fix .ah,.fix .ah,.fix .ah,.fix .ah,.fix .ah,.fix .ah,.fix .ah,.fix .ah,.fix .ah,.fix (.lit (.tuple #[])),.fix (.lit (.tuple #[])),.fix (.lit (.tuple #[])),.fix (.lit (.tuple #[])),.fix (.lit (.tuple #[])),.fix (.lit (.tuple #[])),.fix (.lit (.tuple #[])),.fix (.lit (.tuple #[])),.fix (.lit (.tuple #[])),.fix (.lit (.tuple #[])),.fix (.lit (.tuple #[])),.fix (.lit (.tuple #[])),.fix (.lit (.tuple #[])),.fix (.lit (.tuple #[])),.fix (.lit (.tuple #[])),.fix (.lit (.tuple #[])),.fix (.lit (.tuple #[])),.fix (.lit (.tuple #[])),.fix (.lit (.tuple #[])),.fix (.lit (.tuple #[])),.fix (.lit (.tuple #[])),.fix (.lit (.tuple #[])),.fix (.lit (.tuple #[])),.fix (.lit (.tuple #[])),.fix (.lit (.tuple #[])),.fix (.lit (.tuple #[])),.fix (.lit (.tuple #[])),.fix (.lit (.tuple #[])),.fix (.lit (.tuple #[])),.fix (.lit (.tuple #[]))])
abbrev aax:Nat×OS:=(4294991872,.loop 101 6 .ready [.fix .ah,.fix .ah,.fix .ah,.fix .ah,.fix (.ptr MA 0),.fix (.ptr 4294975488 0),.fix (.lit (.tuple #[])),.fix (.lit (.tuple #[])),.fix .ah,.fix .ah,.fix (.lit (.tuple #[])),.fix (.lit (.tuple #[])),.fix (.lit (.tuple #[])),.fix (.lit (.tuple #[])),.fix (.lit (.tuple #[])),.fix (.lit (.tuple #[])),.fix (.lit (.tuple #[])),.fix (.lit (.tuple #[])),.fix (.lit (.tuple #[])),.fix (.lit (.tuple #[])),.fix (.lit (.tuple #[])),.fix (.lit (.tuple #[])),.fix (.lit (.tuple #[])),.fix .ah,.fix .ah,.fix .ah])
abbrev Z0:Nat×OS:=(4294971472,.box 171 [.cont lN,.cont lN,.cont lN,.cont lN,.cont lN])
abbrev aaq:Nat×OS:=(4295000064,.loop 71 8 .ready [.fix .ah,.fix .ah,.fix .ah,.fix .ah,.fix .ah,.fix .ah,.fix .ah,.fix .ah,.fix (.ptr rT 0),.fix (.lit (.tuple #[])),.fix .ah,.fix .ah,.fix .ah,.fix .ah,.fix .ah,.fix .ah,.fix .ah,.fix .ah,.fix .ah,.fix .ah,.fix .ah,.fix .ah,.fix .ah,.fix .ah,.fix .ah,.fix .ah,.fix .ah,.fix .ah,.fix .ah,.fix .ah,.fix .ah,.fix .ah,.fix .ah,.fix .ah,.fix .ah,.fix .ah,.fix .ah,.fix .ah,.fix .ah,.fix .ah,.fix .ah,.fix .ah,.fix .ah,.fix .ah,.fix .ah,.fix .ah,.fix .ah,.fix .ah,.fix .ah,.fix .ah,.fix .ah,.fix .ah,.fix .ah,.fix .ah,.fix .ah,.fix .ah,.fix .ah,.fix .ah,.fix .ah,.fix .ah,.fix .ah,.fix .ah,.fix .ah,.fix .ah,.fix .ah,.fix .ah,.fix .ah,.fix .ah,.fix .ah,.fix .ah,.fix .ah,.fix .ah,.fix .ah,.fix .ah,.fix .ah,.fix .ah,.fix .ah,.fix .ah,.fix .ah,.fix .ah,.fix .ah,.fix .ah,.fix .ah,.fix .ah,.fix .ah,.fix .ah,.fix .ah,.fix .ah,.fix .ah,.fix .ah,.fix .ah,.fix .ah,.fix .ah,.fix .ah,.fix .ah,.fix .ah,.fix .ah,.fix .ah,.fix .ah,.fix .ah,.fix .ah,.fix .ah,.fix .ah,.fix .ah,.fix .ah,.fix .ah,.fix .ah,.fix (.lit (.tuple #[])),.fix (.lit (.tuple #[])),.fix (.lit (.tuple #[])),.fix (.lit (.tuple #[])),.fix (.lit (.tuple #[])),.fix (.lit (.tuple #[])),.fix (.lit (.tuple #[])),.fix (.lit (.tuple #[])),.fix (.lit (.tuple #[])),.fix (.lit (.tuple #[])),.fix (.lit (.tuple #[])),.fix (.lit (.tuple #[])),.fix (.lit (.tuple #[])),.fix (.lit (.tuple #[])),.fix (.lit (.tuple #[])),.fix (.lit (.tuple #[])),.fix .ah,.fix .ah,.fix .ah,.fix .ah,.fix .ah,.fix .ah,.fix .ah,.fix .ah,.fix .ah,.fix .ah,.fix .ah,.fix .ah,.fix .ah,.fix .ah,.fix .ah,.fix .ah,.fix .ah,.fix .ah,.fix .ah,.fix .ah,.fix .ah,.fix .ah,.fix .ah,.fix .ah,.fix .ah,.fix .ah,.fix .ah,.fix .ah,.fix .ah,.fix .ah,.fix .ah,.fix .ah,.fix .ah,.fix .ah,.fix .ah,.fix .ah,.fix .ah,.fix .ah,.fix .ah,.fix .ah,.fix .ah,.fix .ah,.fix .ah,.fix .ah,.fix .ah,.fix .ah,.fix .ah,.fix .ah,.fix .ah,.fix .ah,.fix .ah,.fix .ah,.fix .ah,.fix .ah,.fix .ah,.fix .ah,.fix .ah,.fix .ah,.fix .ah,.fix .ah,.fix .ah,.fix .ah,.fix .ah,.fix .ah,.fix .ah,.fix .ah,.fix .ah,.fix .ah,.fix .ah,.fix .ah,.fix .ah,.fix .ah,.fix .ah,.fix .ah,.fix .ah,.fix .ah,.fix .ah,.fix .ah,.fix .ah,.fix .ah,.fix .ah,.fix .ah,.fix .ah,.fix .ah,.fix .ah,.fix .ah,.fix .ah,.fix .ah,.fix .ah,.fix .ah,.fix .ah,.fix .ah,.fix .ah,.fix .ah,.fix .ah,.fix .ah,.fix .ah,.fix .ah,.fix .ah,.fix .ah,.fix .ah,.fix .ah,.fix .ah,.fix .ah,.fix .ah,.fix .ah,.fix .ah,.fix .ah,.fix .ah,.fix .ah,.fix .ah,.fix .ah,.fix .ah,.fix .ah])
abbrev abA:Nat×OS:=(Ef,.box 55 [.i,.i,.i,.i,.i,.i,.i,.i,.i,.i,.i,.bool,.i,.cont bR,.cont eF,.cont bR])
abbrev abT:Nat×OS:=(4294971488,.box 55 [.i,.i,.i,.i,.i,.i,.i,.i,.i,.i,.i,.bool,.i,.cont bR,.cont eF,.cont bR])
abbrev Z4:Nat×OS:=(4294983760,.box 86 [.i,.i,.i,.i,.i,.i,.i,.i,.i,.i,.i,.bool,.i,.cont bR,.cont eF,.cont bR,.i,.i])
abbrev abE:Nat×OS:=(n7,.box 86 [.i,.i,.i,.i,.i,.i,.i,.i,.i,.i,.i,.bool,.i,.cont bR,.cont eF,.cont bR,.i,.i])
abbrev aam:Nat×OS:=(4295004160,.loop 36 9 .ready [.fix .ah,.fix .ah,.fix .ah,.fix .ah,.fix .ah,.fix .ah,.fix .ah,.fix .ah,.fix (.ptr 4294983760 0),.fix (.ptr JJ 0),.fix (.lit (.tuple #[])),.fix (.lit (.tuple #[])),.fix .ah,.fix .ah,.fix .ah,.fix .ah,.fix .ah,.fix .ah,.fix .ah,.fix .ah,.fix .ah,.fix .ah,.fix .ah,.fix .ah,.fix .ah,.fix .ah,.fix .ah,.fix .ah,.fix .ah,.fix (.lit (.tuple #[])),.fix (.lit (.tuple #[])),.fix (.lit (.tuple #[])),.fix (.lit (.tuple #[])),.fix (.lit (.tuple #[])),.fix (.lit (.tuple #[])),.fix .ah,.fix .ah])
abbrev ab6:Nat×OS:=(bP,.box 45 [.i,.fix (.zR Ef)])
abbrev aau:Nat×OS:=(bP,.box 48 [.i,.cont uN,.i,.i])
abbrev aaf:Nat×OS:=(JJ,.loop 23 5 .ready [.fix .ah,.fix .ah,.fix (.ptr fB 0),.fix (.ptr rO 0),.fix .ah,.fix (.lit (.tuple #[])),.fix (.lit (.tuple #[])),.fix .ah,.fix (.lit (.tuple #[])),.fix .ah,.fix .ah,.fix .ah,.fix .ah,.fix .ah,.fix .ah,.fix .ah,.fix .ah,.fix (.lit (.tuple #[])),.fix (.lit (.tuple #[])),.fix (.lit (.tuple #[])),.fix (.lit (.tuple #[])),.fix (.lit (.tuple #[])),.fix (.lit (.tuple #[])),.fix (.lit (.tuple #[])),.fix (.lit (.tuple #[])),.fix (.lit (.tuple #[])),.fix (.lit (.tuple #[])),.fix (.lit (.tuple #[])),.fix .ah])
abbrev abw:Nat×OS:=(4295000064,.loop 18 8 .ready [.fix .ah,.fix .ah,.fix .ah,.fix .ah,.fix .ah,.fix (.ptr x9 0),.fix (.ptr M6 0),.fix (.ptr JJ 0),.fix .ah,.fix (.lit (.tuple #[])),.fix (.lit (.tuple #[])),.fix .ah,.fix (.lit (.tuple #[])),.fix .ah,.fix .ah,.fix .ah,.fix .ah,.fix .ah,.fix .ah,.fix .ah,.fix .ah,.fix .ah,.fix .ah,.fix .ah,.fix (.lit (.tuple #[])),.fix (.lit (.tuple #[])),.fix (.lit (.tuple #[])),.fix (.lit (.tuple #[])),.fix (.lit (.tuple #[])),.fix (.lit (.tuple #[])),.fix (.lit (.tuple #[])),.fix (.lit (.tuple #[])),.fix (.lit (.tuple #[])),.fix (.lit (.tuple #[])),.fix (.lit (.tuple #[])),.fix (.lit (.tuple #[])),.fix (.lit (.tuple #[])),.fix (.lit (.tuple #[])),.fix (.lit (.tuple #[])),.fix (.lit (.tuple #[])),.fix (.lit (.tuple #[])),.fix .ah,.fix .ah,.fix .ah,.fix .ah,.fix .ah,.fix .ah,.fix .ah,.fix .ah,.fix .ah,.fix .ah,.fix .ah,.fix .ah,.fix .ah,.fix .ah,.fix .ah,.fix .ah,.fix .ah,.fix .ah,.fix .ah,.fix .ah,.fix .ah,.fix .ah,.fix .ah,.fix .ah,.fix .ah,.fix .ah,.fix .ah,.fix .ah,.fix .ah,.fix .ah,.fix .ah,.fix .ah])
abbrev aai:Nat×OS:=(EE,.row 27 eF 1)
abbrev kR0:iM:=⟨.t 5,18446761811629516992,27,eF⟩
abbrev kR1:iM:=⟨.t 5,18446761811629517024,27,eF⟩
abbrev kR2:iM:=⟨.c fB 1,8294967488,84,uN⟩
abbrev kR3:iM:=⟨.c fB 1,8294967520,84,uN⟩
abbrev kL0:List (Nat×OS):=[(n4,.box 252 [.i,.i]),ac7]
abbrev kL1:List (Nat×SK):=[Ym,(2,.i),kK5,TK,(17,.i),(18,.i)]
abbrev kL2:List (Nat×SK):=[Z5,kK5,TK,(27,.cont .i),(28,.i),(29,.i)]
abbrev kL3:List (Nat×OS):=[Uu,R7,YN,kO7,kO8,XZ,acA]
abbrev kL4:List (Nat×OS):=[(FE,.gone),(x9,.gone),(EE,.gone),(4294991904,.gone),(4294996080,.gone)]
abbrev FY:aj:=⟨23,[(1,.fix (.fn (.func 25) [] [(.ptr fB 0),(.ptr bP 0)])),ZJ,(9,.i),TK],[CP,Yg],[],[kR0]⟩
abbrev IR:aj:=⟨23,[],[CP,Yg],[],[kR1]⟩
abbrev Gq:aj:=⟨23,[],[Yf,(fB,.gone)],[],[]⟩
noncomputable def GN:aK:=⟨8,24,FY,0,IR,Gq,xq,false,none,none,[]⟩
noncomputable def VE:aX:=⟨[ld,.i,.i],[.val ld],fun x=>f10 x.1 x.2.1 x.2.2.1⟩
theorem k10:VE.OK Tryz.prog 10:=aa (n:=10) (lf:=az) (an (l:=[]) (u:=[]) (z:=[]) trivial trivial) (ak (l:=[(n0,3,GN)]) ⟨⟨by kernel_rfl,fun z=>by kernel_rfl⟩,trivial⟩) fun x=>by kernel_rfl
abbrev HH:aj:=⟨23,[(1,.fix (.fn (.func 26) [] [(.ptr bP 0)])),ZJ,(9,.i),TK],[CP],[],[kR0]⟩
abbrev Iz:aj:=⟨23,[],[CP],[],[kR1]⟩
abbrev IQ:aj:=⟨23,[],[Yf],[],[]⟩
noncomputable def Iq:aK:=⟨8,24,HH,0,Iz,IQ,wo,false,none,none,[]⟩
noncomputable def Vy:aX:=⟨[ld,.i],[.val ld],fun x=>f11 x.1 x.2.1⟩
theorem k11:Vy.OK Tryz.prog 11:=aa (n:=10) (lf:=az) (an (l:=[]) (u:=[]) (z:=[]) trivial trivial) (ak (l:=[(n0,3,Iq)]) ⟨⟨by kernel_rfl,fun z=>by kernel_rfl⟩,trivial⟩) fun x=>by kernel_rfl
abbrev abU:aj:=⟨26,[ZH,(1,.cont eF),(12,.i),(13,.i)],[],[],[]⟩
abbrev abi:aj:=⟨26,[],[],[],[]⟩
abbrev ab5:aj:=⟨26,[(4,.bool)],[],[],[]⟩
noncomputable def aae:aK:=⟨9,27,abU,0,abi,ab5,Uz,false,none,none,[]⟩
noncomputable def Vg:aX:=⟨[ld,ld],[.val .bool],fun x=>f27 x.1 x.2.1⟩
theorem k27:Vg.OK Tryz.prog 27:=aa (n:=10) (lf:=az) (an (l:=[]) (u:=[]) (z:=[]) trivial trivial) (ak (l:=[(bP,4,aae)]) ⟨⟨by kernel_rfl,fun z=>by kernel_rfl⟩,trivial⟩) fun x=>by kernel_rfl
noncomputable def UB:aX:=⟨[ld,ld],[.val .bool],fun x=>f12 x.1 x.2.1⟩
theorem k12:UB.OK Tryz.prog 12:=aa (n:=10) (lf:=az) (an (l:=[(27,Vg)]) (u:=[]) (z:=[]) ⟨k27,trivial⟩ trivial) (ak (l:=[]) trivial) fun x=>by kernel_rfl
noncomputable def VM:aX:=⟨[.i,.i,.i],[.val .bool],fun x=>f51 x.1 x.2.1 x.2.2.1⟩
theorem k51:VM.OK Tryz.prog 51:=aa (n:=10) (lf:=az) (an (l:=[]) (u:=[]) (z:=[]) trivial trivial) (ak (l:=[]) trivial) fun x=>by kernel_rfl
noncomputable def Kv:aX:=⟨[CW],[.val .bool],fun x=>f61 x.1.1 x.1.2⟩
theorem k61:Kv.OK Tryz.prog 61:=aa (n:=10) (lf:=az) (an (l:=[]) (u:=[]) (z:=[]) trivial trivial) (ak (l:=[]) trivial) fun x=>by kernel_rfl
noncomputable def ry:aX:=⟨[CW],[.val .i],fun x=>f29 x.1.1 x.1.2⟩
theorem Vh:ry.OK Tryz.prog 29:=aa (n:=10) (lf:=az) (an (l:=[(61,Kv)]) (u:=[]) (z:=[]) ⟨k61,trivial⟩ trivial) (ak (l:=[]) trivial) fun x=>by kernel_rfl
noncomputable def VJ:aX:=⟨[CW,.i],[.val .i],fun x=>f90 x.1.1 x.1.2 x.2.1⟩
theorem k90:VJ.OK Tryz.prog 90:=aa (n:=10) (lf:=az) (an (l:=[(61,Kv)]) (u:=[]) (z:=[]) ⟨k61,trivial⟩ trivial) (ak (l:=[]) trivial) fun x=>by kernel_rfl
noncomputable def U9:aX:=⟨[CW,CW],[.val .bool],fun x=>f54 x.1.1 x.1.2 x.2.1.1 x.2.1.2⟩
theorem k54:U9.OK Tryz.prog 54:=aa (n:=10) (lf:=az) (an (l:=[(61,Kv),(90,VJ)]) (u:=[]) (z:=[]) ⟨k61,k90,trivial⟩ trivial) (ak (l:=[]) trivial) fun x=>by kernel_rfl
noncomputable def Fz:aX:=⟨[Ji],[.val .i],fun x=>f30 x.1.1.1 x.1.1.2 x.1.2.1.1 x.1.2.1.2 x.1.2.2.1 x.1.2.2.2.1 x.1.2.2.2.2.1 x.1.2.2.2.2.2⟩
theorem k30:Fz.OK Tryz.prog 30:=aa (n:=10) (lf:=az) (an (l:=[(29,ry)]) (u:=[]) (z:=[]) ⟨Vh,trivial⟩ trivial) (ak (l:=[]) trivial) fun x=>by kernel_rfl
noncomputable def Q0:aX:=⟨[Ji],[.val .i],fun x=>f58 x.1.1.1 x.1.1.2 x.1.2.1.1 x.1.2.1.2 x.1.2.2.1 x.1.2.2.2.1 x.1.2.2.2.2.1 x.1.2.2.2.2.2⟩
theorem k58:Q0.OK Tryz.prog 58:=aa (n:=10) (lf:=az) (an (l:=[]) (u:=[]) (z:=[]) trivial trivial) (ak (l:=[]) trivial) fun x=>by kernel_rfl
noncomputable def vf:aX:=⟨[Ji],[.val .bool],fun x=>f28 x.1.1.1 x.1.1.2 x.1.2.1.1 x.1.2.1.2 x.1.2.2.1 x.1.2.2.2.1 x.1.2.2.2.2.1 x.1.2.2.2.2.2⟩
theorem Zx:vf.OK Tryz.prog 28:=aa (n:=10) (lf:=az) (an (l:=[(29,ry),(30,Fz),(51,VM),(54,U9),(58,Q0)]) (u:=[]) (z:=[]) ⟨Vh,k30,k51,k54,k58,trivial⟩ trivial) (ak (l:=[]) trivial) fun x=>by kernel_rfl
noncomputable def Nz:aX:=⟨[Ji],[.val .i],fun x=>f31 x.1.1.1 x.1.1.2 x.1.2.1.1 x.1.2.1.2 x.1.2.2.1 x.1.2.2.2.1 x.1.2.2.2.2.1 x.1.2.2.2.2.2⟩
theorem k31:Nz.OK Tryz.prog 31:=aa (n:=10) (lf:=az) (an (l:=[(28,vf),(30,Fz),(58,Q0)]) (u:=[]) (z:=[]) ⟨Zx,k30,k58,trivial⟩ trivial) (ak (l:=[]) trivial) fun x=>by kernel_rfl
noncomputable def O3:aX:=⟨[Ji,.i],[.val bR,.val .bool],fun x=>f13 x.1.1.1 x.1.1.2 x.1.2.1.1 x.1.2.1.2 x.1.2.2.1 x.1.2.2.2.1 x.1.2.2.2.2.1 x.1.2.2.2.2.2 x.2.1⟩
theorem k13:O3.OK Tryz.prog 13:=aa (n:=10) (lf:=az) (an (l:=[(28,vf),(29,ry),(30,Fz),(31,Nz)]) (u:=[]) (z:=[]) ⟨Zx,Vh,k30,k31,trivial⟩ trivial) (ak (l:=[]) trivial) fun x=>by kernel_rfl
noncomputable def US:aX:=⟨[Ji,.i,.i],[.val .i],fun x=>f15 x.1.1.1 x.1.1.2 x.1.2.1.1 x.1.2.1.2 x.1.2.2.1 x.1.2.2.2.1 x.1.2.2.2.2.1 x.1.2.2.2.2.2 x.2.1 x.2.2.1⟩
theorem k15:US.OK Tryz.prog 15:=aa (n:=10) (lf:=az) (an (l:=[(13,O3),(28,vf),(29,ry),(30,Fz),(31,Nz)]) (u:=[]) (z:=[]) ⟨k13,Zx,Vh,k30,k31,trivial⟩ trivial) (ak (l:=[]) trivial) fun x=>by kernel_rfl
noncomputable def PX:aX:=⟨[Ji],[.val .i],fun x=>f33 x.1.1.1 x.1.1.2 x.1.2.1.1 x.1.2.1.2 x.1.2.2.1 x.1.2.2.2.1 x.1.2.2.2.2.1 x.1.2.2.2.2.2⟩
theorem k33:PX.OK Tryz.prog 33:=aa (n:=10) (lf:=az) (an (l:=[(28,vf)]) (u:=[]) (z:=[]) ⟨Zx,trivial⟩ trivial) (ak (l:=[]) trivial) fun x=>by kernel_rfl
noncomputable def UN:aX:=⟨[Ji,.i,.i],[.val .i],fun x=>f16 x.1.1.1 x.1.1.2 x.1.2.1.1 x.1.2.1.2 x.1.2.2.1 x.1.2.2.2.1 x.1.2.2.2.2.1 x.1.2.2.2.2.2 x.2.1 x.2.2.1⟩
theorem k16:UN.OK Tryz.prog 16:=aa (n:=10) (lf:=az) (an (l:=[(28,vf),(29,ry),(33,PX)]) (u:=[]) (z:=[]) ⟨Zx,Vh,k33,trivial⟩ trivial) (ak (l:=[]) trivial) fun x=>by kernel_rfl
abbrev GX:aj:=⟨19,[(0,.fix (.iK 4295004160)),(1,.fix (.ptr n1 0)),(3,.i)],[XS,Yg,Y0,YJ,XW,XD,ZU],[],[]⟩
abbrev G6:aj:=⟨19,[],[XS,Yg,Y0,YJ,XW,XD,ZU],[],[]⟩
abbrev GF:aj:=⟨19,[],[XS,Yg,Y0,YJ,XW,XD,(4295004160,.loop 14 9 (.done .ret) [.fix .ah,.fix .ah,.fix .ah,.fix .ah,.fix .ah,.fix .ah,.fix .ah,.fix (.ptr fB 0),.fix .ah,.fix (.ptr rO 0),.fix (.ptr 4294967344 0),.fix .ah,.fix (.ptr 4294983744 0),.fix .ah,.fix (.lit (.tuple #[])),.fix .ah,.fix .ah,.fix .ah,.fix .ah,.fix .ah,.fix .ah,.fix .ah,.fix .ah,.fix .ah,.fix .ah,.fix .ah,.fix .ah,.fix .ah,.fix .ah,.fix .ah,.fix .ah,.fix (.lit (.tuple #[])),.fix (.lit (.tuple #[])),.fix (.lit (.tuple #[])),.fix (.lit (.tuple #[])),.fix (.lit (.tuple #[])),.fix (.lit (.tuple #[])),.fix (.lit (.tuple #[])),.fix (.lit (.tuple #[])),.fix (.lit (.tuple #[])),.fix (.lit (.tuple #[])),.fix (.lit (.tuple #[])),.fix (.lit (.tuple #[])),.fix (.lit (.tuple #[])),.fix (.lit (.tuple #[])),.fix (.lit (.tuple #[])),.fix (.lit (.tuple #[])),.fix (.lit (.tuple #[])),.fix (.lit (.tuple #[])),.fix (.lit (.tuple #[])),.fix (.lit (.tuple #[])),.fix (.lit (.tuple #[])),.fix (.lit (.tuple #[])),.fix (.lit (.tuple #[])),.fix (.lit (.tuple #[])),.fix (.lit (.tuple #[])),.fix (.lit (.tuple #[])),.fix (.lit (.tuple #[])),.fix (.lit (.tuple #[])),.fix (.lit (.tuple #[])),.fix (.lit (.tuple #[]))])],[],[]⟩
noncomputable def Gh:aK:=⟨8,62,GX,0,G6,GF,vq,false,none,none,[]⟩
noncomputable def V8:aX:=⟨[Ji,ld,.i,.i,.i],[.val .i],fun x=>f14 x.1.1.1 x.1.1.2 x.1.2.1.1 x.1.2.1.2 x.1.2.2.1 x.1.2.2.2.1 x.1.2.2.2.2.1 x.1.2.2.2.2.2 x.2.1 x.2.2.1 x.2.2.2.1 x.2.2.2.2.1⟩
theorem k14:V8.OK Tryz.prog 14:=aa (n:=10) (lf:=az) (an (l:=[(15,US),(16,UN)]) (u:=[]) (z:=[]) ⟨k15,k16,trivial⟩ trivial) (ak (l:=[(18446902411973885952,1,Gh)]) ⟨⟨by kernel_rfl,fun z=>by kernel_rfl⟩,trivial⟩) fun x=>by kernel_rfl
abbrev aaa:aj:=⟨19,[(3,.i),(6,.cont uN),yS,xU],[],[],[]⟩
abbrev aa3:aj:=⟨19,[(3,.i)],[],[],[]⟩
abbrev aaX:aj:=⟨19,[],[],[],[]⟩
noncomputable def aaI:aK:=⟨9,63,aaa,0,aa3,aaX,yz,false,none,none,[]⟩
noncomputable def PM:aX:=⟨[(.row uN)],[.val .i],fun x=>f63 x.1⟩
theorem k63:PM.OK Tryz.prog 63:=aa (n:=10) (lf:=az) (an (l:=[]) (u:=[]) (z:=[]) trivial trivial) (ak (l:=[(bP,3,aaI)]) ⟨⟨by kernel_rfl,fun z=>by kernel_rfl⟩,trivial⟩) fun x=>by kernel_rfl
abbrev abS:aj:=⟨60,[CJ,(3,.i),(7,.cont uN),xU,(9,.i)],[],[Jt],[]⟩
abbrev abV:aj:=⟨60,[CJ],[],[Jt],[]⟩
abbrev aaZ:aj:=⟨60,[(2,.bool)],[],[],[]⟩
noncomputable def ZN:aK:=⟨9,34,abS,0,abV,aaZ,xp,false,none,none,[]⟩
noncomputable def jK:aX:=⟨[uI],[.val .bool],fun x=>f34 x.1.1 x.1.2⟩
theorem Mn:jK.OK Tryz.prog 34:=aa (n:=10) (lf:=az) (an (l:=[(63,PM)]) (u:=[]) (z:=[]) ⟨k63,trivial⟩ trivial) (ak (l:=[(bP,3,ZN)]) ⟨⟨by kernel_rfl,fun z=>by kernel_rfl⟩,trivial⟩) fun x=>by kernel_rfl
noncomputable def N2:aX:=⟨[lN],[.val .bool],fun x=>f133 x.1⟩
theorem adg:N2.OK Tryz.prog 133:=aa (n:=10) (lf:=az) (an (l:=[]) (u:=[]) (z:=[]) trivial trivial) (ak (l:=[]) trivial) fun x=>by kernel_rfl
abbrev EF:aj:=⟨19,[Ym,(1,.fix (.fn (.func 133) [] [])),yS,xU],[],[],[]⟩
abbrev En:aj:=⟨19,[],[],[],[]⟩
abbrev Dh:aj:=⟨19,[IP],[],[],[]⟩
noncomputable def Ej:aK:=⟨7,171,EF,0,En,Dh,eo,false,none,none,[]⟩
noncomputable def Vo:aX:=⟨[jC],[.val .bool],fun x=>f97 x.1⟩
theorem k97:Vo.OK Tryz.prog 97:=aa (n:=10) (lf:=az) (an (l:=[(133,N2)]) (u:=[]) (z:=[]) ⟨adg,trivial⟩ trivial) (ak (l:=[(79228239566314351212261015552,2,Ej)]) ⟨⟨by kernel_rfl,fun z=>by kernel_rfl⟩,trivial⟩) fun x=>by kernel_rfl
noncomputable def CB:aX:=⟨[.i],[.val .bool],fun x=>f120 x.1⟩
theorem Y7:CB.OK Tryz.prog 120:=aa (n:=10) (lf:=az) (an (l:=[]) (u:=[]) (z:=[]) trivial trivial) (ak (l:=[]) trivial) fun x=>by kernel_rfl
abbrev abv:aj:=⟨63,[(1,.i),(6,.i),(29,.cont lN),(30,.i),(31,.i)],[],[],[]⟩
abbrev aaL:aj:=⟨63,[],[],[],[]⟩
abbrev aaU:aj:=⟨63,[IP,(5,.i)],[],[],[]⟩
noncomputable def aas:aK:=⟨9,98,abv,0,aaL,aaU,vC,false,none,none,[]⟩
noncomputable def Jj:aX:=⟨[jC,.i],[.val .i,.val .i],fun x=>f98 x.1 x.2.1⟩
theorem k98:Jj.OK Tryz.prog 98:=aa (n:=10) (lf:=az) (an (l:=[(120,CB)]) (u:=[]) (z:=[]) ⟨Y7,trivial⟩ trivial) (ak (l:=[(bP,5,aas)]) ⟨⟨by kernel_rfl,fun z=>by kernel_rfl⟩,trivial⟩) fun x=>by kernel_rfl
abbrev WZ:aj:=⟨26,[Ym,(1,.cont lN),(12,.i),(13,.i)],[],[],[]⟩
abbrev XF:aj:=⟨26,[],[],[],[]⟩
abbrev WO:aj:=⟨26,[(4,.bool)],[],[],[]⟩
noncomputable def YM:aK:=⟨9,134,WZ,0,XF,WO,oY,false,none,none,[]⟩
noncomputable def PG:aX:=⟨[jC,jC],[.val .bool],fun x=>f134 x.1 x.2.1⟩
theorem acN:PG.OK Tryz.prog 134:=aa (n:=10) (lf:=az) (an (l:=[]) (u:=[]) (z:=[]) trivial trivial) (ak (l:=[(bP,4,YM)]) ⟨⟨by kernel_rfl,fun z=>by kernel_rfl⟩,trivial⟩) fun x=>by kernel_rfl
noncomputable def Im:aX:=⟨[(.int .u32)],[.val jC],fun x=>f135 x.1⟩
theorem ab1:Im.OK Tryz.prog 135:=aa (n:=10) (lf:=az) (an (l:=[]) (u:=[]) (z:=[]) trivial trivial) (ak (l:=[]) trivial) fun x=>by kernel_rfl
abbrev AW:aj:=⟨26,[WY,(7,.cont lN),xU,(9,.i)],[Tn],[],[]⟩
abbrev zV:aj:=⟨26,[WY,(5,.int .u8),(7,.cont lN),xU,(9,.i),(13,.i)],[Tn],[],[]⟩
abbrev AY:aj:=⟨26,[WY,(7,.cont lN),xU,(9,.i)],[Tn],[],[]⟩
abbrev B9:aj:=⟨26,[],[(Ef,.gone)],[],[]⟩
noncomputable def BQ:aK:=⟨8,186,zV,2,AY,B9,dH,false,none,none,[]⟩
abbrev AB:aj:=⟨26,[],[Tn],[],[]⟩
abbrev Cg:aj:=⟨26,[],[(Ef,.gone)],[],[]⟩
noncomputable def Bz:aK:=⟨8,186,AW,0,AB,Cg,eS,false,none,none,[]⟩
noncomputable def Ox:aX:=⟨[(.int .u32),jC],[.val (.int .u32)],fun x=>f172 x.1 x.2.1⟩
theorem adE:Ox.OK Tryz.prog 172:=aa (n:=10) (lf:=az) (an (l:=[]) (u:=[]) (z:=[]) trivial trivial) (ak (l:=[(n2,4,BQ),(n2,1,Bz)]) ⟨⟨by kernel_rfl,fun z=>by kernel_rfl⟩,⟨by kernel_rfl,fun z=>by kernel_rfl⟩,trivial⟩) fun x=>by kernel_rfl
noncomputable def IK:aX:=⟨[jC],[.val (.int .u32)],fun x=>f136 x.1⟩
theorem aap:IK.OK Tryz.prog 136:=aa (n:=10) (lf:=az) (an (l:=[(172,Ox)]) (u:=[]) (z:=[]) ⟨adE,trivial⟩ trivial) (ak (l:=[]) trivial) fun x=>by kernel_rfl
noncomputable def Vk:aX:=⟨[jC],[.val jC,.val .bool],fun x=>f99 x.1⟩
theorem k99:Vk.OK Tryz.prog 99:=aa (n:=10) (lf:=az) (an (l:=[(131,vI),(134,PG),(135,Im),(136,IK)]) (u:=[]) (z:=[]) ⟨JN,acN,ab1,aap,trivial⟩ trivial) (ak (l:=[]) trivial) fun x=>by kernel_rfl
noncomputable def PN:aX:=⟨[jC,.i],[.val (.pair .i jC),.val .i,.val .i],fun x=>f70 x.1 x.2.1⟩
theorem k70:PN.OK Tryz.prog 70:=aa (n:=10) (lf:=az) (an (l:=[(97,Vo),(98,Jj),(99,Vk)]) (u:=[]) (z:=[]) ⟨k97,k98,k99,trivial⟩ trivial) (ak (l:=[]) trivial) fun x=>by kernel_rfl
noncomputable def Ce:aX:=⟨[.i,.i,.i],[.val .bool],fun x=>f107 x.1 x.2.1 x.2.2.1⟩
theorem WK:Ce.OK Tryz.prog 107:=aa (n:=10) (lf:=az) (an (l:=[]) (u:=[]) (z:=[]) trivial trivial) (ak (l:=[]) trivial) fun x=>by kernel_rfl
noncomputable def Gs:aX:=⟨[(.pair .i (.pair .i (.pair .i .bool)))],[.val .bool],fun x=>f106 x.1.1 x.1.2.1 x.1.2.2.1 x.1.2.2.2⟩
theorem ab9:Gs.OK Tryz.prog 106:=aa (n:=10) (lf:=az) (an (l:=[(107,Ce)]) (u:=[]) (z:=[]) ⟨WK,trivial⟩ trivial) (ak (l:=[]) trivial) fun x=>by kernel_rfl
noncomputable def G3:aX:=⟨[bR,bR],[.val .bool],fun x=>f145 x.1.1 x.1.2.1 x.1.2.2 x.2.1.1 x.2.1.2.1 x.2.1.2.2⟩
theorem ab4:G3.OK Tryz.prog 145:=aa (n:=10) (lf:=az) (an (l:=[]) (u:=[]) (z:=[]) trivial trivial) (ak (l:=[]) trivial) fun x=>by kernel_rfl
noncomputable def HL:aX:=⟨[bR,.i],[.val .bool],fun x=>f146 x.1.1 x.1.2.1 x.1.2.2 x.2.1⟩
theorem abq:HL.OK Tryz.prog 146:=aa (n:=10) (lf:=az) (an (l:=[]) (u:=[]) (z:=[]) trivial trivial) (ak (l:=[]) trivial) fun x=>by kernel_rfl
abbrev Wk:aj:=⟨39,[TO,(1,.i),(19,.cont bR),(20,.i),(21,.i)],[],[],[]⟩
abbrev Bf:aj:=⟨19,[TO,(1,.fix (.fn (.func 144) [] [(.ptr 4294987824 0)])),yS,xU],[Wl],[],[]⟩
abbrev Bh:aj:=⟨19,[],[Wl],[],[]⟩
abbrev AN:aj:=⟨19,[IP],[Wl],[],[]⟩
noncomputable def zZ:aK:=⟨7,175,Bf,0,Bh,AN,fA,false,none,none,[]⟩
abbrev WA:aj:=⟨39,[],[],[],[]⟩
abbrev YX:aj:=⟨39,[(4,.bool)],[],[],[]⟩
noncomputable def Wn:aK:=⟨9,108,Wk,0,WA,YX,nq,false,none,none,[]⟩
noncomputable def G8:aX:=⟨[jx,.i],[.val .bool],fun x=>f108 x.1 x.2.1⟩
theorem aaz:G8.OK Tryz.prog 108:=aa (n:=10) (lf:=az) (an (l:=[(145,G3),(146,HL)]) (u:=[]) (z:=[]) ⟨ab4,abq,trivial⟩ trivial) (ak (l:=[(79228694094088327415612833792,2,zZ),(bP,4,Wn)]) ⟨⟨by kernel_rfl,fun z=>by kernel_rfl⟩,⟨by kernel_rfl,fun z=>by kernel_rfl⟩,trivial⟩) fun x=>by kernel_rfl
noncomputable def Pm:aX:=⟨[yc],[.val .i],fun x=>f109 x.1.1.1.1 x.1.1.1.2 x.1.1.2.1.1 x.1.1.2.1.2 x.1.1.2.2.1 x.1.1.2.2.2.1 x.1.1.2.2.2.2.1 x.1.1.2.2.2.2.2 x.1.2.1.1 x.1.2.1.2.1 x.1.2.1.2.2.1 x.1.2.1.2.2.2 x.1.2.2.1 x.1.2.2.2.1 x.1.2.2.2.2.1 x.1.2.2.2.2.2⟩
theorem acH:Pm.OK Tryz.prog 109:=aa (n:=10) (lf:=az) (an (l:=[(29,ry)]) (u:=[]) (z:=[]) ⟨Vh,trivial⟩ trivial) (ak (l:=[]) trivial) fun x=>by kernel_rfl
noncomputable def FL:aX:=⟨[Ji,.i,.i],[.val bR,.val .bool],fun x=>f148 x.1.1.1 x.1.1.2 x.1.2.1.1 x.1.2.1.2 x.1.2.2.1 x.1.2.2.2.1 x.1.2.2.2.2.1 x.1.2.2.2.2.2 x.2.1 x.2.2.1⟩
theorem ab2:FL.OK Tryz.prog 148:=aa (n:=10) (lf:=az) (an (l:=[(29,ry),(33,PX)]) (u:=[]) (z:=[]) ⟨Vh,k33,trivial⟩ trivial) (ak (l:=[]) trivial) fun x=>by kernel_rfl
noncomputable def ID:aX:=⟨[bR,.i],[.val .bool],fun x=>f177 x.1.1 x.1.2.1 x.1.2.2 x.2.1⟩
theorem ab8:ID.OK Tryz.prog 177:=aa (n:=10) (lf:=az) (an (l:=[]) (u:=[]) (z:=[]) trivial trivial) (ak (l:=[]) trivial) fun x=>by kernel_rfl
abbrev AQ:aj:=⟨19,[TO,(1,.fix (.fn (.func 176) [] [(.ptr bP 0)])),yS,xU],[CP],[],[]⟩
abbrev Bj:aj:=⟨19,[],[CP],[],[]⟩
abbrev BO:aj:=⟨19,[IP],[CP],[],[]⟩
noncomputable def AM:aK:=⟨8,175,AQ,0,Bj,BO,e9,false,none,none,[]⟩
noncomputable def MG:aX:=⟨[jx,.i],[.val .i],fun x=>f149 x.1 x.2.1⟩
theorem acS:MG.OK Tryz.prog 149:=aa (n:=10) (lf:=az) (an (l:=[(177,ID)]) (u:=[]) (z:=[]) ⟨ab8,trivial⟩ trivial) (ak (l:=[(n0,2,AM)]) ⟨⟨by kernel_rfl,fun z=>by kernel_rfl⟩,trivial⟩) fun x=>by kernel_rfl
noncomputable def HE:aX:=⟨[.i,.i,.i,.i],[.val .bool],fun x=>f150 x.1 x.2.1 x.2.2.1 x.2.2.2.1⟩
theorem aao:HE.OK Tryz.prog 150:=aa (n:=10) (lf:=az) (an (l:=[]) (u:=[]) (z:=[]) trivial trivial) (ak (l:=[]) trivial) fun x=>by kernel_rfl
abbrev Zr:aj:=⟨124,[CJ,(3,.fix (.mp MA)),(12,.cont eF),(13,.i),(14,.i)],[],[Ms,(MA,.map)],[]⟩
abbrev Wg:aj:=⟨124,[CJ],[],[Ms],[]⟩
abbrev X3:aj:=⟨124,[(2,.bool)],[],[],[]⟩
noncomputable def Yd:aK:=⟨9,110,Zr,0,Wg,X3,nB,false,none,none,[]⟩
noncomputable def Ph:aX:=⟨[yc],[.val .bool],fun x=>f110 x.1.1.1.1 x.1.1.1.2 x.1.1.2.1.1 x.1.1.2.1.2 x.1.1.2.2.1 x.1.1.2.2.2.1 x.1.1.2.2.2.2.1 x.1.1.2.2.2.2.2 x.1.2.1.1 x.1.2.1.2.1 x.1.2.1.2.2.1 x.1.2.1.2.2.2 x.1.2.2.1 x.1.2.2.2.1 x.1.2.2.2.2.1 x.1.2.2.2.2.2⟩
theorem acK:Ph.OK Tryz.prog 110:=aa (n:=10) (lf:=az) (an (l:=[(13,O3),(148,FL),(149,MG),(150,HE)]) (u:=[]) (z:=[]) ⟨k13,ab2,acS,aao,trivial⟩ trivial) (ak (l:=[(bP,3,Yd)]) ⟨⟨by kernel_rfl,fun z=>by kernel_rfl⟩,trivial⟩) fun x=>by kernel_rfl
noncomputable def H8:aX:=⟨[eF],[.val (.pair CW eF)],fun x=>f189 x.1.1 x.1.2.1 x.1.2.2.1 x.1.2.2.2.1 x.1.2.2.2.2⟩
theorem abp:H8.OK Tryz.prog 189:=aa (n:=10) (lf:=az) (an (l:=[]) (u:=[]) (z:=[]) trivial trivial) (ak (l:=[]) trivial) fun x=>by kernel_rfl
noncomputable def AA:aX:=⟨[eF],[.val CW],fun x=>f179 x.1.1 x.1.2.1 x.1.2.2.1 x.1.2.2.2.1 x.1.2.2.2.2⟩
theorem WB:AA.OK Tryz.prog 179:=aa (n:=10) (lf:=az) (an (l:=[(189,H8)]) (u:=[]) (z:=[]) ⟨abp,trivial⟩ trivial) (ak (l:=[]) trivial) fun x=>by kernel_rfl
abbrev Bl:aj:=⟨19,[ZH,(1,.fix (.fn (.func 188) [] [(.ptr n3 0),(.ptr n4 0)])),yS,xU],kL0,[],[]⟩
abbrev Aj:aj:=⟨19,[],kL0,[],[]⟩
abbrev Bg:aj:=⟨19,[IP],kL0,[],[]⟩
noncomputable def BG:aK:=⟨7,105,Bl,0,Aj,Bg,fk,false,none,none,[]⟩
noncomputable def wM:aX:=⟨[ld,.i,.i],[.val .i],fun x=>f151 x.1 x.2.1 x.2.2.1⟩
theorem Sd:wM.OK Tryz.prog 151:=aa (n:=10) (lf:=az) (an (l:=[(179,AA)]) (u:=[]) (z:=[]) ⟨WB,trivial⟩ trivial) (ak (l:=[(79228239271166446032908189696,2,BG)]) ⟨⟨by kernel_rfl,fun z=>by kernel_rfl⟩,trivial⟩) fun x=>by kernel_rfl
abbrev Ye:aj:=⟨74,[CJ,(8,.cont bR),(9,.i),TK],[],[Ms],[]⟩
abbrev Wd:aj:=⟨74,[],[],[],[]⟩
abbrev XG:aj:=⟨74,[(2,.bool)],[],[],[]⟩
noncomputable def WE:aK:=⟨9,111,Ye,0,Wd,XG,mz,false,none,none,[]⟩
noncomputable def NB:aX:=⟨[yc],[.val .bool],fun x=>f111 x.1.1.1.1 x.1.1.1.2 x.1.1.2.1.1 x.1.1.2.1.2 x.1.1.2.2.1 x.1.1.2.2.2.1 x.1.1.2.2.2.2.1 x.1.1.2.2.2.2.2 x.1.2.1.1 x.1.2.1.2.1 x.1.2.1.2.2.1 x.1.2.1.2.2.2 x.1.2.2.1 x.1.2.2.2.1 x.1.2.2.2.2.1 x.1.2.2.2.2.2⟩
theorem acP:NB.OK Tryz.prog 111:=aa (n:=10) (lf:=az) (an (l:=[(107,Ce),(148,FL),(150,HE),(151,wM)]) (u:=[]) (z:=[]) ⟨WK,ab2,aao,Sd,trivial⟩ trivial) (ak (l:=[(bP,2,WE)]) ⟨⟨by kernel_rfl,fun z=>by kernel_rfl⟩,trivial⟩) fun x=>by kernel_rfl
noncomputable def zI:aX:=⟨[yc],[.val .bool],fun x=>f78 x.1.1.1.1 x.1.1.1.2 x.1.1.2.1.1 x.1.1.2.1.2 x.1.1.2.2.1 x.1.1.2.2.2.1 x.1.1.2.2.2.2.1 x.1.1.2.2.2.2.2 x.1.2.1.1 x.1.2.1.2.1 x.1.2.1.2.2.1 x.1.2.1.2.2.2 x.1.2.2.1 x.1.2.2.2.1 x.1.2.2.2.2.1 x.1.2.2.2.2.2⟩
theorem k78:zI.OK Tryz.prog 78:=aa (n:=10) (lf:=az) (an (l:=[(28,vf),(106,Gs),(107,Ce),(108,G8),(109,Pm),(110,Ph),(111,NB)]) (u:=[]) (z:=[]) ⟨Zx,ab9,WK,aaz,acH,acK,acP,trivial⟩ trivial) (ak (l:=[]) trivial) fun x=>by kernel_rfl
noncomputable def Q7:aX:=⟨[jC],[.val (.pair jC (.pair jC (.pair jC (.pair jC jC)))),.val .bool],fun x=>f100 x.1⟩
theorem adk:Q7.OK Tryz.prog 100:=aa (n:=10) (lf:=az) (an (l:=[(98,Jj)]) (u:=[]) (z:=[]) ⟨k98,trivial⟩ trivial) (ak (l:=[]) trivial) fun x=>by kernel_rfl
abbrev BB:aj:=⟨26,[(0,.fix (.iK 4294991872)),(1,.fix (.ptr n5 0)),(3,.i)],[(MA,.box 87 [.fix (.sl 18446849639415752768 0)]),XI,Zv,aax],[],[⟨.c MA 0,18446849639415752768,3,.i⟩]⟩
abbrev BF:aj:=⟨26,[],[(MA,.box 87 [.fix (.sl 18446849639415752800 0)]),XI,Zv,aax],[],[⟨.c MA 0,18446849639415752800,3,.i⟩]⟩
abbrev CC:aj:=⟨26,[],[(MA,.box 87 [.fix (.sl 18446849639415752816 0)]),XI,Zv,(4294991872,.loop 101 6 (.done (.exit 0)) [.fix .ah,.fix .ah,.fix .ah,.fix .ah,.fix (.ptr MA 0),.fix (.ptr 4294975488 0),.fix (.lit (.tuple #[])),.fix (.lit (.tuple #[])),.fix .ah,.fix .ah,.fix (.lit (.tuple #[])),.fix (.lit (.tuple #[])),.fix (.lit (.tuple #[])),.fix (.lit (.tuple #[])),.fix (.lit (.tuple #[])),.fix (.lit (.tuple #[])),.fix (.lit (.tuple #[])),.fix (.lit (.tuple #[])),.fix (.lit (.tuple #[])),.fix (.lit (.tuple #[])),.fix (.lit (.tuple #[])),.fix (.lit (.tuple #[])),.fix (.lit (.tuple #[])),.fix .ah,.fix .ah,.fix .ah])],[],[⟨.c MA 0,18446849639415752816,3,.i⟩]⟩
noncomputable def Ab:aK:=⟨8,174,BB,0,BF,CC,bG,false,none,none,[]⟩
noncomputable def B7:aX:=⟨[jC],[.val (.row .i),.val .bool],fun x=>f101 x.1⟩
theorem X5:B7.OK Tryz.prog 101:=aa (n:=10) (lf:=az) (an (l:=[(98,Jj)]) (u:=[]) (z:=[]) ⟨k98,trivial⟩ trivial) (ak (l:=[(18446849635415752704,1,Ab)]) ⟨⟨by kernel_rfl,fun z=>by kernel_rfl⟩,trivial⟩) fun x=>by kernel_rfl
noncomputable def Ip:aX:=⟨[.i,.i],[.val .i],fun x=>f140 x.1 x.2.1⟩
theorem aad:Ip.OK Tryz.prog 140:=aa (n:=10) (lf:=az) (an (l:=[]) (u:=[]) (z:=[]) trivial trivial) (ak (l:=[]) trivial) fun x=>by kernel_rfl
abbrev YE:aj:=⟨54,kL1,[],[],[⟨.t 8,8294967744,3,.i⟩]⟩
abbrev Yw:aj:=⟨54,kL1,[],[],[⟨.t 8,8294967808,3,.i⟩]⟩
abbrev Xa:aj:=⟨54,kL1,[],[],[⟨.t 8,8294967840,3,.i⟩]⟩
abbrev Yo:aj:=⟨54,[],[],[],[]⟩
noncomputable def Zd:aK:=⟨9,103,Yw,1000000007,Xa,Yo,wO,false,(some 0),none,[]⟩
abbrev XP:aj:=⟨54,[kK5],[],[],[⟨.t 8,8294967776,3,.i⟩]⟩
abbrev YR:aj:=⟨54,[],[],[],[]⟩
noncomputable def Zh:aK:=⟨9,103,YE,0,XP,YR,s6,false,none,none,[]⟩
noncomputable def MS:aX:=⟨[jC,.i,.i],[.val (.row .i),.val .bool],fun x=>f103 x.1 x.2.1 x.2.2.1⟩
theorem ade:MS.OK Tryz.prog 103:=aa (n:=10) (lf:=az) (an (l:=[(140,Ip)]) (u:=[]) (z:=[]) ⟨aad,trivial⟩ trivial) (ak (l:=[(bP,8,Zd),(bP,7,Zh)]) ⟨⟨by kernel_rfl,fun z=>by kernel_rfl⟩,⟨by kernel_rfl,fun z=>by kernel_rfl⟩,trivial⟩) fun x=>by kernel_rfl
noncomputable def QX:aX:=⟨[.i],[.val .i],fun x=>f142 x.1⟩
theorem acJ:QX.OK Tryz.prog 142:=aa (n:=10) (lf:=az) (an (l:=[]) (u:=[]) (z:=[]) trivial trivial) (ak (l:=[]) trivial) fun x=>by kernel_rfl
noncomputable def Gy:aX:=⟨[.i],[.val .bool],fun x=>f143 x.1⟩
theorem aaH:Gy.OK Tryz.prog 143:=aa (n:=10) (lf:=az) (an (l:=[]) (u:=[]) (z:=[]) trivial trivial) (ak (l:=[]) trivial) fun x=>by kernel_rfl
abbrev Wr:aj:=⟨36,[(4,.cont .i),(6,.fix (.ptr M6 0)),(7,.fix (.fn (.func 141) [] [(.ptr M6 0)])),(19,.i),(20,.i)],[],[(M6,.box 3 [.i])],[⟨.t 8,8294967808,3,.i⟩]⟩
abbrev We:aj:=⟨36,[],[],[],[⟨.t 8,8294967840,3,.i⟩]⟩
abbrev Wo:aj:=⟨36,[(3,.bool)],[],[],[⟨.t 2,8294967856,3,.i⟩]⟩
noncomputable def YV:aK:=⟨9,104,Wr,0,We,Wo,kw,false,none,none,[]⟩
noncomputable def MI:aX:=⟨[jC],[.val (.row .i),.val .bool],fun x=>f104 x.1⟩
theorem ado:MI.OK Tryz.prog 104:=aa (n:=10) (lf:=az) (an (l:=[(101,B7),(142,QX),(143,Gy)]) (u:=[]) (z:=[]) ⟨X5,acJ,aaH,trivial⟩ trivial) (ak (l:=[(bP,8,YV)]) ⟨⟨by kernel_rfl,fun z=>by kernel_rfl⟩,trivial⟩) fun x=>by kernel_rfl
abbrev Fh:aj:=⟨31,[(0,.fix (.iK 4295000064)),(1,.fix (.ptr n6 0)),(2,.fix (.ptr n7 0)),IP],[(bP,.box 55 [.i,.i,.i,.i,.i,.i,.i,.i,.i,.i,.i,.bool,.i,.fix (.sl Sq 0),.fix (.sl R6 0),.fix (.sl TP 0)]),Z0,(rT,.box 55 [.i,.i,.i,.i,.i,.i,.i,.i,.i,.i,.i,.bool,.i,.fix (.sl T7 0),.fix (.sl TB 0),.fix (.sl SP 0)]),(n6,.box 87 [.cont .i]),(n7,.box 3 [.i]),aaq],[],[⟨.c bP 13,Sq,180,bR⟩,⟨.c bP 14,R6,61,eF⟩,⟨.c bP 15,TP,184,bR⟩,⟨.c rT 13,T7,180,bR⟩,⟨.c rT 14,TB,61,eF⟩,⟨.c rT 15,SP,184,bR⟩]⟩
abbrev Db:aj:=⟨31,[],[(bP,.box 55 [.i,.i,.i,.i,.i,.i,.i,.i,.i,.i,.i,.bool,.i,.fix (.sl TW 0),.fix (.sl Tq 0),.fix (.sl RX 0)]),Z0,(rT,.box 55 [.i,.i,.i,.i,.i,.i,.i,.i,.i,.i,.i,.bool,.i,.fix (.sl TM 0),.fix (.sl TS 0),.fix (.sl Tg 0)]),(n6,.box 87 [.cont .i]),(n7,.box 3 [.i]),aaq],[],[⟨.c bP 13,TW,180,bR⟩,⟨.c bP 14,Tq,61,eF⟩,⟨.c bP 15,RX,184,bR⟩,⟨.c rT 13,TM,180,bR⟩,⟨.c rT 14,TS,61,eF⟩,⟨.c rT 15,Tg,184,bR⟩]⟩
abbrev Fu:aj:=⟨31,[],[Yf,(4294971472,.gone),(rT,.gone),(n6,.gone),(n7,.gone),(4295000064,.gone)],[],[]⟩
noncomputable def EV:aK:=⟨8,139,Fh,0,Db,Fu,dm,false,none,none,[]⟩
abbrev Xk:aj:=⟨237,[ZG,SE,(12,.cont .i),(14,.cont .i),(16,.cont .i),(182,.cont .i),(183,.i),(184,.i)],[],[(bP,.box 55 [.i,.i,.i,.i,.i,.i,.i,.i,.i,.i,.i,.bool,.i,.fix (.sl 8294968320 0),.fix (.sl 8294968321 0),.fix (.sl 8294968322 0)]),(rT,.box 55 [.i,.i,.i,.i,.i,.i,.i,.i,.i,.i,.i,.bool,.i,.fix (.sl 8294968323 0),.fix (.sl 8294968324 0),.fix (.sl 8294968325 0)])],[⟨.c bP 13,8294968320,180,bR⟩,⟨.c bP 14,8294968321,61,eF⟩,⟨.c bP 15,8294968322,184,bR⟩,⟨.c rT 13,8294968323,180,bR⟩,⟨.c rT 14,8294968324,61,eF⟩,⟨.c rT 15,8294968325,184,bR⟩]⟩
abbrev Wq:aj:=⟨237,[ZG,SE,(14,.cont .i),(16,.cont .i)],[],[(bP,.box 55 [.i,.i,.i,.i,.i,.i,.i,.i,.i,.i,.i,.bool,.i,.fix (.sl 8294968352 0),.fix (.sl 8294968353 0),.fix (.sl 8294968354 0)]),(rT,.box 55 [.i,.i,.i,.i,.i,.i,.i,.i,.i,.i,.i,.bool,.i,.fix (.sl 8294968355 0),.fix (.sl 8294968356 0),.fix (.sl 8294968357 0)])],[⟨.c bP 13,8294968352,180,bR⟩,⟨.c bP 14,8294968353,61,eF⟩,⟨.c bP 15,8294968354,184,bR⟩,⟨.c rT 13,8294968355,180,bR⟩,⟨.c rT 14,8294968356,61,eF⟩,⟨.c rT 15,8294968357,184,bR⟩]⟩
abbrev Yk:aj:=⟨237,[],[],[],[]⟩
noncomputable def XA:aK:=⟨9,71,Xk,2,Wq,Yk,sr,false,none,none,[]⟩
abbrev Zf:aj:=⟨237,[ZG,SE,(16,.cont .i),(210,.cont .i),(211,.i),(212,.i)],[],[(bP,.box 55 [.i,.i,.i,.i,.i,.i,.i,.i,.i,.i,.i,.bool,.i,.fix (.sl 8294968704 0),.fix (.sl 8294968705 0),.fix (.sl 8294968706 0)]),(rT,.box 55 [.i,.i,.i,.i,.i,.i,.i,.i,.i,.i,.i,.bool,.i,.fix (.sl 8294968707 0),.fix (.sl 8294968708 0),.fix (.sl 8294968709 0)])],[⟨.c bP 13,8294968704,180,bR⟩,⟨.c bP 14,8294968705,61,eF⟩,⟨.c bP 15,8294968706,184,bR⟩,⟨.c rT 13,8294968707,180,bR⟩,⟨.c rT 14,8294968708,61,eF⟩,⟨.c rT 15,8294968709,184,bR⟩]⟩
abbrev Zp:aj:=⟨237,[ZG,SE],[],[(bP,.box 55 [.i,.i,.i,.i,.i,.i,.i,.i,.i,.i,.i,.bool,.i,.fix (.sl 8294968736 0),.fix (.sl 8294968737 0),.fix (.sl 8294968738 0)]),(rT,.box 55 [.i,.i,.i,.i,.i,.i,.i,.i,.i,.i,.i,.bool,.i,.fix (.sl 8294968739 0),.fix (.sl 8294968740 0),.fix (.sl 8294968741 0)])],[⟨.c bP 13,8294968736,180,bR⟩,⟨.c bP 14,8294968737,61,eF⟩,⟨.c bP 15,8294968738,184,bR⟩,⟨.c rT 13,8294968739,180,bR⟩,⟨.c rT 14,8294968740,61,eF⟩,⟨.c rT 15,8294968741,184,bR⟩]⟩
abbrev W4:aj:=⟨237,[],[],[],[]⟩
noncomputable def Yb:aK:=⟨9,71,Zf,4,Zp,W4,sY,false,none,none,[]⟩
noncomputable def VI:aX:=⟨[jC],[.val yc,.val .bool],fun x=>f71 x.1⟩
theorem k71:VI.OK Tryz.prog 71:=aa (n:=10) (lf:=az) (an (l:=[(78,zI),(100,Q7),(101,B7),(103,MS),(104,MI)]) (u:=[]) (z:=[]) ⟨k78,adk,X5,ade,ado,trivial⟩ trivial) (ak (l:=[(18446884819787841536,1,EV),(bP,16,XA),(bP,22,Yb)]) ⟨⟨by kernel_rfl,fun z=>by kernel_rfl⟩,⟨by kernel_rfl,fun z=>by kernel_rfl⟩,⟨by kernel_rfl,fun z=>by kernel_rfl⟩,trivial⟩) fun x=>by kernel_rfl
noncomputable def JY:aX:=⟨[jC],[.val yc,.val .i,.val .bool],fun x=>f39 x.1⟩
theorem k39:JY.OK Tryz.prog 39:=aa (n:=10) (lf:=az) (an (l:=[(70,PN),(71,VI)]) (u:=[]) (z:=[]) ⟨k70,k71,trivial⟩ trivial) (ak (l:=[]) trivial) fun x=>by kernel_rfl
noncomputable def VX:aX:=⟨[eF],[.val bR],fun x=>f75 x.1.1 x.1.2.1 x.1.2.2.1 x.1.2.2.2.1 x.1.2.2.2.2⟩
theorem k75:VX.OK Tryz.prog 75:=aa (n:=10) (lf:=az) (an (l:=[]) (u:=[]) (z:=[]) trivial trivial) (ak (l:=[]) trivial) fun x=>by kernel_rfl
noncomputable def J2:aX:=⟨[.i,.i,.i],[.val .bool],fun x=>f83 x.1 x.2.1 x.2.2.1⟩
theorem k83:J2.OK Tryz.prog 83:=aa (n:=10) (lf:=az) (an (l:=[]) (u:=[]) (z:=[]) trivial trivial) (ak (l:=[]) trivial) fun x=>by kernel_rfl
noncomputable def Kp:aX:=⟨[FC],[.val .bool],fun x=>f84 x.1.1 x.1.2.1 x.1.2.2.1 x.1.2.2.2.1 x.1.2.2.2.2.1 x.1.2.2.2.2.2.1 x.1.2.2.2.2.2.2.1 x.1.2.2.2.2.2.2.2.1 x.1.2.2.2.2.2.2.2.2⟩
theorem k84:Kp.OK Tryz.prog 84:=aa (n:=10) (lf:=az) (an (l:=[(83,J2),(106,Gs)]) (u:=[]) (z:=[]) ⟨k83,ab9,trivial⟩ trivial) (ak (l:=[]) trivial) fun x=>by kernel_rfl
abbrev aaC:aj:=⟨93,[(8,.fix (.ptr 4294983696 0)),(9,.fix (.ptr 4294987824 0))],[],[(4294983696,.box 201 [.fix (.fn (.func 162) [] []),.fix (.fn (.func 162) [] []),.fix (.fn (.func 163) [] []),.fix (.fn (.func 164) [] []),.fix (.fn (.func 163) [] []),.fix (.fn (.func 164) [] []),.fix (.fn (.func 165) [] [])]),(4294987824,.box 205 [.i,.cont .i,.i,.i,.i,.i,.i,.i,.i,.i,.bool,.bool])],[⟨.t 10,8294967744,70,FC⟩]⟩
abbrev Z7:aj:=⟨93,[],[],[],[⟨.t 10,8294967776,70,FC⟩]⟩
abbrev ZM:aj:=⟨93,[(5,.bool)],[],[],[⟨.t 4,8294967792,70,FC⟩]⟩
noncomputable def abg:aK:=⟨9,93,aaC,0,Z7,ZM,zM,false,none,none,[]⟩
noncomputable def VQ:aX:=⟨[.i,jC],[.val (.row FC),.val .bool],fun x=>f93 x.1 x.2.1⟩
theorem k93:VQ.OK Tryz.prog 93:=aa (n:=10) (lf:=az) (an (l:=[(83,J2),(84,Kp),(101,B7)]) (u:=[]) (z:=[]) ⟨k83,k84,X5,trivial⟩ trivial) (ak (l:=[(bP,7,abg)]) ⟨⟨by kernel_rfl,fun z=>by kernel_rfl⟩,trivial⟩) fun x=>by kernel_rfl
noncomputable def HS:aX:=⟨[yc],[.val yc],fun x=>f128 x.1.1.1.1 x.1.1.1.2 x.1.1.2.1.1 x.1.1.2.1.2 x.1.1.2.2.1 x.1.1.2.2.2.1 x.1.1.2.2.2.2.1 x.1.1.2.2.2.2.2 x.1.2.1.1 x.1.2.1.2.1 x.1.2.1.2.2.1 x.1.2.1.2.2.2 x.1.2.2.1 x.1.2.2.2.1 x.1.2.2.2.2.1 x.1.2.2.2.2.2⟩
theorem aak:HS.OK Tryz.prog 128:=aa (n:=10) (lf:=az) (an (l:=[(166,rz),(167,jM),(168,mj)]) (u:=[]) (z:=[]) ⟨As,rE,uO,trivial⟩ trivial) (ak (l:=[]) trivial) fun x=>by kernel_rfl
abbrev AF:aj:=⟨19,[ZA,aaw,yS,xU],[CP,RG],[],[]⟩
abbrev Ai:aj:=⟨19,[],[CP,RG],[],[]⟩
abbrev Cd:aj:=⟨19,[IP],[CP,RG],[],[]⟩
noncomputable def zY:aK:=⟨7,201,AF,0,Ai,Cd,fu,false,none,none,[]⟩
abbrev BR:aj:=⟨42,[ZA,aaw,(5,.i),(6,.i)],[CP,RG],[],[]⟩
abbrev Ac:aj:=⟨42,[ZA,(5,.i)],[CP,RG],[],[]⟩
abbrev CN:aj:=⟨42,[],[Yf,(4294971408,.gone)],[],[]⟩
noncomputable def CG:aK:=⟨8,191,BR,0,Ac,CN,ff,false,none,none,[]⟩
noncomputable def Rr:aX:=⟨[jx,.i],[.own 184 bR],fun x=>f182 x.1 x.2.1⟩
theorem adt:Rr.OK Tryz.prog 182:=aa (n:=10) (lf:=az) (an (l:=[(168,mj)]) (u:=[]) (z:=[]) ⟨uO,trivial⟩ trivial) (ak (l:=[(n8,2,zY),(n9,5,CG)]) ⟨⟨by kernel_rfl,fun z=>by kernel_rfl⟩,⟨by kernel_rfl,fun z=>by kernel_rfl⟩,trivial⟩) fun x=>by kernel_rfl
abbrev Yz:aj:=⟨45,[(1,.i),Sl,Tm,(28,.i),(29,.i)],[],[(fB,.box 55 [.i,.i,.i,.i,.i,.i,.i,.i,.i,.i,.i,.bool,.i,.fix (.sl 8294967680 0),.fix (.sl 8294967681 0),.fix (.sl 8294967682 0)]),(Ef,.box 55 [.i,.i,.i,.i,.i,.i,.i,.i,.i,.i,.i,.bool,.i,.fix (.sl 8294967683 0),.fix (.sl 8294967684 0),.fix (.sl 8294967685 0)])],[⟨.c fB 13,8294967680,180,bR⟩,⟨.c fB 14,8294967681,61,eF⟩,⟨.c fB 15,8294967682,184,bR⟩,⟨.c Ef 13,8294967683,180,bR⟩,⟨.c Ef 14,8294967684,61,eF⟩,⟨.c Ef 15,8294967685,184,bR⟩]⟩
abbrev Wv:aj:=⟨45,[(1,.i),Sl,Tm],[],[(fB,.box 55 [.i,.i,.i,.i,.i,.i,.i,.i,.i,.i,.i,.bool,.i,.fix (.sl 8294967712 0),.fix (.sl 8294967713 0),.fix (.sl 8294967714 0)]),(Ef,.box 55 [.i,.i,.i,.i,.i,.i,.i,.i,.i,.i,.i,.bool,.i,.fix (.sl 8294967715 0),.fix (.sl 8294967716 0),.fix (.sl 8294967717 0)])],[⟨.c fB 13,8294967712,180,bR⟩,⟨.c fB 14,8294967713,61,eF⟩,⟨.c fB 15,8294967714,184,bR⟩,⟨.c Ef 13,8294967715,180,bR⟩,⟨.c Ef 14,8294967716,61,eF⟩,⟨.c Ef 15,8294967717,184,bR⟩]⟩
abbrev YS:aj:=⟨45,[],[],[],[]⟩
noncomputable def Zi:aK:=⟨9,169,Yz,0,Wv,YS,sj,false,none,none,[]⟩
noncomputable def OB:aX:=⟨[yc,.i],[.val yc,.val .bool],fun x=>f169 x.1.1.1.1 x.1.1.1.2 x.1.1.2.1.1 x.1.1.2.1.2 x.1.1.2.2.1 x.1.1.2.2.2.1 x.1.1.2.2.2.2.1 x.1.1.2.2.2.2.2 x.1.2.1.1 x.1.2.1.2.1 x.1.2.1.2.2.1 x.1.2.1.2.2.2 x.1.2.2.1 x.1.2.2.2.1 x.1.2.2.2.2.1 x.1.2.2.2.2.2 x.2.1⟩
theorem adh:OB.OK Tryz.prog 169:=aa (n:=10) (lf:=az) (an (l:=[(78,zI),(166,rz),(167,jM),(168,mj),(182,Rr)]) (u:=[]) (z:=[]) ⟨k78,As,rE,uO,adt,trivial⟩ trivial) (ak (l:=[(bP,6,Zi)]) ⟨⟨by kernel_rfl,fun z=>by kernel_rfl⟩,trivial⟩) fun x=>by kernel_rfl
abbrev Yc:aj:=⟨18,[(3,.i),(6,.cont .i),yS,xU],[],[],[]⟩
abbrev WX:aj:=⟨18,[(3,.i)],[],[],[]⟩
abbrev WH:aj:=⟨18,[(2,.i)],[],[],[]⟩
noncomputable def X9:aK:=⟨9,225,Yc,0,WX,WH,mZ,false,none,none,[]⟩
noncomputable def RA:aX:=⟨[(.row .i)],[.val .i],fun x=>f225 x.1⟩
theorem ac4:RA.OK Tryz.prog 225:=aa (n:=10) (lf:=az) (an (l:=[]) (u:=[]) (z:=[]) trivial trivial) (ak (l:=[(bP,3,X9)]) ⟨⟨by kernel_rfl,fun z=>by kernel_rfl⟩,trivial⟩) fun x=>by kernel_rfl
noncomputable def Q4:aX:=⟨[.i],[.val .bool],fun x=>f243 x.1⟩
theorem adu:Q4.OK Tryz.prog 243:=aa (n:=10) (lf:=az) (an (l:=[]) (u:=[]) (z:=[]) trivial trivial) (ak (l:=[]) trivial) fun x=>by kernel_rfl
noncomputable def M0:aX:=⟨[.i,.i],[.val .i],fun x=>f226 x.1 x.2.1⟩
theorem adG:M0.OK Tryz.prog 226:=aa (n:=10) (lf:=az) (an (l:=[(243,Q4)]) (u:=[]) (z:=[]) ⟨adu,trivial⟩ trivial) (ak (l:=[]) trivial) fun x=>by kernel_rfl
noncomputable def Ij:aX:=⟨[CW,CW],[.val .i],fun x=>f215 x.1.1 x.1.2 x.2.1.1 x.2.1.2⟩
theorem Z2:Ij.OK Tryz.prog 215:=aa (n:=10) (lf:=az) (an (l:=[(225,RA),(226,M0)]) (u:=[]) (z:=[]) ⟨ac4,adG,trivial⟩ trivial) (ak (l:=[]) trivial) fun x=>by kernel_rfl
abbrev A6:aj:=⟨19,[ZH,(1,.fix (.fn (.func 214) [] [(.ptr fB 0),(.ptr bP 0)])),yS,xU],[ZD,Wp],[],[]⟩
abbrev Ct:aj:=⟨19,[],[ZD,Wp],[],[]⟩
abbrev BJ:aj:=⟨19,[IP],[ZD,Wp],[],[]⟩
noncomputable def Cf:aK:=⟨8,105,A6,0,Ct,BJ,fz,false,none,none,[]⟩
noncomputable def Ns:aX:=⟨[ld,CW,(.CQ 179)],[.val .i],fun x=>f203 x.1 x.2.1.1 x.2.1.2⟩
theorem acM:Ns.OK Tryz.prog 203:=aa (n:=10) (lf:=az) (an (l:=[(179,AA),(215,Ij)]) (u:=[]) (z:=[]) ⟨WB,Z2,trivial⟩ trivial) (ak (l:=[(n0,2,Cf)]) ⟨⟨by kernel_rfl,fun z=>by kernel_rfl⟩,trivial⟩) fun x=>by kernel_rfl
noncomputable def Qy:aX:=⟨[ld,eF],[.val ld,.val .bool],fun x=>f193 x.1 x.2.1.1 x.2.1.2.1 x.2.1.2.2.1 x.2.1.2.2.2.1 x.2.1.2.2.2.2⟩
theorem acC:Qy.OK Tryz.prog 193:=aa (n:=10) (lf:=az) (an (l:=[(151,wM),(167,jM),(179,AA),(203,Ns)]) (u:=[(202,Kl)]) (z:=[]) ⟨Sd,rE,WB,acM,trivial⟩ ⟨Rc,trivial⟩) (ak (l:=[]) trivial) fun x=>by kernel_rfl
noncomputable def Oh:aX:=⟨[ld,.i,.i],[.val ld,.val .bool],fun x=>f194 x.1 x.2.1 x.2.2.1⟩
theorem ac3:Oh.OK Tryz.prog 194:=aa (n:=10) (lf:=az) (an (l:=[(151,wM),(167,jM)]) (u:=[]) (z:=[]) ⟨Sd,rE,trivial⟩ trivial) (ak (l:=[]) trivial) fun x=>by kernel_rfl
noncomputable def Qe:aX:=⟨[bR],[.val (.pair CW bR)],fun x=>f216 x.1.1 x.1.2.1 x.1.2.2⟩
theorem ada:Qe.OK Tryz.prog 216:=aa (n:=10) (lf:=az) (an (l:=[]) (u:=[]) (z:=[]) trivial trivial) (ak (l:=[]) trivial) fun x=>by kernel_rfl
noncomputable def HO:aX:=⟨[bR],[.val CW],fun x=>f206 x.1.1 x.1.2.1 x.1.2.2⟩
theorem abd:HO.OK Tryz.prog 206:=aa (n:=10) (lf:=az) (an (l:=[(216,Qe)]) (u:=[]) (z:=[]) ⟨ada,trivial⟩ trivial) (ak (l:=[]) trivial) fun x=>by kernel_rfl
abbrev Al:aj:=⟨19,[TO,(1,.fix (.fn (.func 219) [] [(.ptr fB 0),(.ptr bP 0)])),yS,xU],[ZD,XO],[],[]⟩
abbrev Bx:aj:=⟨19,[],[ZD,XO],[],[]⟩
abbrev Bk:aj:=⟨19,[IP],[ZD,XO],[],[]⟩
noncomputable def BU:aK:=⟨8,201,Al,0,Bx,Bk,eR,false,none,none,[]⟩
noncomputable def QC:aX:=⟨[jx,CW,(.CQ 206)],[.val .i],fun x=>f208 x.1 x.2.1.1 x.2.1.2⟩
theorem adz:QC.OK Tryz.prog 208:=aa (n:=10) (lf:=az) (an (l:=[(206,HO),(215,Ij)]) (u:=[]) (z:=[]) ⟨abd,Z2,trivial⟩ trivial) (ak (l:=[(n0,2,BU)]) ⟨⟨by kernel_rfl,fun z=>by kernel_rfl⟩,trivial⟩) fun x=>by kernel_rfl
abbrev Cj:aj:=⟨19,[ZA,abP,yS,xU],[MQ,RG],[],[]⟩
abbrev BM:aj:=⟨19,[],[MQ,RG],[],[]⟩
abbrev BW:aj:=⟨19,[IP],[MQ,RG],[],[]⟩
noncomputable def AO:aK:=⟨7,201,Cj,0,BM,BW,fm,false,none,none,[]⟩
abbrev Cw:aj:=⟨42,[ZA,abP,(5,.i),(6,.i)],[MQ,RG],[],[]⟩
abbrev zP:aj:=⟨42,[ZA,(5,.i)],[MQ,RG],[],[]⟩
abbrev Bq:aj:=⟨42,[],[Yf,(4294971408,.gone)],[],[]⟩
noncomputable def zW:aK:=⟨8,191,Cw,0,zP,Bq,fp,false,none,none,[]⟩
noncomputable def Nv:aX:=⟨[jx,bR],[.val jx],fun x=>f195 x.1 x.2.1.1 x.2.1.2.1 x.2.1.2.2⟩
theorem acG:Nv.OK Tryz.prog 195:=aa (n:=10) (lf:=az) (an (l:=[(168,mj),(206,HO),(208,QC)]) (u:=[(207,Pk)]) (z:=[]) ⟨uO,abd,adz,trivial⟩ ⟨RN,trivial⟩) (ak (l:=[(n8,2,AO),(n9,5,zW)]) ⟨⟨by kernel_rfl,fun z=>by kernel_rfl⟩,⟨by kernel_rfl,fun z=>by kernel_rfl⟩,trivial⟩) fun x=>by kernel_rfl
abbrev Zn:aj:=⟨24,[(6,.cont eF),yS,xU],[],[],[⟨.t 3,8294967488,3,.i⟩]⟩
abbrev YC:aj:=⟨24,[],[],[],[⟨.t 3,8294967520,3,.i⟩]⟩
abbrev Yt:aj:=⟨24,[],[],[],[]⟩
noncomputable def WG:aK:=⟨9,196,Zn,0,YC,Yt,wV,false,none,none,[]⟩
noncomputable def NR:aX:=⟨[ld],[.val (.row .i)],fun x=>f196 x.1⟩
theorem adi:NR.OK Tryz.prog 196:=aa (n:=10) (lf:=az) (an (l:=[(189,H8)]) (u:=[(209,U8),(210,Eb)]) (z:=[]) ⟨abp,trivial⟩ ⟨X8,LK,trivial⟩) (ak (l:=[(bP,3,WG)]) ⟨⟨by kernel_rfl,fun z=>by kernel_rfl⟩,trivial⟩) fun x=>by kernel_rfl
abbrev Yl:aj:=⟨37,[(1,.cont bR),(2,.i),(7,.fix (.ptr fB 0)),(16,.cont bR),(17,.i),(18,.i)],[],[(fB,.box 180 [.i,.i,.i])],[]⟩
abbrev Xe:aj:=⟨37,[(1,.cont bR),(2,.i)],[],[],[]⟩
abbrev WI:aj:=⟨37,[xU],[],[],[]⟩
noncomputable def Yq:aK:=⟨9,241,Yl,0,Xe,WI,sC,false,none,none,[]⟩
noncomputable def ND:aX:=⟨[YY,jx,.i,bR],[.val .i],fun x=>f241 x.1.1 x.1.2.1 x.1.2.2.1 x.1.2.2.2.1.1 x.1.2.2.2.1.2.1 x.1.2.2.2.1.2.2 x.1.2.2.2.2 x.2.1 x.2.2.1 x.2.2.2.1.1 x.2.2.2.1.2.1 x.2.2.2.1.2.2⟩
theorem adD:ND.OK Tryz.prog 241:=aa (n:=10) (lf:=az) (an (l:=[(145,G3),(146,HL)]) (u:=[]) (z:=[]) ⟨ab4,abq,trivial⟩ trivial) (ak (l:=[(bP,4,Yq)]) ⟨⟨by kernel_rfl,fun z=>by kernel_rfl⟩,trivial⟩) fun x=>by kernel_rfl
abbrev A5:aj:=⟨19,[(0,.cont .i),(1,.fix (.fn (.func 240) [] [(.ptr fB 0),(.ptr bP 0),(.ptr n10 0)])),yS,xU],[LJ,LV,YI,W3],[],[]⟩
abbrev Bc:aj:=⟨19,[],[LJ,LV,YI,W3],[],[]⟩
abbrev B5:aj:=⟨19,[IP],[LJ,LV,YI,W3],[],[]⟩
noncomputable def zN:aK:=⟨6,180,A5,0,Bc,B5,dJ,false,none,none,[]⟩
abbrev Aw:aj:=⟨19,[(0,.cont .i),(1,.fix (.fn (.func 240) [] [(.ptr fB 0),(.ptr bP 0),(.ptr n11 0)])),yS,xU],[LJ,LV,XR],[],[]⟩
abbrev Bu:aj:=⟨19,[],[LJ,LV,XR],[],[]⟩
abbrev Af:aj:=⟨19,[IP],[LJ,LV,XR],[],[]⟩
noncomputable def A9:aK:=⟨6,180,Aw,0,Bu,Af,dF,false,none,none,[]⟩
noncomputable def Pp:aX:=⟨[YY,jx],[.val .i],fun x=>f222 x.1.1 x.1.2.1 x.1.2.2.1 x.1.2.2.2.1.1 x.1.2.2.2.1.2.1 x.1.2.2.2.1.2.2 x.1.2.2.2.2 x.2.1⟩
theorem acE:Pp.OK Tryz.prog 222:=aa (n:=10) (lf:=az) (an (l:=[(108,G8),(177,ID),(241,ND)]) (u:=[]) (z:=[]) ⟨aaz,ab8,adD,trivial⟩ trivial) (ak (l:=[(n12,2,zN),(n13,2,A9)]) ⟨⟨by kernel_rfl,fun z=>by kernel_rfl⟩,⟨by kernel_rfl,fun z=>by kernel_rfl⟩,trivial⟩) fun x=>by kernel_rfl
noncomputable def vE:aX:=⟨[YY,jx],[.val jx,.val .i],fun x=>f211 x.1.1 x.1.2.1 x.1.2.2.1 x.1.2.2.2.1.1 x.1.2.2.2.1.2.1 x.1.2.2.2.1.2.2 x.1.2.2.2.2 x.2.1⟩
theorem Su:vE.OK Tryz.prog 211:=aa (n:=10) (lf:=az) (an (l:=[(166,rz),(222,Pp)]) (u:=[]) (z:=[]) ⟨As,acE,trivial⟩ trivial) (ak (l:=[]) trivial) fun x=>by kernel_rfl
noncomputable def MC:aX:=⟨[jx,.i,.i,.i],[.val jx,.val .i],fun x=>f197 x.1 x.2.1 x.2.2.1 x.2.2.2.1⟩
theorem acR:MC.OK Tryz.prog 197:=aa (n:=10) (lf:=az) (an (l:=[(211,vE)]) (u:=[]) (z:=[]) ⟨Su,trivial⟩ trivial) (ak (l:=[]) trivial) fun x=>by kernel_rfl
noncomputable def MW:aX:=⟨[jx,.i,.i],[.val jx,.val .i],fun x=>f198 x.1 x.2.1 x.2.2.1⟩
theorem acU:MW.OK Tryz.prog 198:=aa (n:=10) (lf:=az) (an (l:=[(211,vE)]) (u:=[]) (z:=[]) ⟨Su,trivial⟩ trivial) (ak (l:=[]) trivial) fun x=>by kernel_rfl
noncomputable def MX:aX:=⟨[jx,.i,.i,.i,(.row .i)],[.val jx,.val .i],fun x=>f199 x.1 x.2.1 x.2.2.1 x.2.2.2.1 x.2.2.2.2.1⟩
theorem ac0:MX.OK Tryz.prog 199:=aa (n:=10) (lf:=az) (an (l:=[(211,vE)]) (u:=[]) (z:=[]) ⟨Su,trivial⟩ trivial) (ak (l:=[]) trivial) fun x=>by kernel_rfl
noncomputable def MN:aX:=⟨[jx,.i,.i,(.row .i)],[.val jx,.val .i],fun x=>f200 x.1 x.2.1 x.2.2.1 x.2.2.2.1⟩
theorem ac1:MN.OK Tryz.prog 200:=aa (n:=10) (lf:=az) (an (l:=[(211,vE)]) (u:=[]) (z:=[]) ⟨Su,trivial⟩ trivial) (ak (l:=[]) trivial) fun x=>by kernel_rfl
noncomputable def Ov:aX:=⟨[yc,FC],[.val yc,.val .i],fun x=>f129 x.1.1.1.1 x.1.1.1.2 x.1.1.2.1.1 x.1.1.2.1.2 x.1.1.2.2.1 x.1.1.2.2.2.1 x.1.1.2.2.2.2.1 x.1.1.2.2.2.2.2 x.1.2.1.1 x.1.2.1.2.1 x.1.2.1.2.2.1 x.1.2.1.2.2.2 x.1.2.2.1 x.1.2.2.2.1 x.1.2.2.2.2.1 x.1.2.2.2.2.2 x.2.1.1 x.2.1.2.1 x.2.1.2.2.1 x.2.1.2.2.2.1 x.2.1.2.2.2.2.1 x.2.1.2.2.2.2.2.1 x.2.1.2.2.2.2.2.2.1 x.2.1.2.2.2.2.2.2.2.1 x.2.1.2.2.2.2.2.2.2.2⟩
theorem ady:Ov.OK Tryz.prog 129:=aa (n:=10) (lf:=az) (an (l:=[(29,ry),(78,zI),(84,Kp),(128,HS),(151,wM),(169,OB),(193,Qy),(194,Oh),(195,Nv),(196,NR),(197,MC),(198,MW),(199,MX),(200,MN)]) (u:=[]) (z:=[]) ⟨Vh,k78,k84,aak,Sd,adh,acC,ac3,acG,adi,acR,acU,ac0,ac1,trivial⟩ trivial) (ak (l:=[]) trivial) fun x=>by kernel_rfl
abbrev aay:aj:=⟨33,[ZG,Sl,Tm,yS,aa2,(13,.i),(14,.i)],[],[Ms,(fB,.box 55 [.i,.i,.i,.i,.i,.i,.i,.i,.i,.i,.i,.bool,.i,.fix (.sl 8294967552 0),.fix (.sl 8294967553 0),.fix (.sl 8294967554 0)]),abA],[⟨.c fB 13,8294967552,180,bR⟩,⟨.c fB 14,8294967553,61,eF⟩,⟨.c fB 15,8294967554,184,bR⟩]⟩
abbrev abO:aj:=⟨33,[ZG,Sl,Tm,yS],[],[Ms,(fB,.box 55 [.i,.i,.i,.i,.i,.i,.i,.i,.i,.i,.i,.bool,.i,.fix (.sl 8294967584 0),.fix (.sl 8294967585 0),.fix (.sl 8294967586 0)]),abA],[⟨.c fB 13,8294967584,180,bR⟩,⟨.c fB 14,8294967585,61,eF⟩,⟨.c fB 15,8294967586,184,bR⟩]⟩
abbrev abl:aj:=⟨33,[],[],[],[]⟩
noncomputable def aal:aK:=⟨9,94,aay,0,abO,abl,tF,false,none,none,[]⟩
noncomputable def V9:aX:=⟨[yc,(.row FC)],[.val yc,.val .i],fun x=>f94 x.1.1.1.1 x.1.1.1.2 x.1.1.2.1.1 x.1.1.2.1.2 x.1.1.2.2.1 x.1.1.2.2.2.1 x.1.1.2.2.2.2.1 x.1.1.2.2.2.2.2 x.1.2.1.1 x.1.2.1.2.1 x.1.2.1.2.2.1 x.1.2.1.2.2.2 x.1.2.2.1 x.1.2.2.2.1 x.1.2.2.2.2.1 x.1.2.2.2.2.2 x.2.1⟩
theorem k94:V9.OK Tryz.prog 94:=aa (n:=10) (lf:=az) (an (l:=[(128,HS),(129,Ov)]) (u:=[]) (z:=[]) ⟨aak,ady,trivial⟩ trivial) (ak (l:=[(bP,4,aal)]) ⟨⟨by kernel_rfl,fun z=>by kernel_rfl⟩,trivial⟩) fun x=>by kernel_rfl
abbrev F7:aj:=⟨69,[(0,.fix (.iK 4295004160)),(2,.fix (.ptr n6 0)),(4,.fix (.ptr 18446902411973885968 0))],[(bP,.box 86 [.i,.i,.i,.i,.i,.i,.i,.i,.i,.i,.i,.bool,.i,.fix (.sl 18446902415973886016 0),.fix (.sl 18446902415973886017 0),.fix (.sl 18446902415973886018 0),.i,.i]),abT,Z4,(JJ,.box 71 [.fix (.sl 18446902415973886019 0)]),(n6,.box 82 [.cont lN]),abE,aam],[(18446902411973885968,.box 86 [.i,.i,.i,.i,.i,.i,.i,.i,.i,.i,.i,.bool,.i,.cont bR,.cont eF,.cont bR,.i,.i])],[⟨.c bP 13,18446902415973886016,180,bR⟩,⟨.c bP 14,18446902415973886017,61,eF⟩,⟨.c bP 15,18446902415973886018,184,bR⟩,⟨.c JJ 0,18446902415973886019,70,FC⟩]⟩
abbrev F3:aj:=⟨69,[],[Yf,(4294971488,.gone),(4294983760,.gone),(JJ,.gone),(n6,.gone),(n7,.gone),(4295004160,.gone)],[],[]⟩
abbrev Gd:aj:=⟨69,[],[(bP,.box 86 [.i,.i,.i,.i,.i,.i,.i,.i,.i,.i,.i,.bool,.i,.fix (.sl 18446902415973886064 0),.fix (.sl 18446902415973886065 0),.fix (.sl 18446902415973886066 0),.i,.i]),abT,Z4,(JJ,.box 71 [.fix (.sl 18446902415973886067 0)]),(n6,.box 82 [.cont lN]),abE,aam],[],[⟨.c bP 13,18446902415973886064,180,bR⟩,⟨.c bP 14,18446902415973886065,61,eF⟩,⟨.c bP 15,18446902415973886066,184,bR⟩,⟨.c JJ 0,18446902415973886067,70,FC⟩]⟩
noncomputable def II:aK:=⟨8,92,F7,0,F3,Gd,dz,false,none,none,[]⟩
noncomputable def Qb:aX:=⟨[jC],[.val (.pair yc CW),.val (.row FC),.val .bool],fun x=>f36 x.1⟩
theorem k36:Qb.OK Tryz.prog 36:=aa (n:=10) (lf:=az) (an (l:=[(39,JY),(70,PN),(93,VQ),(94,V9)]) (u:=[]) (z:=[]) ⟨k39,k70,k93,k94,trivial⟩ trivial) (ak (l:=[(18446902411973885952,1,II)]) ⟨⟨by kernel_rfl,fun z=>by kernel_rfl⟩,trivial⟩) fun x=>by kernel_rfl
noncomputable def UG:aX:=⟨[jC],[.val (.row FC)],fun x=>f41 x.1⟩
theorem k41:UG.OK Tryz.prog 41:=aa (n:=10) (lf:=az) (an (l:=[(36,Qb)]) (u:=[]) (z:=[]) ⟨k36,trivial⟩ trivial) (ak (l:=[]) trivial) fun x=>by kernel_rfl
noncomputable def UO:aX:=⟨[Ji,(.pair .i (.pair .i (.pair .i .bool)))],[.val yc,.val .bool],fun x=>f43 x.1.1.1 x.1.1.2 x.1.2.1.1 x.1.2.1.2 x.1.2.2.1 x.1.2.2.2.1 x.1.2.2.2.2.1 x.1.2.2.2.2.2 x.2.1.1 x.2.1.2.1 x.2.1.2.2.1 x.2.1.2.2.2⟩
theorem k43:UO.OK Tryz.prog 43:=aa (n:=10) (lf:=az) (an (l:=[(78,zI)]) (u:=[]) (z:=[]) ⟨k78,trivial⟩ trivial) (ak (l:=[]) trivial) fun x=>by kernel_rfl
noncomputable def UD:aX:=⟨[],[.val Ji],fun x=>f44 ⟩
theorem k44:UD.OK Tryz.prog 44:=aa (n:=10) (lf:=az) (an (l:=[]) (u:=[]) (z:=[]) trivial trivial) (ak (l:=[]) trivial) fun x=>by kernel_rfl
noncomputable def UF:aX:=⟨[.i],[.val uI,.val .bool],fun x=>f45 x.1⟩
theorem k45:UF.OK Tryz.prog 45:=aa (n:=10) (lf:=az) (an (l:=[(34,jK)]) (u:=[]) (z:=[]) ⟨Mn,trivial⟩ trivial) (ak (l:=[]) trivial) fun x=>by kernel_rfl
abbrev Kc:List Ty:=[.i]
noncomputable abbrev ZL:List (Nat×aX):=[]
noncomputable abbrev abx:List (Nat×b5):=[]
noncomputable abbrev aar:Cons:=Oq ZL abx
abbrev XY:aj:=⟨20,[(1,.i)],[],[],[⟨.t 0,8294967360,5,lN⟩]⟩
abbrev Xj:aj:=⟨20,[(1,.i)],[],[],[⟨.t 0,8294967392,5,lN⟩]⟩
abbrev YW:aj:=⟨20,[],[],[],[]⟩
noncomputable def Qd:aK:=⟨9,121,XY,0,Xj,YW,PZ,false,none,none,[]⟩
noncomputable abbrev Yi:List (Nat×Nat×aK):=[(bP,1,Qd)]
noncomputable def IV:b5:=⟨5,.int .u8,Kc,false,fun zs x=>aaM zs x.1⟩
theorem XU:Round Tryz.prog aar (pZ Yi) az bP 1 Qd:=⟨by kernel_rfl,fun z=>by kernel_rfl⟩
theorem acw (zs:List (Ty.T lN))(x:dQ Kc):JQ Tryz.prog aar (pZ Yi) az 9 121 5 lN Kc zs x=f121 zs x.1:=by kernel_rfl
theorem aaB [aq][Ng Tryz.prog](h:C6 Tryz.prog ZL)(h':NO Tryz.prog abx):IV.OK Tryz.prog 121:=Ad (e:=.int .u8) (f:=fun (zs:List (Ty.T lN)) (x:dQ Kc)=>f121 zs x.1) (an h h') (ak (l:=Yi) ⟨XU,trivial⟩) rfl acw
theorem acu:IV.OK Tryz.prog 121:=aaB trivial trivial
abbrev Ax:aj:=⟨20,[(1,.i)],[],[],[⟨.t 0,18446796927282128960,5,lN⟩]⟩
abbrev CL:aj:=⟨20,[(1,.i)],[],[],[⟨.t 0,18446796927282128992,5,lN⟩]⟩
abbrev zU:aj:=⟨20,[],[],[],[]⟩
noncomputable def BX:aK:=⟨8,121,Ax,0,CL,zU,qf,false,none,none,[]⟩
noncomputable def GK:aX:=⟨[.i],[.val jC],fun x=>f117 x.1⟩
theorem Z3:GK.OK Tryz.prog 117:=aa (n:=10) (lf:=az) (an (l:=[(120,CB)]) (u:=[]) (z:=[]) ⟨Y7,trivial⟩ trivial) (ak (l:=[(n5,1,BX)]) ⟨⟨by kernel_rfl,fun z=>by kernel_rfl⟩,trivial⟩) fun x=>by kernel_rfl
abbrev YO:aj:=⟨36,[(0,.cont jC),(3,.i),(9,.cont jC),TK,(11,.i)],[],[],[]⟩
abbrev Yy:aj:=⟨36,[(0,.cont jC),(3,.i)],[],[],[]⟩
abbrev Zu:aj:=⟨36,[],[],[],[]⟩
noncomputable def XN:aK:=⟨9,123,YO,0,Yy,Zu,Na,false,none,none,[]⟩
abbrev Ug:aj:=⟨36,[(25,.cont jC),(26,.i),(27,.i)],[],[],[⟨.t 6,8294968000,5,lN⟩]⟩
abbrev Sp:aj:=⟨36,[],[],[],[⟨.t 6,8294968032,5,lN⟩]⟩
abbrev TA:aj:=⟨36,[],[],[],[]⟩
noncomputable def RZ:aK:=⟨9,123,Ug,2,Sp,TA,JH,false,none,none,[]⟩
noncomputable def He:aX:=⟨[(.row jC)],[.val jC],fun x=>f123 x.1⟩
theorem aaE:He.OK Tryz.prog 123:=aa (n:=10) (lf:=az) (an (l:=[(160,Dg)]) (u:=[]) (z:=[]) ⟨Sw,trivial⟩ trivial) (ak (l:=[(bP,3,XN),(bP,11,RZ)]) ⟨⟨by kernel_rfl,fun z=>by kernel_rfl⟩,⟨by kernel_rfl,fun z=>by kernel_rfl⟩,trivial⟩) fun x=>by kernel_rfl
noncomputable def Qx:aX:=⟨[jC],[.val jC],fun x=>f122 x.1⟩
theorem acD:Qx.OK Tryz.prog 122:=aa (n:=10) (lf:=az) (an (l:=[(123,He),(135,Im),(136,IK)]) (u:=[]) (z:=[Gb]) ⟨aaE,ab1,aap,trivial⟩ trivial) (ak (l:=[]) trivial) fun x=>by kernel_rfl
noncomputable def O7:aX:=⟨[(.pair .i jC)],[.val jC,.val .bool],fun x=>f87 x.1.1 x.1.2⟩
theorem k87:O7.OK Tryz.prog 87:=aa (n:=10) (lf:=az) (an (l:=[(117,GK),(122,Qx),(123,He)]) (u:=[]) (z:=[4294979632,4294979744]) ⟨Z3,acD,aaE,trivial⟩ trivial) (ak (l:=[]) trivial) fun x=>by kernel_rfl
abbrev abC:aj:=⟨28,[CJ,U3,TK,(11,.i)],[],[(bP,.box 45 [.i,.fix (.sl 8294967488 0)]),(fB,.box 45 [.i,.fix (.sl 8294967489 0)])],[⟨.c bP 1,8294967488,84,uN⟩,⟨.c fB 1,8294967489,84,uN⟩]⟩
abbrev abW:aj:=⟨28,[CJ,U3],[],[(bP,.box 45 [.i,.fix (.sl 8294967520 0)]),(fB,.box 45 [.i,.fix (.sl 8294967521 0)])],[⟨.c bP 1,8294967520,84,uN⟩,⟨.c fB 1,8294967521,84,uN⟩]⟩
abbrev ZQ:aj:=⟨28,[],[],[],[]⟩
noncomputable def Z8:aK:=⟨9,95,abC,0,abW,ZQ,zx,false,none,none,[]⟩
noncomputable def DU:aX:=⟨[uI],[.pair (.val .i) (.own 84 uN)],fun x=>f95 x.1.1 x.1.2⟩
theorem k95:DU.OK Tryz.prog 95:=aa (n:=10) (lf:=az) (an (l:=[(130,Dy),(131,vI)]) (u:=[]) (z:=[]) ⟨Kq,JN,trivial⟩ trivial) (ak (l:=[(bP,3,Z8)]) ⟨⟨by kernel_rfl,fun z=>by kernel_rfl⟩,trivial⟩) fun x=>by kernel_rfl
abbrev SO:aj:=⟨28,[CJ,U3,TK,(11,.i)],[],[ab6,(Ef,.zf 84 5 0),(fB,.box 45 [.i,.fix (.sl 8294967488 0)])],[kR2]⟩
abbrev Ti:aj:=⟨28,[CJ,U3],[],[ab6,(Ef,.zf 84 5 0),(fB,.box 45 [.i,.fix (.sl 8294967520 0)])],[kR3]⟩
abbrev RP:aj:=⟨28,[],[],[],[]⟩
noncomputable def RM:aK:=⟨9,95,SO,0,Ti,RP,J1,false,none,none,[]⟩
noncomputable def J7:aX:=⟨[aa1],[.pair (.val .i) (.deep 84 5 false)],fun x=>Dl x.1.1 x.1.2⟩
theorem aaY:J7.OK Tryz.prog 95:=aa (n:=10) (lf:=az) (an (l:=[(130,yG)]) (u:=[(131,VC)]) (z:=[]) ⟨MV,trivial⟩ ⟨S6,trivial⟩) (ak (l:=[(bP,3,RM)]) ⟨⟨by kernel_rfl,fun z=>by kernel_rfl⟩,trivial⟩) fun x=>by kernel_rfl
abbrev Ca:aj:=⟨26,[(1,.fix (.fn (.func 159) [] [(.ptr bP 0),(.ptr fB 0)])),(5,.i),(6,.i)],[Jt,Yg],[],[]⟩
abbrev BP:aj:=⟨26,[(5,.i)],[Jt,Yg],[],[]⟩
abbrev Cl:aj:=⟨26,[],[Yf,(fB,.gone)],[],[]⟩
noncomputable def Ah:aK:=⟨8,158,Ca,0,BP,Cl,fc,false,none,none,[]⟩
noncomputable def IW:aX:=⟨[uI,.i],[.val .i],fun x=>f119 x.1.1 x.1.2 x.2.1⟩
theorem aaj:IW.OK Tryz.prog 119:=aa (n:=10) (lf:=az) (an (l:=[]) (u:=[]) (z:=[]) trivial trivial) (ak (l:=[(n4,2,Ah)]) ⟨⟨by kernel_rfl,fun z=>by kernel_rfl⟩,trivial⟩) fun x=>by kernel_rfl
noncomputable def zb:aX:=⟨[uI,.i],[.val .i],fun x=>f96 x.1.1 x.1.2 x.2.1⟩
theorem k96:zb.OK Tryz.prog 96:=aa (n:=10) (lf:=az) (an (l:=[(34,jK),(119,IW)]) (u:=[]) (z:=[]) ⟨Mn,aaj,trivial⟩ trivial) (ak (l:=[]) trivial) fun x=>by kernel_rfl
noncomputable def MO:aX:=⟨[uI,.i,jC],[.val uI,.val .i],fun x=>f124 x.1.1 x.1.2 x.2.1 x.2.2.1⟩
theorem acQ:MO.OK Tryz.prog 124:=aa (n:=10) (lf:=az) (an (l:=[(34,jK),(63,PM),(95,J7),(96,zb)]) (u:=[]) (z:=[]) ⟨Mn,k63,aaY,k96,trivial⟩ trivial) (ak (l:=[]) trivial) fun x=>by kernel_rfl
noncomputable def Q2:aX:=⟨[(.one jC),uI,.i],[.val uI,.val .i],fun x=>f88 x.1 x.2.1.1 x.2.1.2 x.2.2.1⟩
theorem k88:Q2.OK Tryz.prog 88:=aa (n:=10) (lf:=az) (an (l:=[(124,MO)]) (u:=[]) (z:=[]) ⟨acQ,trivial⟩ trivial) (ak (l:=[]) trivial) fun x=>by kernel_rfl
noncomputable def O4:aX:=⟨[uI,.i],[.val uI,.val .i],fun x=>f89 x.1.1 x.1.2 x.2.1⟩
theorem k89:O4.OK Tryz.prog 89:=aa (n:=10) (lf:=az) (an (l:=[(34,jK),(95,DU),(96,zb)]) (u:=[]) (z:=[]) ⟨Mn,k95,k96,trivial⟩ trivial) (ak (l:=[]) trivial) fun x=>by kernel_rfl
abbrev aaW:aj:=⟨24,[(10,.cont .i),(11,.i),(12,.i)],[],[],[⟨.t 4,EE,5,lN⟩]⟩
abbrev abk:aj:=⟨24,[],[],[],[⟨.t 4,8294967648,5,lN⟩]⟩
abbrev abL:aj:=⟨24,[(3,.bool)],[],[],[⟨.t 2,8294967664,5,lN⟩]⟩
noncomputable def aat:aK:=⟨9,86,aaW,0,abk,abL,Vr,false,none,none,[]⟩
noncomputable def Ke:aX:=⟨[(.row .i)],[.own 5 lN,.val .bool],fun x=>f86 x.1⟩
theorem k86:Ke.OK Tryz.prog 86:=aa (n:=10) (lf:=az) (an (l:=[(120,CB)]) (u:=[(121,IV)]) (z:=[]) ⟨Y7,trivial⟩ ⟨acu,trivial⟩) (ak (l:=[(bP,5,aat)]) ⟨⟨by kernel_rfl,fun z=>by kernel_rfl⟩,trivial⟩) fun x=>by kernel_rfl
noncomputable def Rv:aX:=⟨[.i,.i],[.val .i],fun x=>f113 x.1 x.2.1⟩
theorem ac5:Rv.OK Tryz.prog 113:=aa (n:=10) (lf:=az) (an (l:=[]) (u:=[]) (z:=[]) trivial trivial) (ak (l:=[]) trivial) fun x=>by kernel_rfl
abbrev Yj:aj:=⟨69,[(52,.cont bR),(53,.i),(54,.i)],[],[],[⟨.t 5,8294967680,3,.i⟩]⟩
abbrev YQ:aj:=⟨69,[],[],[],[⟨.t 5,8294967712,3,.i⟩]⟩
abbrev Xr:aj:=⟨69,[],[],[],[]⟩
noncomputable def WC:aK:=⟨9,114,Yj,0,YQ,Xr,IZ,false,none,none,[]⟩
noncomputable def Ra:aX:=⟨[yc],[.own 3 .i],fun x=>f114 x.1.1.1.1 x.1.1.1.2 x.1.1.2.1.1 x.1.1.2.1.2 x.1.1.2.2.1 x.1.1.2.2.2.1 x.1.1.2.2.2.2.1 x.1.1.2.2.2.2.2 x.1.2.1.1 x.1.2.1.2.1 x.1.2.1.2.2.1 x.1.2.1.2.2.2 x.1.2.2.1 x.1.2.2.2.1 x.1.2.2.2.2.1 x.1.2.2.2.2.2⟩
theorem adr:Ra.OK Tryz.prog 114:=aa (n:=10) (lf:=az) (an (l:=[]) (u:=[]) (z:=[]) trivial trivial) (ak (l:=[(bP,6,WC)]) ⟨⟨by kernel_rfl,fun z=>by kernel_rfl⟩,trivial⟩) fun x=>by kernel_rfl
abbrev Cq:aj:=⟨19,[(0,.cont .i),(1,.fix (.fn (.func 152) [] [(.ptr bP 0)])),yS,xU],[CP],[],[]⟩
abbrev Bo:aj:=⟨19,[],[CP],[],[]⟩
abbrev Aa:aj:=⟨19,[IP],[CP],[],[]⟩
noncomputable def Ck:aK:=⟨7,180,Cq,0,Bo,Aa,rB,false,none,none,[]⟩
abbrev Xh:aj:=⟨62,kL2,[],[CP],[⟨.t 8,8294967872,5,lN⟩]⟩
abbrev SJ:aj:=⟨62,kL2,[],[CP],[⟨.t 8,8294968128,5,lN⟩]⟩
abbrev Uc:aj:=⟨62,kL2,[],[CP],[⟨.t 8,8294968160,5,lN⟩]⟩
abbrev T6:aj:=⟨62,[],[],[],[]⟩
noncomputable def TH:aK:=⟨9,115,SJ,1000000007,Uc,T6,JP,false,(some 0),none,[]⟩
abbrev WQ:aj:=⟨62,[kK5,TK],[],[],[⟨.t 8,8294967904,5,lN⟩]⟩
abbrev Wa:aj:=⟨62,[],[],[],[]⟩
noncomputable def WD:aK:=⟨9,115,Xh,0,WQ,Wa,IG,false,none,none,[]⟩
noncomputable def N5:aX:=⟨[(.row .i),.i],[.own 5 lN,.val .bool],fun x=>f115 x.1 x.2.1⟩
theorem acW:N5.OK Tryz.prog 115:=aa (n:=10) (lf:=az) (an (l:=[(140,Ip)]) (u:=[]) (z:=[]) ⟨aad,trivial⟩ trivial) (ak (l:=[(79228390682041803040907853824,2,Ck),(bP,13,TH),(bP,9,WD)]) ⟨⟨by kernel_rfl,fun z=>by kernel_rfl⟩,⟨by kernel_rfl,fun z=>by kernel_rfl⟩,⟨by kernel_rfl,fun z=>by kernel_rfl⟩,trivial⟩) fun x=>by kernel_rfl
noncomputable def Ob:aX:=⟨[.i],[.val .i],fun x=>f155 x.1⟩
theorem ac8:Ob.OK Tryz.prog 155:=aa (n:=10) (lf:=az) (an (l:=[]) (u:=[]) (z:=[]) trivial trivial) (ak (l:=[]) trivial) fun x=>by kernel_rfl
abbrev Xb:aj:=⟨37,[(0,.cont .i),(5,.fix (.fn (.func 154) [] [(.ptr MA 0)])),(13,.i),(14,.i)],[],[(MA,.box 3 [.i])],[⟨.t 6,EE,3,.i⟩]⟩
abbrev Xo:aj:=⟨37,[],[],[],[⟨.t 6,8294967648,3,.i⟩]⟩
abbrev Wb:aj:=⟨37,[(3,.bool)],[],[],[⟨.t 2,8294967664,5,lN⟩]⟩
noncomputable def Ww:aK:=⟨9,116,Xb,0,Xo,Wb,Qh,false,none,none,[]⟩
noncomputable def Rp:aX:=⟨[(.row .i)],[.own 5 lN,.val .bool],fun x=>f116 x.1⟩
theorem adv:Rp.OK Tryz.prog 116:=aa (n:=10) (lf:=az) (an (l:=[(86,Ke),(143,Gy),(155,Ob)]) (u:=[]) (z:=[]) ⟨k86,aaH,ac8,trivial⟩ trivial) (ak (l:=[(bP,5,Ww)]) ⟨⟨by kernel_rfl,fun z=>by kernel_rfl⟩,trivial⟩) fun x=>by kernel_rfl
abbrev D6:aj:=⟨19,[ZH,(1,.fix (.fn (.func 112) [] [(.ptr bP 0)])),yS,xU],[Ms],[],[]⟩
abbrev Dx:aj:=⟨19,[],[Ms],[],[]⟩
abbrev DK:aj:=⟨19,[IP],[Ms],[],[]⟩
noncomputable def D2:aK:=⟨7,105,D6,0,Dx,DK,tI,false,none,none,[]⟩
abbrev aaN:aj:=⟨117,[CJ,(28,.cont eF),(29,.i),(30,.i)],[],[Ms],[⟨.t 5,8294967680,3,.i⟩,⟨.t 6,8294967681,3,.i⟩,⟨.t 7,8294967682,3,.i⟩,⟨.t 8,8294967683,3,.i⟩]⟩
abbrev aaJ:aj:=⟨117,[CJ],[],[Ms],[⟨.t 5,8294967712,3,.i⟩,⟨.t 6,8294967713,3,.i⟩,⟨.t 7,8294967714,3,.i⟩,⟨.t 8,8294967715,3,.i⟩]⟩
abbrev aaS:aj:=⟨117,[],[],[],[]⟩
noncomputable def aac:aK:=⟨9,79,aaN,0,aaJ,aaS,Qq,false,none,none,[]⟩
abbrev XJ:aj:=⟨117,[CJ,(53,.cont bR),(54,.i),(55,.i)],[],[Ms],[⟨.t 5,8294968000,3,.i⟩,⟨.t 6,8294968001,3,.i⟩,⟨.t 7,8294968002,3,.i⟩,⟨.t 8,8294968003,3,.i⟩]⟩
abbrev Y5:aj:=⟨117,[CJ],[],[Ms],[⟨.t 5,8294968032,3,.i⟩,⟨.t 6,8294968033,3,.i⟩,⟨.t 7,8294968034,3,.i⟩,⟨.t 8,8294968035,3,.i⟩]⟩
abbrev XL:aj:=⟨117,[],[],[],[]⟩
noncomputable def Xw:aK:=⟨9,79,XJ,2,Y5,XL,GD,false,none,none,[]⟩
noncomputable def U4:aX:=⟨[yc],[.val jC,.val .bool],fun x=>f79 x.1.1.1.1 x.1.1.1.2 x.1.1.2.1.1 x.1.1.2.1.2 x.1.1.2.2.1 x.1.1.2.2.2.1 x.1.1.2.2.2.2.1 x.1.1.2.2.2.2.2 x.1.2.1.1 x.1.2.1.2.1 x.1.2.1.2.2.1 x.1.2.1.2.2.2 x.1.2.2.1 x.1.2.2.2.1 x.1.2.2.2.2.1 x.1.2.2.2.2.2⟩
theorem k79:U4.OK Tryz.prog 79:=aa (n:=10) (lf:=az) (an (l:=[(78,zI),(86,Ke),(113,Rv),(114,Ra),(115,N5),(116,Rp),(117,GK)]) (u:=[]) (z:=[]) ⟨k78,k86,ac5,adr,acW,adv,Z3,trivial⟩ trivial) (ak (l:=[(79228315714473887485290086400,2,D2),(bP,6,aac),(bP,11,Xw)]) ⟨⟨by kernel_rfl,fun z=>by kernel_rfl⟩,⟨by kernel_rfl,fun z=>by kernel_rfl⟩,⟨by kernel_rfl,fun z=>by kernel_rfl⟩,trivial⟩) fun x=>by kernel_rfl
noncomputable def QI:aX:=⟨[uI],[.val .i,.val .i],fun x=>f80 x.1.1 x.1.2⟩
theorem k80:QI.OK Tryz.prog 80:=aa (n:=10) (lf:=az) (an (l:=[]) (u:=[]) (z:=[]) trivial trivial) (ak (l:=[]) trivial) fun x=>by kernel_rfl
noncomputable def V5:aX:=⟨[uI,.i],[.val uI,.val .i],fun x=>f82 x.1.1 x.1.2 x.2.1⟩
theorem k82:V5.OK Tryz.prog 82:=aa (n:=10) (lf:=az) (an (l:=[(34,jK),(95,DU),(96,zb),(119,IW)]) (u:=[(118,N6)]) (z:=[4295008368]) ⟨Mn,k95,k96,aaj,trivial⟩ ⟨R8,trivial⟩) (ak (l:=[]) trivial) fun x=>by kernel_rfl
noncomputable def V7:aX:=⟨[uI,yc],[.val Ea,.val .i],fun x=>f46 x.1.1 x.1.2 x.2.1.1.1.1 x.2.1.1.1.2 x.2.1.1.2.1.1 x.2.1.1.2.1.2 x.2.1.1.2.2.1 x.2.1.1.2.2.2.1 x.2.1.1.2.2.2.2.1 x.2.1.1.2.2.2.2.2 x.2.1.2.1.1 x.2.1.2.1.2.1 x.2.1.2.1.2.2.1 x.2.1.2.1.2.2.2 x.2.1.2.2.1 x.2.1.2.2.2.1 x.2.1.2.2.2.2.1 x.2.1.2.2.2.2.2⟩
theorem k46:V7.OK Tryz.prog 46:=aa (n:=10) (lf:=az) (an (l:=[(34,jK),(79,U4),(80,QI),(82,V5),(87,O7),(88,Q2),(89,O4)]) (u:=[]) (z:=[]) ⟨Mn,k79,k80,k82,k87,k88,k89,trivial⟩ trivial) (ak (l:=[]) trivial) fun x=>by kernel_rfl
noncomputable def Vs:aX:=⟨[],[.val Ea,.val yc],fun x=>f21 ⟩
theorem k21:Vs.OK Tryz.prog 21:=aa (n:=10) (lf:=az) (an (l:=[(43,UO),(44,UD),(45,UF),(46,V7)]) (u:=[]) (z:=[]) ⟨k43,k44,k45,k46,trivial⟩ trivial) (ak (l:=[]) trivial) fun x=>by kernel_rfl
noncomputable def UE:aX:=⟨[Ea],[.val .bool],fun x=>f47 x.1.1.1 x.1.1.2 x.1.2.1 x.1.2.2⟩
theorem k47:UE.OK Tryz.prog 47:=aa (n:=10) (lf:=az) (an (l:=[(34,jK),(80,QI)]) (u:=[]) (z:=[]) ⟨Mn,k80,trivial⟩ trivial) (ak (l:=[]) trivial) fun x=>by kernel_rfl
abbrev abz:aj:=⟨32,[CJ,U3,(3,.fix (.ptr Gb 0)),(12,.cont uN),(13,.i),(14,.i)],[],[aau,(fB,.box 48 [.i,.fix (.sl 8294967488 0),.i,.i]),(Gb,.box 45 [.i,.fix (.sl 8294967489 0)])],[kR2,⟨.c Gb 1,8294967489,84,uN⟩]⟩
abbrev abn:aj:=⟨32,[CJ,U3,(3,.fix (.ptr Gb 0))],[],[aau,(fB,.box 48 [.i,.fix (.sl 8294967520 0),.i,.i]),(Gb,.box 45 [.i,.fix (.sl 8294967521 0)])],[kR3,⟨.c Gb 1,8294967521,84,uN⟩]⟩
abbrev aaV:aj:=⟨32,[],[],[],[]⟩
noncomputable def aaF:aK:=⟨9,48,abz,0,abn,aaV,V3,false,none,none,[]⟩
noncomputable def VS:aX:=⟨[Ea],[.val Ea],fun x=>f48 x.1.1.1 x.1.1.2 x.1.2.1 x.1.2.2⟩
theorem k48:VS.OK Tryz.prog 48:=aa (n:=10) (lf:=az) (an (l:=[]) (u:=[]) (z:=[4294987808,4294991920]) trivial trivial) (ak (l:=[(bP,3,aaF)]) ⟨⟨by kernel_rfl,fun z=>by kernel_rfl⟩,trivial⟩) fun x=>by kernel_rfl
noncomputable def VB:aX:=⟨[FC],[.val (.row .i)],fun x=>f85 x.1.1 x.1.2.1 x.1.2.2.1 x.1.2.2.2.1 x.1.2.2.2.2.1 x.1.2.2.2.2.2.1 x.1.2.2.2.2.2.2.1 x.1.2.2.2.2.2.2.2.1 x.1.2.2.2.2.2.2.2.2⟩
theorem k85:VB.OK Tryz.prog 85:=aa (n:=10) (lf:=az) (an (l:=[]) (u:=[]) (z:=[]) trivial trivial) (ak (l:=[]) trivial) fun x=>by kernel_rfl
abbrev ZI:aj:=⟨48,[(0,.i),aa2,(13,.i),(14,.i)],[],[],[⟨.t 6,EE,3,.i⟩]⟩
abbrev aby:aj:=⟨48,[],[],[],[⟨.t 6,8294967648,3,.i⟩]⟩
abbrev aa4:aj:=⟨48,[(5,.bool)],[],[],[⟨.t 4,8294967664,5,lN⟩]⟩
noncomputable def abZ:aK:=⟨9,49,ZI,0,aby,aa4,V0,false,none,none,[]⟩
noncomputable def UZ:aX:=⟨[.i,(.row FC)],[.val jC,.val .bool],fun x=>f49 x.1 x.2.1⟩
theorem k49:UZ.OK Tryz.prog 49:=aa (n:=10) (lf:=az) (an (l:=[(83,J2),(84,Kp),(85,VB),(86,Ke)]) (u:=[]) (z:=[]) ⟨k83,k84,k85,k86,trivial⟩ trivial) (ak (l:=[(bP,5,abZ)]) ⟨⟨by kernel_rfl,fun z=>by kernel_rfl⟩,trivial⟩) fun x=>by kernel_rfl
noncomputable def UU:aX:=⟨[Ea,(.row FC)],[.val Ea,.val .i],fun x=>f22 x.1.1.1 x.1.1.2 x.1.2.1 x.1.2.2 x.2.1⟩
theorem k22:UU.OK Tryz.prog 22:=aa (n:=10) (lf:=az) (an (l:=[(47,UE),(48,VS),(49,UZ),(87,O7),(88,Q2),(89,O4)]) (u:=[]) (z:=[]) ⟨k47,k48,k49,k87,k88,k89,trivial⟩ trivial) (ak (l:=[]) trivial) fun x=>by kernel_rfl
abbrev Hz:aj:=⟨19,[(0,.fix (.iK JJ)),(1,.fix (.ptr n14 0)),(3,.i)],[Jt,Zl,Yu,Xq,aaf],[],[]⟩
abbrev FJ:aj:=⟨19,[],[Jt,Zl,Yu,Xq,aaf],[],[]⟩
abbrev Gk:aj:=⟨19,[],[Jt,Zl,Yu,Xq,(JJ,.loop 23 5 (.done .ret) [.fix .ah,.fix .ah,.fix (.ptr fB 0),.fix (.ptr rO 0),.fix .ah,.fix (.lit (.tuple #[])),.fix (.lit (.tuple #[])),.fix .ah,.fix (.lit (.tuple #[])),.fix .ah,.fix .ah,.fix .ah,.fix .ah,.fix .ah,.fix .ah,.fix .ah,.fix .ah,.fix (.lit (.tuple #[])),.fix (.lit (.tuple #[])),.fix (.lit (.tuple #[])),.fix (.lit (.tuple #[])),.fix (.lit (.tuple #[])),.fix (.lit (.tuple #[])),.fix (.lit (.tuple #[])),.fix (.lit (.tuple #[])),.fix (.lit (.tuple #[])),.fix (.lit (.tuple #[])),.fix (.lit (.tuple #[])),.fix .ah])],[],[]⟩
noncomputable def It:aK:=⟨8,64,Hz,0,FJ,Gk,w9,false,none,none,[]⟩
noncomputable def VY:aX:=⟨[uI],[.val Ji,.val .bool],fun x=>f23 x.1.1 x.1.2⟩
theorem k23:VY.OK Tryz.prog 23:=aa (n:=10) (lf:=az) (an (l:=[(34,jK),(39,JY)]) (u:=[]) (z:=[]) ⟨Mn,k39,trivial⟩ trivial) (ak (l:=[(18446832043229708288,1,It)]) ⟨⟨by kernel_rfl,fun z=>by kernel_rfl⟩,trivial⟩) fun x=>by kernel_rfl
abbrev abK:aj:=⟨23,[CJ,(3,.i)],[],[Jt],[]⟩
abbrev abI:aj:=⟨23,[CJ],[],[Jt],[]⟩
abbrev abo:aj:=⟨23,[(2,.bool)],[],[],[]⟩
noncomputable def abc:aK:=⟨9,17,abK,0,abI,abo,xL,false,none,none,[]⟩
noncomputable def UA:aX:=⟨[uI],[.val .bool],fun x=>f17 x.1.1 x.1.2⟩
theorem k17:UA.OK Tryz.prog 17:=aa (n:=10) (lf:=az) (an (l:=[]) (u:=[]) (z:=[]) trivial trivial) (ak (l:=[(bP,2,abc)]) ⟨⟨by kernel_rfl,fun z=>by kernel_rfl⟩,trivial⟩) fun x=>by kernel_rfl
noncomputable def Ve:aX:=⟨[uI,.i],[.val uI,.val .i],fun x=>f37 x.1.1 x.1.2 x.2.1⟩
theorem k37:Ve.OK Tryz.prog 37:=aa (n:=10) (lf:=az) (an (l:=[(34,jK),(95,DU),(96,zb)]) (u:=[]) (z:=[]) ⟨Mn,k95,k96,trivial⟩ trivial) (ak (l:=[]) trivial) fun x=>by kernel_rfl
noncomputable def VP:aX:=⟨[uI,.i,.i],[.val uI,.val .i],fun x=>f38 x.1.1 x.1.2 x.2.1 x.2.2.1⟩
theorem k38:VP.OK Tryz.prog 38:=aa (n:=10) (lf:=az) (an (l:=[(34,jK),(95,DU),(96,zb)]) (u:=[]) (z:=[]) ⟨Mn,k95,k96,trivial⟩ trivial) (ak (l:=[]) trivial) fun x=>by kernel_rfl
abbrev Ic:aj:=⟨19,[(0,.fix (.iK 4295000064)),(1,.fix (.ptr n6 0)),(3,.i)],[Jt,(fB,.box 48 [.i,.fix (.sl Sq 0),.i,.i]),(rO,.box 55 [.i,.i,.i,.i,.i,.i,.i,.i,.i,.i,.i,.bool,.i,.fix (.sl R6 0),.fix (.sl TP 0),.fix (.sl T7 0)]),(x9,.box 86 [.i,.i,.i,.i,.i,.i,.i,.i,.i,.i,.i,.bool,.i,.fix (.sl TB 0),.fix (.sl SP 0),.fix (.sl 18446884823787841606 0),.i,.i]),(M6,.box 87 [.fix (.sl 18446884823787841607 0)]),Rg,WN,abw],[],[⟨.c fB 1,Sq,84,uN⟩,⟨.c rO 13,R6,180,bR⟩,⟨.c rO 14,TP,61,eF⟩,⟨.c rO 15,T7,184,bR⟩,⟨.c x9 13,TB,180,bR⟩,⟨.c x9 14,SP,61,eF⟩,⟨.c x9 15,18446884823787841606,184,bR⟩,⟨.c M6 0,18446884823787841607,3,.i⟩]⟩
abbrev FO:aj:=⟨19,[],[Jt,(fB,.box 48 [.i,.fix (.sl TW 0),.i,.i]),(rO,.box 55 [.i,.i,.i,.i,.i,.i,.i,.i,.i,.i,.i,.bool,.i,.fix (.sl Tq 0),.fix (.sl RX 0),.fix (.sl TM 0)]),(x9,.box 86 [.i,.i,.i,.i,.i,.i,.i,.i,.i,.i,.i,.bool,.i,.fix (.sl TS 0),.fix (.sl Tg 0),.fix (.sl 18446884823787841638 0),.i,.i]),(M6,.box 87 [.fix (.sl 18446884823787841639 0)]),Rg,WN,abw],[],[⟨.c fB 1,TW,84,uN⟩,⟨.c rO 13,Tq,180,bR⟩,⟨.c rO 14,RX,61,eF⟩,⟨.c rO 15,TM,184,bR⟩,⟨.c x9 13,TS,180,bR⟩,⟨.c x9 14,Tg,61,eF⟩,⟨.c x9 15,18446884823787841638,184,bR⟩,⟨.c M6 0,18446884823787841639,3,.i⟩]⟩
abbrev GU:aj:=⟨19,[],[Jt,(fB,.box 48 [.i,.fix (.sl 18446884823787841648 0),.i,.i]),(rO,.box 55 [.i,.i,.i,.i,.i,.i,.i,.i,.i,.i,.i,.bool,.i,.fix (.sl 18446884823787841649 0),.fix (.sl 18446884823787841650 0),.fix (.sl 18446884823787841651 0)]),YH,(M6,.box 87 [.fix (.sl 18446884823787841652 0)]),Rg,WN,(4295000064,.loop 18 8 (.done (.exit 0)) [.fix .ah,.fix .ah,.fix .ah,.fix .ah,.fix .ah,.fix (.ptr x9 0),.fix (.ptr M6 0),.fix (.ptr JJ 0),.fix .ah,.fix (.lit (.tuple #[])),.fix (.lit (.tuple #[])),.fix .ah,.fix (.lit (.tuple #[])),.fix .ah,.fix .ah,.fix .ah,.fix .ah,.fix .ah,.fix .ah,.fix .ah,.fix .ah,.fix .ah,.fix .ah,.fix .ah,.fix (.lit (.tuple #[])),.fix (.lit (.tuple #[])),.fix (.lit (.tuple #[])),.fix (.lit (.tuple #[])),.fix (.lit (.tuple #[])),.fix (.lit (.tuple #[])),.fix (.lit (.tuple #[])),.fix (.lit (.tuple #[])),.fix (.lit (.tuple #[])),.fix (.lit (.tuple #[])),.fix (.lit (.tuple #[])),.fix (.lit (.tuple #[])),.fix (.lit (.tuple #[])),.fix (.lit (.tuple #[])),.fix (.lit (.tuple #[])),.fix (.lit (.tuple #[])),.fix (.lit (.tuple #[])),.fix .ah,.fix .ah,.fix .ah,.fix .ah,.fix .ah,.fix .ah,.fix .ah,.fix .ah,.fix .ah,.fix .ah,.fix .ah,.fix .ah,.fix .ah,.fix .ah,.fix .ah,.fix .ah,.fix .ah,.fix .ah,.fix .ah,.fix .ah,.fix .ah,.fix .ah,.fix .ah,.fix .ah,.fix .ah,.fix .ah,.fix .ah,.fix .ah,.fix .ah,.fix .ah,.fix .ah,.fix .ah])],[],[⟨.c fB 1,18446884823787841648,84,uN⟩,⟨.c rO 13,18446884823787841649,180,bR⟩,⟨.c rO 14,18446884823787841650,61,eF⟩,⟨.c rO 15,18446884823787841651,184,bR⟩,⟨.c M6 0,18446884823787841652,3,.i⟩]⟩
noncomputable def HW:aK:=⟨8,64,Ic,0,FO,GU,bM,false,none,none,[]⟩
abbrev YF:aj:=⟨73,[CJ,U3,(3,.fix (.ptr rO 0)),(5,.fix (.ptr x9 0)),(7,.fix (.ptr JJ 0)),(46,.i),(47,.i)],[],[Jt,(fB,.box 48 [.i,.fix (.sl 8294968257 0),.i,.i]),(rO,.box 55 [.i,.i,.i,.i,.i,.i,.i,.i,.i,.i,.i,.bool,.i,.fix (.sl 8294968258 0),.fix (.sl 8294968259 0),.fix (.sl 8294968260 0)]),YH,Rg],[⟨.t 45,8294968256,3,.i⟩,⟨.c fB 1,8294968257,84,uN⟩,⟨.c rO 13,8294968258,180,bR⟩,⟨.c rO 14,8294968259,61,eF⟩,⟨.c rO 15,8294968260,184,bR⟩]⟩
abbrev WV:aj:=⟨73,[CJ,U3,(3,.fix (.ptr rO 0)),(5,.fix (.ptr x9 0)),(7,.fix (.ptr JJ 0))],[],[Jt,(fB,.box 48 [.i,.fix (.sl 8294968288 0),.i,.i]),(rO,.box 55 [.i,.i,.i,.i,.i,.i,.i,.i,.i,.i,.i,.bool,.i,.fix (.sl 8294968289 0),.fix (.sl 8294968290 0),.fix (.sl 8294968291 0)]),YH,Rg],[⟨.c fB 1,8294968288,84,uN⟩,⟨.c rO 13,8294968289,180,bR⟩,⟨.c rO 14,8294968290,61,eF⟩,⟨.c rO 15,8294968291,184,bR⟩]⟩
abbrev Zq:aj:=⟨73,[],[],[],[]⟩
noncomputable def YP:aK:=⟨9,18,YF,2,WV,Zq,gU,false,none,none,[]⟩
noncomputable def Vz:aX:=⟨[uI],[.val Ea,.val yc,.val .i],fun x=>f18 x.1.1 x.1.2⟩
theorem k18:Vz.OK Tryz.prog 18:=aa (n:=10) (lf:=az) (an (l:=[(34,jK),(36,Qb),(37,Ve),(38,VP)]) (u:=[]) (z:=[]) ⟨Mn,k36,k37,k38,trivial⟩ trivial) (ak (l:=[(18446884819787841536,1,HW),(bP,15,YP)]) ⟨⟨by kernel_rfl,fun z=>by kernel_rfl⟩,⟨by kernel_rfl,fun z=>by kernel_rfl⟩,trivial⟩) fun x=>by kernel_rfl
abbrev Z6:aj:=⟨41,[ZH,Z5,(6,.i),yS,xU],[],[(bP,.box 61 [.i,.i,.i,.i,.i])],[]⟩
abbrev abR:aj:=⟨41,[(6,.i),yS],[],[],[]⟩
abbrev abr:aj:=⟨41,[],[],[],[]⟩
noncomputable def abM:aK:=⟨9,20,Z6,0,abR,abr,yA,false,none,none,[]⟩
noncomputable def Vb:aX:=⟨[ld,eF],[.val .i,.val .i],fun x=>f20 x.1 x.2.1.1 x.2.1.2.1 x.2.1.2.2.1 x.2.1.2.2.2.1 x.2.1.2.2.2.2⟩
theorem k20:Vb.OK Tryz.prog 20:=aa (n:=10) (lf:=az) (an (l:=[]) (u:=[]) (z:=[]) trivial trivial) (ak (l:=[(bP,4,abM)]) ⟨⟨by kernel_rfl,fun z=>by kernel_rfl⟩,trivial⟩) fun x=>by kernel_rfl
abbrev aaQ:aj:=⟨53,[TG,XQ,(19,.i),(20,.i)],[],[Uu,R7],[⟨.c FE 0,EE,27,eF⟩]⟩
abbrev GI:aj:=⟨86,[YZ,(3,.fix (.ptr n15 0)),(4,.fix (.fn (.func 72) [] [(.ptr n15 0)])),(16,.i),(17,.i)],[Uu,R7,YN,kO7,kO8],[XZ],[]⟩
abbrev DC:aj:=⟨19,[ZH,(1,.fix (.fn (.func 74) [] [(.ptr n16 0)])),yS,xU],kL3,[],[]⟩
abbrev E3:aj:=⟨19,[],kL3,[],[]⟩
abbrev Fs:aj:=⟨19,[IP],kL3,[],[]⟩
noncomputable def D5:aK:=⟨5,105,DC,0,E3,Fs,cI,false,none,none,[]⟩
abbrev HR:aj:=⟨86,[YZ,(3,.fix (.ptr n15 0))],[Uu,R7,YN,kO7,kO8],[XZ],[]⟩
abbrev G4:aj:=⟨86,[],kL4,[],[]⟩
noncomputable def Gm:aK:=⟨8,40,GI,0,HR,G4,dZ,false,none,none,[]⟩
abbrev HQ:aj:=⟨86,[YZ,(55,.cont eF),(56,.i),(57,.i)],[(FE,.box 99 [.fix (.sl 18446902549117872704 0),.fix (.mp x9)]),R7,aai,kO7,kO8],[],[⟨.c FE 0,18446902549117872704,27,eF⟩]⟩
abbrev Ih:aj:=⟨86,[],[(FE,.box 99 [.fix (.sl 18446902549117872736 0),.fix (.mp x9)]),R7,aai,kO7,kO8],[],[⟨.c FE 0,18446902549117872736,27,eF⟩]⟩
abbrev HB:aj:=⟨86,[],kL4,[],[]⟩
noncomputable def HK:aK:=⟨8,40,HQ,2,Ih,HB,de,false,none,none,[(FE,0,18446902549117872728)]⟩
abbrev Y2:aj:=⟨53,[TG,XQ,(19,.i),(20,.i),(38,.cont FC),(39,.i),(40,.i)],[],[(FE,.box 99 [.fix (.sl 8294968000 0),.fix (.mp x9)]),R7],[⟨.c FE 0,8294968000,27,eF⟩]⟩
abbrev Y9:aj:=⟨53,[TG,XQ,(19,.i),(20,.i)],[],[(FE,.box 99 [.fix (.sl 8294968032 0),.fix (.mp x9)]),R7],[⟨.c FE 0,8294968032,27,eF⟩]⟩
abbrev WU:aj:=⟨53,[],[],[],[]⟩
noncomputable def Wm:aK:=⟨9,19,Y2,2,Y9,WU,mw,false,none,none,[]⟩
abbrev ZX:aj:=⟨53,[TG],[],[(FE,.box 99 [.fix (.sl 8294967648 0),.fix (.mp x9)]),R7],[⟨.c FE 0,8294967648,27,eF⟩]⟩
abbrev aaA:aj:=⟨53,[],[],[],[]⟩
noncomputable def abe:aK:=⟨9,19,aaQ,0,ZX,aaA,nh,false,none,none,[]⟩
noncomputable def M8:aX:=⟨[uI],[.val ld],fun x=>f19 x.1.1 x.1.2⟩
theorem k19:M8.OK Tryz.prog 19:=aa (n:=10) (lf:=az) (an (l:=[(34,jK),(39,JY),(41,UG),(75,VX)]) (u:=[]) (z:=[]) ⟨Mn,k39,k41,k75,trivial⟩ trivial) (ak (l:=[(n17,2,D5),(n15,3,Gm),(n15,9,HK),(bP,11,Wm),(bP,5,abe)]) ⟨⟨by kernel_rfl,fun z=>by kernel_rfl⟩,⟨by kernel_rfl,fun z=>by kernel_rfl⟩,⟨by kernel_rfl,fun z=>by kernel_rfl⟩,⟨by kernel_rfl,fun z=>by kernel_rfl⟩,⟨by kernel_rfl,fun z=>by kernel_rfl⟩,trivial⟩) fun x=>by kernel_rfl
noncomputable def aaG:aX:=⟨[],[.val .bool],fun x=>f8 ⟩
theorem k8:aaG.OK Tryz.prog 8:=aa (n:=10) (lf:=az) (an (l:=[(10,VE),(11,Vy),(12,UB),(14,V8),(19,M8),(21,Vs),(22,UU),(23,VY)]) (u:=[]) (z:=[4294975552]) ⟨k10,k11,k12,k14,k19,k21,k22,k23,trivial⟩ trivial) (ak (l:=[]) trivial) fun x=>by kernel_rfl
end Go.Proofs.Zz
