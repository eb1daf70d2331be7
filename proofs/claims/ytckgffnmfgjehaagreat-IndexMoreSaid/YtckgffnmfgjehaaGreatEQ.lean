/- Eq18a, Eq18b, Eq18c, Eq18d, Eq18e, Eq18f. -/
import Derived.Test.YtckgffnmfgjehaaGreatPU
import Derived.Test.YtckgffnmfgjehaaGreatFD
namespace Go.Proofs.Zz
open Go Go.Sy
set_option linter.unusedVariables false
set_option maxHeartbeats 0
set_option maxRecDepth 100000
abbrev _root_.Go.Sy.Ty.i:Go.Sy.Ty:=.int .i64
abbrev _root_.Go.Sy.SK.i:Go.Sy.SK:=.int .i64
abbrev n0:Nat:=18446761807629516800
abbrev n1:Nat:=18446867292026306560
abbrev n2:Nat:=18446779399815561216
abbrev n3:Nat:=18446761945068470288
abbrev n4:Nat:=18446761945068470272
abbrev n5:Nat:=18446796923282128896
abbrev n6:Nat:=18446849768559738880
abbrev n7:Nat:=18446849768559738896
abbrev n8:Nat:=79228238976018540853555363840
abbrev n9:Nat:=18446761876348993536
abbrev Wl:Nat:=18447060874792271872
abbrev Wb:Nat:=18447114201106219008
abbrev Wq:Nat:=340288210869433754576934048087100358656
abbrev W8:Nat:=340289194566299531682949609528787730432
abbrev Wh:Nat:=18446796992001605632
abbrev n15:Nat:=18446902545117872128
abbrev n16:Nat:=79228843143780514457045696512
abbrev n17:Nat:=1461514192729396845559878576066955113181946576896
abbrev bG:Nat:=4294967296
abbrev fp:Nat:=4294967312
abbrev nV:Nat:=4294988496
abbrev zS:Nat:=4294971424
abbrev Ar:Nat:=4294979616
abbrev FU:Nat:=4294971392
abbrev Mo:Nat:=4294987776
abbrev NE:Nat:=4294979584
abbrev NX:Nat:=8294967616
abbrev NZ:Nat:=4294971456
abbrev xN:Ty:=.pair .i .i
abbrev bX:Ty:=.pair .i xN
abbrev EA:Ty:=.pair xN (.pair xN (.pair .i bX))
abbrev gr:Ty:=.row bX
abbrev ew:Ty:=.pair .i (.pair .i bX)
abbrev gW:Ty:=.row ew
abbrev s5:Ty:=.pair EA (.pair (.pair .i (.pair .i (.pair .i .bool))) (.pair .i (.pair gr (.pair gW gr))))
abbrev iH:Ty:=.int .u8
abbrev gb:Ty:=.row iH
abbrev xO:Ty:=.pair .i (.pair gb .i)
abbrev As:Ty:=.pair .i (.pair .i (.pair .i (.pair .i (.pair .i (.pair .i (.pair .i (.pair .i .bool)))))))
abbrev xE:Ty:=.pair .i (.row xO)
abbrev Pt:Ty:=.pair .i (.pair .i (.pair .i (.pair bX (.row .i))))
abbrev CN:Ty:=.pair xE xN
abbrev sL:Nat×SK:=(8,.i)
abbrev xK:Nat×SK:=(7,.i)
abbrev BM:Nat×SK:=(1,.fix (.ptr bG 0))
abbrev Bp:Nat×SK:=(4,.i)
abbrev LS:Nat×SK:=(10,.i)
abbrev Uf:Nat×SK:=(9,.int .u64)
abbrev Rn:Nat×SK:=(2,.fix (.ptr bG 0))
abbrev Rh:Nat×SK:=(0,.fix (.sl 4294971408 0))
abbrev Rg:Nat×SK:=(2,.fix (.ptr fp 0))
abbrev SP:Nat×SK:=(0,.cont ew)
abbrev Qg:Nat×SK:=(0,.cont iH)
abbrev LI:Nat×SK:=(0,.cont bX)
abbrev K8:Nat×SK:=(8,.fix (.ptr nV 0))
abbrev L7:Nat×SK:=(4,.fix (.ptr fp 0))
abbrev LZ:Nat×SK:=(6,.fix (.ptr zS 0))
abbrev KA:Nat×SK:=(3,.fix (.ptr Ar 0))
abbrev QS:Nat×SK:=(1,.fix (.fn (.func 187) [(.ptr zS 0)] []))
abbrev Ve:Nat×SK:=(3,.fix (.ptr bG 0))
abbrev QL:Nat×SK:=(18,.cont xO)
abbrev Pr:Nat×SK:=(0,.fix (.ptr Ar 0))
abbrev S9:Nat×SK:=(8,.cont ew)
abbrev TQ:Nat×SK:=(1,.fix (.fn (.func 192) [] [(.ptr bG 0)]))
abbrev RJ:Nat×SK:=(1,.fix (.fn (.func 205) [] [(.ptr bG 0)]))
abbrev SN:Nat×SK:=(12,.cont As)
abbrev xJ:Nat×OS:=(bG,.box 3 [.i])
abbrev FW:Nat×OS:=(bG,.box 55 [.i,.i,.i,.i,.i,.i,.i,.i,.i,.i,.i,.bool,.i,.cont bX,.cont ew,.cont bX])
abbrev Me:Nat×OS:=(NE,.cg)
abbrev Kx:Nat×OS:=(4294971408,.row 184 bX 0)
abbrev PZ:Nat×OS:=(fp,.box 3 [.i])
abbrev P9:Nat×OS:=(bG,.gone)
abbrev Oa:Nat×OS:=(bG,.box 45 [.i,.cont xO])
abbrev TD:Nat×OS:=(4294991904,.box 84 [.i,.cont iH,.i])
abbrev Sf:Nat×OS:=(4294996080,.box 55 [.i,.i,.i,.i,.i,.i,.i,.i,.i,.i,.i,.bool,.i,.cont bX,.cont ew,.cont bX])
abbrev Rp:Nat×OS:=(bG,.box 252 [.i,.i])
abbrev Ff:Nat×OS:=(bG,.box 285 [.i,.i,.i,.i,.i,.i,.cont .i])
abbrev EG:Nat×OS:=(fp,.box 51 [.cont bX])
abbrev Lo:Nat×OS:=(Ar,.box 99 [.fix (.sl NX 0),.fix (.mp NE)])
abbrev G8:Nat×OS:=(bG,.box 184 [.i,.i,.i])
abbrev OY:Nat×OS:=(NX,.row 27 ew 0)
abbrev Ow:Nat×OS:=(n15,.box 55 [.i,.i,.i,.i,.i,.i,.i,.i,.i,.i,.i,.bool,.i,.cont bX,.cont ew,.cont bX])
abbrev LM:Nat×OS:=(zS,.box 256 [.int .u32])
abbrev Po:Nat×OS:=(bG,.box 34 [.i,.i,.i,.i,.i,.i,.i,.i])
abbrev QY:Nat×OS:=(4294967328,.box 3 [.i])
abbrev Pv:Nat×OS:=(4294967344,.box 3 [.i])
abbrev Ql:Nat×OS:=(4294983744,.box 3 [.i])
abbrev N2:Nat×OS:=(n1,.box 22 [.cont ew])
abbrev Q5:Nat×OS:=(4294987824,.box 180 [.i,.i,.i])
abbrev Um:Nat×OS:=(n3,.box 253 [.fix (.fn (.func 179) [] [])])
abbrev Oi:Nat×OS:=(4294975488,.box 4 [.bool])
abbrev QT:Nat×OS:=(n5,.box 82 [.cont iH])
abbrev OD:Nat×OS:=(fp,.box 253 [.fix (.fn (.func 179) [] [])])
abbrev PG:Nat×OS:=(fp,.box 279 [.fix (.fn (.func 206) [] [])])
abbrev O0:Nat×OS:=(4295020624,.box 180 [.i,.i,.i])
abbrev Qu:Nat×OS:=(Wl,.box 180 [.i,.i,.i])
abbrev PL:Nat×OS:=(Wb,.box 180 [.i,.i,.i])
abbrev Qr:Nat×OS:=(fp,.box 34 [.i,.i,.i,.i,.i,.i,.i,.i])
abbrev PF:Nat×OS:=(4294967328,.box 4 [.bool])
abbrev Od:Nat×OS:=(Wh,.box 43 [.cont xO])
abbrev Vu:Nat×OS:=(n16,.box 27 [.i,.i,.i,.i,.i])
abbrev Ta:Nat×OS:=(4295004160,.loop 14 9 .ready [.fix .ak,.fix .ak,.fix .ak,.fix .ak,.fix .ak,.fix .ak,.fix .ak,.fix (.ptr fp 0),.fix .ak,.fix (.ptr 4294967328 0),.fix (.ptr 4294967344 0),.fix .ak,.fix (.ptr 4294983744 0),.fix .ak,.fix (.lit (.tuple #[])),.fix .ak,.fix .ak,.fix .ak,.fix .ak,.fix .ak,.fix .ak,.fix .ak,.fix .ak,.fix .ak,.fix .ak,.fix .ak,.fix .ak,.fix .ak,.fix .ak,.fix .ak,.fix .ak,.fix (.lit (.tuple #[])),.fix (.lit (.tuple #[])),.fix (.lit (.tuple #[])),.fix (.lit (.tuple #[])),.fix (.lit (.tuple #[])),.fix (.lit (.tuple #[])),.fix (.lit (.tuple #[])),.fix (.lit (.tuple #[])),.fix (.lit (.tuple #[])),.fix (.lit (.tuple #[])),.fix (.lit (.tuple #[])),.fix (.lit (.tuple #[])),.fix (.lit (.tuple #[])),.fix (.lit (.tuple #[])),.fix (.lit (.tuple #[])),.fix (.lit (.tuple #[])),.fix (.lit (.tuple #[])),.fix (.lit (.tuple #[])),.fix (.lit (.tuple #[])),.fix (.lit (.tuple #[])),.fix (.lit (.tuple #[])),.fix (.lit (.tuple #[])),.fix (.lit (.tuple #[])),.fix (.lit (.tuple #[])),.fix (.lit (.tuple #[])),.fix (.lit (.tuple #[])),.fix (.lit (.tuple #[])),.fix (.lit (.tuple #[])),.fix (.lit (.tuple #[])),.fix (.lit (.tuple #[]))])
abbrev T3:Nat×OS:=(4294991872,.loop 101 6 .ready [.fix .ak,.fix .ak,.fix .ak,.fix .ak,.fix (.ptr FU 0),.fix (.ptr 4294975488 0),.fix (.lit (.tuple #[])),.fix (.lit (.tuple #[])),.fix .ak,.fix .ak,.fix (.lit (.tuple #[])),.fix (.lit (.tuple #[])),.fix (.lit (.tuple #[])),.fix (.lit (.tuple #[])),.fix (.lit (.tuple #[])),.fix (.lit (.tuple #[])),.fix (.lit (.tuple #[])),.fix (.lit (.tuple #[])),.fix (.lit (.tuple #[])),.fix (.lit (.tuple #[])),.fix (.lit (.tuple #[])),.fix (.lit (.tuple #[])),.fix (.lit (.tuple #[])),.fix .ak,.fix .ak,.fix .ak])
abbrev RL:Nat×OS:=(4294971472,.box 171 [.cont iH,.cont iH,.cont iH,.cont iH,.cont iH])
abbrev Rq:Nat×OS:=(4295000064,.loop 71 8 .ready [.fix .ak,.fix .ak,.fix .ak,.fix .ak,.fix .ak,.fix .ak,.fix .ak,.fix .ak,.fix (.ptr nV 0),.fix (.lit (.tuple #[])),.fix .ak,.fix .ak,.fix .ak,.fix .ak,.fix .ak,.fix .ak,.fix .ak,.fix .ak,.fix .ak,.fix .ak,.fix .ak,.fix .ak,.fix .ak,.fix .ak,.fix .ak,.fix .ak,.fix .ak,.fix .ak,.fix .ak,.fix .ak,.fix .ak,.fix .ak,.fix .ak,.fix .ak,.fix .ak,.fix .ak,.fix .ak,.fix .ak,.fix .ak,.fix .ak,.fix .ak,.fix .ak,.fix .ak,.fix .ak,.fix .ak,.fix .ak,.fix .ak,.fix .ak,.fix .ak,.fix .ak,.fix .ak,.fix .ak,.fix .ak,.fix .ak,.fix .ak,.fix .ak,.fix .ak,.fix .ak,.fix .ak,.fix .ak,.fix .ak,.fix .ak,.fix .ak,.fix .ak,.fix .ak,.fix .ak,.fix .ak,.fix .ak,.fix .ak,.fix .ak,.fix .ak,.fix .ak,.fix .ak,.fix .ak,.fix .ak,.fix .ak,.fix .ak,.fix .ak,.fix .ak,.fix .ak,.fix .ak,.fix .ak,.fix .ak,.fix .ak,.fix .ak,.fix .ak,.fix .ak,.fix .ak,.fix .ak,.fix .ak,.fix .ak,.fix .ak,.fix .ak,.fix .ak,.fix .ak,.fix .ak,.fix .ak,.fix .ak,.fix .ak,.fix .ak,.fix .ak,.fix .ak,.fix .ak,.fix .ak,.fix .ak,.fix .ak,.fix .ak,.fix (.lit (.tuple #[])),.fix (.lit (.tuple #[])),.fix (.lit (.tuple #[])),.fix (.lit (.tuple #[])),.fix (.lit (.tuple #[])),.fix (.lit (.tuple #[])),.fix (.lit (.tuple #[])),.fix (.lit (.tuple #[])),.fix (.lit (.tuple #[])),.fix (.lit (.tuple #[])),.fix (.lit (.tuple #[])),.fix (.lit (.tuple #[])),.fix (.lit (.tuple #[])),.fix (.lit (.tuple #[])),.fix (.lit (.tuple #[])),.fix (.lit (.tuple #[])),.fix .ak,.fix .ak,.fix .ak,.fix .ak,.fix .ak,.fix .ak,.fix .ak,.fix .ak,.fix .ak,.fix .ak,.fix .ak,.fix .ak,.fix .ak,.fix .ak,.fix .ak,.fix .ak,.fix .ak,.fix .ak,.fix .ak,.fix .ak,.fix .ak,.fix .ak,.fix .ak,.fix .ak,.fix .ak,.fix .ak,.fix .ak,.fix .ak,.fix .ak,.fix .ak,.fix .ak,.fix .ak,.fix .ak,.fix .ak,.fix .ak,.fix .ak,.fix .ak,.fix .ak,.fix .ak,.fix .ak,.fix .ak,.fix .ak,.fix .ak,.fix .ak,.fix .ak,.fix .ak,.fix .ak,.fix .ak,.fix .ak,.fix .ak,.fix .ak,.fix .ak,.fix .ak,.fix .ak,.fix .ak,.fix .ak,.fix .ak,.fix .ak,.fix .ak,.fix .ak,.fix .ak,.fix .ak,.fix .ak,.fix .ak,.fix .ak,.fix .ak,.fix .ak,.fix .ak,.fix .ak,.fix .ak,.fix .ak,.fix .ak,.fix .ak,.fix .ak,.fix .ak,.fix .ak,.fix .ak,.fix .ak,.fix .ak,.fix .ak,.fix .ak,.fix .ak,.fix .ak,.fix .ak,.fix .ak,.fix .ak,.fix .ak,.fix .ak,.fix .ak,.fix .ak,.fix .ak,.fix .ak,.fix .ak,.fix .ak,.fix .ak,.fix .ak,.fix .ak,.fix .ak,.fix .ak,.fix .ak,.fix .ak,.fix .ak,.fix .ak,.fix .ak,.fix .ak,.fix .ak,.fix .ak,.fix .ak,.fix .ak,.fix .ak,.fix .ak,.fix .ak,.fix .ak,.fix .ak])
abbrev Td:Nat×OS:=(zS,.box 55 [.i,.i,.i,.i,.i,.i,.i,.i,.i,.i,.i,.bool,.i,.cont bX,.cont ew,.cont bX])
abbrev SV:Nat×OS:=(4294971488,.box 55 [.i,.i,.i,.i,.i,.i,.i,.i,.i,.i,.i,.bool,.i,.cont bX,.cont ew,.cont bX])
abbrev Uc:Nat×OS:=(4294983760,.box 86 [.i,.i,.i,.i,.i,.i,.i,.i,.i,.i,.i,.bool,.i,.cont bX,.cont ew,.cont bX,.i,.i])
abbrev Tf:Nat×OS:=(n7,.box 86 [.i,.i,.i,.i,.i,.i,.i,.i,.i,.i,.i,.bool,.i,.cont bX,.cont ew,.cont bX,.i,.i])
abbrev SF:Nat×OS:=(4295004160,.loop 36 9 .ready [.fix .ak,.fix .ak,.fix .ak,.fix .ak,.fix .ak,.fix .ak,.fix .ak,.fix .ak,.fix (.ptr 4294983760 0),.fix (.ptr Mo 0),.fix (.lit (.tuple #[])),.fix (.lit (.tuple #[])),.fix .ak,.fix .ak,.fix .ak,.fix .ak,.fix .ak,.fix .ak,.fix .ak,.fix .ak,.fix .ak,.fix .ak,.fix .ak,.fix .ak,.fix .ak,.fix .ak,.fix .ak,.fix .ak,.fix .ak,.fix (.lit (.tuple #[])),.fix (.lit (.tuple #[])),.fix (.lit (.tuple #[])),.fix (.lit (.tuple #[])),.fix (.lit (.tuple #[])),.fix (.lit (.tuple #[])),.fix .ak,.fix .ak])
abbrev Tk:Nat×OS:=(bG,.box 45 [.i,.fix (.uz zS)])
abbrev SY:Nat×OS:=(bG,.box 48 [.i,.cont xO,.i,.i])
abbrev Sn:Nat×OS:=(Mo,.loop 23 5 .ready [.fix .ak,.fix .ak,.fix (.ptr fp 0),.fix (.ptr 4294967328 0),.fix .ak,.fix (.lit (.tuple #[])),.fix (.lit (.tuple #[])),.fix .ak,.fix (.lit (.tuple #[])),.fix .ak,.fix .ak,.fix .ak,.fix .ak,.fix .ak,.fix .ak,.fix .ak,.fix .ak,.fix (.lit (.tuple #[])),.fix (.lit (.tuple #[])),.fix (.lit (.tuple #[])),.fix (.lit (.tuple #[])),.fix (.lit (.tuple #[])),.fix (.lit (.tuple #[])),.fix (.lit (.tuple #[])),.fix (.lit (.tuple #[])),.fix (.lit (.tuple #[])),.fix (.lit (.tuple #[])),.fix (.lit (.tuple #[])),.fix .ak])
abbrev Sr:Nat×OS:=(NX,.row 27 ew 1)
abbrev VQ:fB:=⟨.t 5,18446761811629516992,27,ew⟩
abbrev V4:fB:=⟨.t 5,18446761811629517024,27,ew⟩
abbrev VO:fB:=⟨.c fp 1,8294967488,84,xO⟩
abbrev VP:fB:=⟨.c fp 1,8294967520,84,xO⟩
abbrev Vx:List (Nat×OS):=[(n4,.box 252 [.i,.i]),Um]
abbrev Vy:List (Nat×SK):=[Qg,(2,.i),Uf,LS,(17,.i),(18,.i)]
abbrev UK:List (Nat×SK):=[Ve,Uf,LS,(27,.cont .i),(28,.i),(29,.i)]
abbrev Uw:List (Nat×OS):=[Lo,Me,OY,TD,Sf,Ow,Vu]
abbrev VM:List (Nat×OS):=[(Ar,.gone),(NE,.gone),(NX,.gone),(4294991904,.gone),(4294996080,.gone)]
abbrev BD:ai:=⟨23,[(1,.fix (.fn (.func 25) [] [(.ptr fp 0),(.ptr bG 0)])),S9,(9,.i),LS],[xJ,PZ],[],[VQ]⟩
abbrev Bx:ai:=⟨23,[],[xJ,PZ],[],[V4]⟩
abbrev Bv:ai:=⟨23,[],[P9,(fp,.gone)],[],[]⟩
noncomputable def CX:aG:=⟨8,24,BD,0,Bx,Bv,dK,false,none,none,[]⟩
noncomputable def HO:aT:=⟨[gW,.i,.i],[.val gW],fun x=>f10 x.1 x.2.1 x.2.2.1⟩
theorem Wk:HO.OK Tryz.prog 10:=aa (n:=10) (lf:=aI) (an (l:=[]) (u:=[]) (z:=[]) trivial trivial) (aj (l:=[(n0,3,CX)]) ⟨⟨by kernel_rfl,fun z=>by kernel_rfl⟩,trivial⟩) fun x=>by kernel_rfl
abbrev Bl:ai:=⟨23,[(1,.fix (.fn (.func 26) [] [(.ptr bG 0)])),S9,(9,.i),LS],[xJ],[],[VQ]⟩
abbrev AY:ai:=⟨23,[],[xJ],[],[V4]⟩
abbrev Bq:ai:=⟨23,[],[P9],[],[]⟩
noncomputable def CL:aG:=⟨8,24,Bl,0,AY,Bq,dI,false,none,none,[]⟩
noncomputable def D5:aT:=⟨[gW,.i],[.val gW],fun x=>f11 x.1 x.2.1⟩
theorem Up:D5.OK Tryz.prog 11:=aa (n:=10) (lf:=aI) (an (l:=[]) (u:=[]) (z:=[]) trivial trivial) (aj (l:=[(n0,3,CL)]) ⟨⟨by kernel_rfl,fun z=>by kernel_rfl⟩,trivial⟩) fun x=>by kernel_rfl
abbrev RC:ai:=⟨26,[SP,(1,.cont ew),(12,.i),(13,.i)],[],[],[]⟩
abbrev TS:ai:=⟨26,[],[],[],[]⟩
abbrev Si:ai:=⟨26,[(4,.bool)],[],[],[]⟩
noncomputable def Tj:aG:=⟨9,27,RC,0,TS,Si,um,false,none,none,[]⟩
noncomputable def NV:aT:=⟨[gW,gW],[.val .bool],fun x=>f27 x.1 x.2.1⟩
theorem Wy:NV.OK Tryz.prog 27:=aa (n:=10) (lf:=aI) (an (l:=[]) (u:=[]) (z:=[]) trivial trivial) (aj (l:=[(bG,4,Tj)]) ⟨⟨by kernel_rfl,fun z=>by kernel_rfl⟩,trivial⟩) fun x=>by kernel_rfl
noncomputable def HG:aT:=⟨[gW,gW],[.val .bool],fun x=>f12 x.1 x.2.1⟩
theorem V6:HG.OK Tryz.prog 12:=aa (n:=10) (lf:=aI) (an (l:=[(27,NV)]) (u:=[]) (z:=[]) ⟨Wy,trivial⟩ trivial) (aj (l:=[]) trivial) fun x=>by kernel_rfl
noncomputable def NP:aT:=⟨[.i,.i,.i],[.val .bool],fun x=>f51 x.1 x.2.1 x.2.2.1⟩
theorem WH:NP.OK Tryz.prog 51:=aa (n:=10) (lf:=aI) (an (l:=[]) (u:=[]) (z:=[]) trivial trivial) (aj (l:=[]) trivial) fun x=>by kernel_rfl
noncomputable def El:aT:=⟨[xN],[.val .bool],fun x=>f61 x.1.1 x.1.2⟩
theorem UR:El.OK Tryz.prog 61:=aa (n:=10) (lf:=aI) (an (l:=[]) (u:=[]) (z:=[]) trivial trivial) (aj (l:=[]) trivial) fun x=>by kernel_rfl
noncomputable def lF:aT:=⟨[xN],[.val .i],fun x=>f29 x.1.1 x.1.2⟩
theorem Nu:lF.OK Tryz.prog 29:=aa (n:=10) (lf:=aI) (an (l:=[(61,El)]) (u:=[]) (z:=[]) ⟨UR,trivial⟩ trivial) (aj (l:=[]) trivial) fun x=>by kernel_rfl
noncomputable def MJ:aT:=⟨[xN,.i],[.val .i],fun x=>f90 x.1.1 x.1.2 x.2.1⟩
theorem Wt:MJ.OK Tryz.prog 90:=aa (n:=10) (lf:=aI) (an (l:=[(61,El)]) (u:=[]) (z:=[]) ⟨UR,trivial⟩ trivial) (aj (l:=[]) trivial) fun x=>by kernel_rfl
noncomputable def MK:aT:=⟨[xN,xN],[.val .bool],fun x=>f54 x.1.1 x.1.2 x.2.1.1 x.2.1.2⟩
theorem Wp:MK.OK Tryz.prog 54:=aa (n:=10) (lf:=aI) (an (l:=[(61,El),(90,MJ)]) (u:=[]) (z:=[]) ⟨UR,Wt,trivial⟩ trivial) (aj (l:=[]) trivial) fun x=>by kernel_rfl
noncomputable def yH:aT:=⟨[EA],[.val .i],fun x=>f30 x.1.1.1 x.1.1.2 x.1.2.1.1 x.1.2.1.2 x.1.2.2.1 x.1.2.2.2.1 x.1.2.2.2.2.1 x.1.2.2.2.2.2⟩
theorem Uk:yH.OK Tryz.prog 30:=aa (n:=10) (lf:=aI) (an (l:=[(29,lF)]) (u:=[]) (z:=[]) ⟨Nu,trivial⟩ trivial) (aj (l:=[]) trivial) fun x=>by kernel_rfl
noncomputable def Hz:aT:=⟨[EA],[.val .i],fun x=>f58 x.1.1.1 x.1.1.2 x.1.2.1.1 x.1.2.1.2 x.1.2.2.1 x.1.2.2.2.1 x.1.2.2.2.2.1 x.1.2.2.2.2.2⟩
theorem Wg:Hz.OK Tryz.prog 58:=aa (n:=10) (lf:=aI) (an (l:=[]) (u:=[]) (z:=[]) trivial trivial) (aj (l:=[]) trivial) fun x=>by kernel_rfl
noncomputable def sg:aT:=⟨[EA],[.val .bool],fun x=>f28 x.1.1.1 x.1.1.2 x.1.2.1.1 x.1.2.1.2 x.1.2.2.1 x.1.2.2.2.1 x.1.2.2.2.2.1 x.1.2.2.2.2.2⟩
theorem Rl:sg.OK Tryz.prog 28:=aa (n:=10) (lf:=aI) (an (l:=[(29,lF),(30,yH),(51,NP),(54,MK),(58,Hz)]) (u:=[]) (z:=[]) ⟨Nu,Uk,WH,Wp,Wg,trivial⟩ trivial) (aj (l:=[]) trivial) fun x=>by kernel_rfl
noncomputable def I2:aT:=⟨[EA],[.val .i],fun x=>f31 x.1.1.1 x.1.1.2 x.1.2.1.1 x.1.2.1.2 x.1.2.2.1 x.1.2.2.2.1 x.1.2.2.2.2.1 x.1.2.2.2.2.2⟩
theorem VV:I2.OK Tryz.prog 31:=aa (n:=10) (lf:=aI) (an (l:=[(28,sg),(30,yH),(58,Hz)]) (u:=[]) (z:=[]) ⟨Rl,Uk,Wg,trivial⟩ trivial) (aj (l:=[]) trivial) fun x=>by kernel_rfl
noncomputable def Dq:aT:=⟨[EA,.i],[.val bX,.val .bool],fun x=>f13 x.1.1.1 x.1.1.2 x.1.2.1.1 x.1.2.1.2 x.1.2.2.1 x.1.2.2.2.1 x.1.2.2.2.2.1 x.1.2.2.2.2.2 x.2.1⟩
theorem Vw:Dq.OK Tryz.prog 13:=aa (n:=10) (lf:=aI) (an (l:=[(28,sg),(29,lF),(30,yH),(31,I2)]) (u:=[]) (z:=[]) ⟨Rl,Nu,Uk,VV,trivial⟩ trivial) (aj (l:=[]) trivial) fun x=>by kernel_rfl
noncomputable def Dz:aT:=⟨[EA,.i,.i],[.val .i],fun x=>f15 x.1.1.1 x.1.1.2 x.1.2.1.1 x.1.2.1.2 x.1.2.2.1 x.1.2.2.2.1 x.1.2.2.2.2.1 x.1.2.2.2.2.2 x.2.1 x.2.2.1⟩
theorem VI:Dz.OK Tryz.prog 15:=aa (n:=10) (lf:=aI) (an (l:=[(13,Dq),(28,sg),(29,lF),(30,yH),(31,I2)]) (u:=[]) (z:=[]) ⟨Vw,Rl,Nu,Uk,VV,trivial⟩ trivial) (aj (l:=[]) trivial) fun x=>by kernel_rfl
noncomputable def Jw:aT:=⟨[EA],[.val .i],fun x=>f33 x.1.1.1 x.1.1.2 x.1.2.1.1 x.1.2.1.2 x.1.2.2.1 x.1.2.2.2.1 x.1.2.2.2.2.1 x.1.2.2.2.2.2⟩
theorem V3:Jw.OK Tryz.prog 33:=aa (n:=10) (lf:=aI) (an (l:=[(28,sg)]) (u:=[]) (z:=[]) ⟨Rl,trivial⟩ trivial) (aj (l:=[]) trivial) fun x=>by kernel_rfl
noncomputable def Ej:aT:=⟨[EA,.i,.i],[.val .i],fun x=>f16 x.1.1.1 x.1.1.2 x.1.2.1.1 x.1.2.1.2 x.1.2.2.1 x.1.2.2.2.1 x.1.2.2.2.2.1 x.1.2.2.2.2.2 x.2.1 x.2.2.1⟩
theorem Vd:Ej.OK Tryz.prog 16:=aa (n:=10) (lf:=aI) (an (l:=[(28,sg),(29,lF),(33,Jw)]) (u:=[]) (z:=[]) ⟨Rl,Nu,V3,trivial⟩ trivial) (aj (l:=[]) trivial) fun x=>by kernel_rfl
abbrev Ct:ai:=⟨19,[(0,.fix (.fG 4295004160)),(1,.fix (.ptr n1 0)),(3,.i)],[Po,PZ,QY,Pv,Ql,N2,Ta],[],[]⟩
abbrev AU:ai:=⟨19,[],[Po,PZ,QY,Pv,Ql,N2,Ta],[],[]⟩
abbrev Cz:ai:=⟨19,[],[Po,PZ,QY,Pv,Ql,N2,(4295004160,.loop 14 9 (.done .ret) [.fix .ak,.fix .ak,.fix .ak,.fix .ak,.fix .ak,.fix .ak,.fix .ak,.fix (.ptr fp 0),.fix .ak,.fix (.ptr 4294967328 0),.fix (.ptr 4294967344 0),.fix .ak,.fix (.ptr 4294983744 0),.fix .ak,.fix (.lit (.tuple #[])),.fix .ak,.fix .ak,.fix .ak,.fix .ak,.fix .ak,.fix .ak,.fix .ak,.fix .ak,.fix .ak,.fix .ak,.fix .ak,.fix .ak,.fix .ak,.fix .ak,.fix .ak,.fix .ak,.fix (.lit (.tuple #[])),.fix (.lit (.tuple #[])),.fix (.lit (.tuple #[])),.fix (.lit (.tuple #[])),.fix (.lit (.tuple #[])),.fix (.lit (.tuple #[])),.fix (.lit (.tuple #[])),.fix (.lit (.tuple #[])),.fix (.lit (.tuple #[])),.fix (.lit (.tuple #[])),.fix (.lit (.tuple #[])),.fix (.lit (.tuple #[])),.fix (.lit (.tuple #[])),.fix (.lit (.tuple #[])),.fix (.lit (.tuple #[])),.fix (.lit (.tuple #[])),.fix (.lit (.tuple #[])),.fix (.lit (.tuple #[])),.fix (.lit (.tuple #[])),.fix (.lit (.tuple #[])),.fix (.lit (.tuple #[])),.fix (.lit (.tuple #[])),.fix (.lit (.tuple #[])),.fix (.lit (.tuple #[])),.fix (.lit (.tuple #[])),.fix (.lit (.tuple #[])),.fix (.lit (.tuple #[])),.fix (.lit (.tuple #[])),.fix (.lit (.tuple #[])),.fix (.lit (.tuple #[]))])],[],[]⟩
noncomputable def Dd:aG:=⟨8,62,Ct,0,AU,Cz,b9,false,none,none,[]⟩
noncomputable def Dw:aT:=⟨[EA,gW,.i,.i,.i],[.val .i],fun x=>f14 x.1.1.1 x.1.1.2 x.1.2.1.1 x.1.2.1.2 x.1.2.2.1 x.1.2.2.2.1 x.1.2.2.2.2.1 x.1.2.2.2.2.2 x.2.1 x.2.2.1 x.2.2.2.1 x.2.2.2.2.1⟩
theorem VE:Dw.OK Tryz.prog 14:=aa (n:=10) (lf:=aI) (an (l:=[(15,Dz),(16,Ej)]) (u:=[]) (z:=[]) ⟨VI,Vd,trivial⟩ trivial) (aj (l:=[(18446902411973885952,1,Dd)]) ⟨⟨by kernel_rfl,fun z=>by kernel_rfl⟩,trivial⟩) fun x=>by kernel_rfl
abbrev TR:ai:=⟨19,[(3,.i),(6,.cont xO),xK,sL],[],[],[]⟩
abbrev S7:ai:=⟨19,[(3,.i)],[],[],[]⟩
abbrev RA:ai:=⟨19,[],[],[],[]⟩
noncomputable def SS:aG:=⟨9,63,TR,0,S7,RA,Ny,false,none,none,[]⟩
noncomputable def J7:aT:=⟨[(.row xO)],[.val .i],fun x=>f63 x.1⟩
theorem VW:J7.OK Tryz.prog 63:=aa (n:=10) (lf:=aI) (an (l:=[]) (u:=[]) (z:=[]) trivial trivial) (aj (l:=[(bG,3,SS)]) ⟨⟨by kernel_rfl,fun z=>by kernel_rfl⟩,trivial⟩) fun x=>by kernel_rfl
abbrev Ua:ai:=⟨60,[BM,(3,.i),(7,.cont xO),sL,(9,.i)],[],[Oa],[]⟩
abbrev Sv:ai:=⟨60,[BM],[],[Oa],[]⟩
abbrev Tb:ai:=⟨60,[(2,.bool)],[],[],[]⟩
noncomputable def Sc:aG:=⟨9,34,Ua,0,Sv,Tb,Nt,false,none,none,[]⟩
noncomputable def jU:aT:=⟨[xE],[.val .bool],fun x=>f34 x.1.1 x.1.2⟩
theorem KF:jU.OK Tryz.prog 34:=aa (n:=10) (lf:=aI) (an (l:=[(63,J7)]) (u:=[]) (z:=[]) ⟨VW,trivial⟩ trivial) (aj (l:=[(bG,3,Sc)]) ⟨⟨by kernel_rfl,fun z=>by kernel_rfl⟩,trivial⟩) fun x=>by kernel_rfl
noncomputable def GH:aT:=⟨[iH],[.val .bool],fun x=>f133 x.1⟩
theorem UH:GH.OK Tryz.prog 133:=aa (n:=10) (lf:=aI) (an (l:=[]) (u:=[]) (z:=[]) trivial trivial) (aj (l:=[]) trivial) fun x=>by kernel_rfl
abbrev zB:ai:=⟨19,[Qg,(1,.fix (.fn (.func 133) [] [])),xK,sL],[],[],[]⟩
abbrev Ah:ai:=⟨19,[],[],[],[]⟩
abbrev zl:ai:=⟨19,[Bp],[],[],[]⟩
noncomputable def zH:aG:=⟨7,171,zB,0,Ah,zl,o6,false,none,none,[]⟩
noncomputable def MA:aT:=⟨[gb],[.val .bool],fun x=>f97 x.1⟩
theorem W5:MA.OK Tryz.prog 97:=aa (n:=10) (lf:=aI) (an (l:=[(133,GH)]) (u:=[]) (z:=[]) ⟨UH,trivial⟩ trivial) (aj (l:=[(79228239566314351212261015552,2,zH)]) ⟨⟨by kernel_rfl,fun z=>by kernel_rfl⟩,trivial⟩) fun x=>by kernel_rfl
noncomputable def wK:aT:=⟨[.i],[.val .bool],fun x=>f120 x.1⟩
theorem Q2:wK.OK Tryz.prog 120:=aa (n:=10) (lf:=aI) (an (l:=[]) (u:=[]) (z:=[]) trivial trivial) (aj (l:=[]) trivial) fun x=>by kernel_rfl
abbrev RV:ai:=⟨63,[(1,.i),(6,.i),(29,.cont iH),(30,.i),(31,.i)],[],[],[]⟩
abbrev TK:ai:=⟨63,[],[],[],[]⟩
abbrev SB:ai:=⟨63,[Bp,(5,.i)],[],[],[]⟩
noncomputable def Ru:aG:=⟨9,98,RV,0,TK,SB,NT,false,none,none,[]⟩
noncomputable def DN:aT:=⟨[gb,.i],[.val .i,.val .i],fun x=>f98 x.1 x.2.1⟩
theorem Vo:DN.OK Tryz.prog 98:=aa (n:=10) (lf:=aI) (an (l:=[(120,wK)]) (u:=[]) (z:=[]) ⟨Q2,trivial⟩ trivial) (aj (l:=[(bG,5,Ru)]) ⟨⟨by kernel_rfl,fun z=>by kernel_rfl⟩,trivial⟩) fun x=>by kernel_rfl
abbrev Q4:ai:=⟨26,[Qg,(1,.cont iH),(12,.i),(13,.i)],[],[],[]⟩
abbrev OR:ai:=⟨26,[],[],[],[]⟩
abbrev PR:ai:=⟨26,[(4,.bool)],[],[],[]⟩
noncomputable def Pf:aG:=⟨9,134,Q4,0,OR,PR,Ij,false,none,none,[]⟩
noncomputable def Gs:aT:=⟨[gb,gb],[.val .bool],fun x=>f134 x.1 x.2.1⟩
theorem UQ:Gs.OK Tryz.prog 134:=aa (n:=10) (lf:=aI) (an (l:=[]) (u:=[]) (z:=[]) trivial trivial) (aj (l:=[(bG,4,Pf)]) ⟨⟨by kernel_rfl,fun z=>by kernel_rfl⟩,trivial⟩) fun x=>by kernel_rfl
noncomputable def A6:aT:=⟨[(.int .u32)],[.val gb],fun x=>f135 x.1⟩
theorem Ry:A6.OK Tryz.prog 135:=aa (n:=10) (lf:=aI) (an (l:=[]) (u:=[]) (z:=[]) trivial trivial) (aj (l:=[]) trivial) fun x=>by kernel_rfl
abbrev vG:ai:=⟨26,[QS,(7,.cont iH),sL,(9,.i)],[LM],[],[]⟩
abbrev wW:ai:=⟨26,[QS,(5,.int .u8),(7,.cont iH),sL,(9,.i),(13,.i)],[LM],[],[]⟩
abbrev wj:ai:=⟨26,[QS,(7,.cont iH),sL,(9,.i)],[LM],[],[]⟩
abbrev wB:ai:=⟨26,[],[(zS,.gone)],[],[]⟩
noncomputable def xh:aG:=⟨8,186,wW,2,wj,wB,lg,false,none,none,[]⟩
abbrev uq:ai:=⟨26,[],[LM],[],[]⟩
abbrev vQ:ai:=⟨26,[],[(zS,.gone)],[],[]⟩
noncomputable def xf:aG:=⟨8,186,vG,0,uq,vQ,mB,false,none,none,[]⟩
noncomputable def HV:aT:=⟨[(.int .u32),gb],[.val (.int .u32)],fun x=>f172 x.1 x.2.1⟩
theorem UT:HV.OK Tryz.prog 172:=aa (n:=10) (lf:=aI) (an (l:=[]) (u:=[]) (z:=[]) trivial trivial) (aj (l:=[(n2,4,xh),(n2,1,xf)]) ⟨⟨by kernel_rfl,fun z=>by kernel_rfl⟩,⟨by kernel_rfl,fun z=>by kernel_rfl⟩,trivial⟩) fun x=>by kernel_rfl
noncomputable def CO:aT:=⟨[gb],[.val (.int .u32)],fun x=>f136 x.1⟩
theorem RW:CO.OK Tryz.prog 136:=aa (n:=10) (lf:=aI) (an (l:=[(172,HV)]) (u:=[]) (z:=[]) ⟨UT,trivial⟩ trivial) (aj (l:=[]) trivial) fun x=>by kernel_rfl
noncomputable def MG:aT:=⟨[gb],[.val gb,.val .bool],fun x=>f99 x.1⟩
theorem Wr:MG.OK Tryz.prog 99:=aa (n:=10) (lf:=aI) (an (l:=[(131,qB),(134,Gs),(135,A6),(136,CO)]) (u:=[]) (z:=[]) ⟨D8,UQ,Ry,RW,trivial⟩ trivial) (aj (l:=[]) trivial) fun x=>by kernel_rfl
noncomputable def Gw:aT:=⟨[gb,.i],[.val (.pair .i gb),.val .i,.val .i],fun x=>f70 x.1 x.2.1⟩
theorem V5:Gw.OK Tryz.prog 70:=aa (n:=10) (lf:=aI) (an (l:=[(97,MA),(98,DN),(99,MG)]) (u:=[]) (z:=[]) ⟨W5,Vo,Wr,trivial⟩ trivial) (aj (l:=[]) trivial) fun x=>by kernel_rfl
noncomputable def vL:aT:=⟨[.i,.i,.i],[.val .bool],fun x=>f107 x.1 x.2.1 x.2.2.1⟩
theorem Ov:vL.OK Tryz.prog 107:=aa (n:=10) (lf:=aI) (an (l:=[]) (u:=[]) (z:=[]) trivial trivial) (aj (l:=[]) trivial) fun x=>by kernel_rfl
noncomputable def AF:aT:=⟨[(.pair .i (.pair .i (.pair .i .bool)))],[.val .bool],fun x=>f106 x.1.1 x.1.2.1 x.1.2.2.1 x.1.2.2.2⟩
theorem SH:AF.OK Tryz.prog 106:=aa (n:=10) (lf:=aI) (an (l:=[(107,vL)]) (u:=[]) (z:=[]) ⟨Ov,trivial⟩ trivial) (aj (l:=[]) trivial) fun x=>by kernel_rfl
noncomputable def Cn:aT:=⟨[bX,bX],[.val .bool],fun x=>f145 x.1.1 x.1.2.1 x.1.2.2 x.2.1.1 x.2.1.2.1 x.2.1.2.2⟩
theorem TF:Cn.OK Tryz.prog 145:=aa (n:=10) (lf:=aI) (an (l:=[]) (u:=[]) (z:=[]) trivial trivial) (aj (l:=[]) trivial) fun x=>by kernel_rfl
noncomputable def Cg:aT:=⟨[bX,.i],[.val .bool],fun x=>f146 x.1.1 x.1.2.1 x.1.2.2 x.2.1⟩
theorem Sl:Cg.OK Tryz.prog 146:=aa (n:=10) (lf:=aI) (an (l:=[]) (u:=[]) (z:=[]) trivial trivial) (aj (l:=[]) trivial) fun x=>by kernel_rfl
abbrev P4:ai:=⟨39,[LI,(1,.i),(19,.cont bX),(20,.i),(21,.i)],[],[],[]⟩
abbrev uv:ai:=⟨19,[LI,(1,.fix (.fn (.func 144) [] [(.ptr 4294987824 0)])),xK,sL],[Q5],[],[]⟩
abbrev wh:ai:=⟨19,[],[Q5],[],[]⟩
abbrev wC:ai:=⟨19,[Bp],[Q5],[],[]⟩
noncomputable def uA:aG:=⟨7,175,uv,0,wh,wC,mX,false,none,none,[]⟩
abbrev Qv:ai:=⟨39,[],[],[],[]⟩
abbrev N9:ai:=⟨39,[(4,.bool)],[],[],[]⟩
noncomputable def PB:aG:=⟨9,108,P4,0,Qv,N9,Iv,false,none,none,[]⟩
noncomputable def CU:aT:=⟨[gr,.i],[.val .bool],fun x=>f108 x.1 x.2.1⟩
theorem RM:CU.OK Tryz.prog 108:=aa (n:=10) (lf:=aI) (an (l:=[(145,Cn),(146,Cg)]) (u:=[]) (z:=[]) ⟨TF,Sl,trivial⟩ trivial) (aj (l:=[(79228694094088327415612833792,2,uA),(bG,4,PB)]) ⟨⟨by kernel_rfl,fun z=>by kernel_rfl⟩,⟨by kernel_rfl,fun z=>by kernel_rfl⟩,trivial⟩) fun x=>by kernel_rfl
noncomputable def GI:aT:=⟨[s5],[.val .i],fun x=>f109 x.1.1.1.1 x.1.1.1.2 x.1.1.2.1.1 x.1.1.2.1.2 x.1.1.2.2.1 x.1.1.2.2.2.1 x.1.1.2.2.2.2.1 x.1.1.2.2.2.2.2 x.1.2.1.1 x.1.2.1.2.1 x.1.2.1.2.2.1 x.1.2.1.2.2.2 x.1.2.2.1 x.1.2.2.2.1 x.1.2.2.2.2.1 x.1.2.2.2.2.2⟩
theorem Vr:GI.OK Tryz.prog 109:=aa (n:=10) (lf:=aI) (an (l:=[(29,lF)]) (u:=[]) (z:=[]) ⟨Nu,trivial⟩ trivial) (aj (l:=[]) trivial) fun x=>by kernel_rfl
noncomputable def AW:aT:=⟨[EA,.i,.i],[.val bX,.val .bool],fun x=>f148 x.1.1.1 x.1.1.2 x.1.2.1.1 x.1.2.1.2 x.1.2.2.1 x.1.2.2.2.1 x.1.2.2.2.2.1 x.1.2.2.2.2.2 x.2.1 x.2.2.1⟩
theorem Ub:AW.OK Tryz.prog 148:=aa (n:=10) (lf:=aI) (an (l:=[(29,lF),(33,Jw)]) (u:=[]) (z:=[]) ⟨Nu,V3,trivial⟩ trivial) (aj (l:=[]) trivial) fun x=>by kernel_rfl
noncomputable def B0:aT:=⟨[bX,.i],[.val .bool],fun x=>f177 x.1.1 x.1.2.1 x.1.2.2 x.2.1⟩
theorem RI:B0.OK Tryz.prog 177:=aa (n:=10) (lf:=aI) (an (l:=[]) (u:=[]) (z:=[]) trivial trivial) (aj (l:=[]) trivial) fun x=>by kernel_rfl
abbrev vD:ai:=⟨19,[LI,(1,.fix (.fn (.func 176) [] [(.ptr bG 0)])),xK,sL],[xJ],[],[]⟩
abbrev wD:ai:=⟨19,[],[xJ],[],[]⟩
abbrev uV:ai:=⟨19,[Bp],[xJ],[],[]⟩
noncomputable def vZ:aG:=⟨8,175,vD,0,wD,uV,mC,false,none,none,[]⟩
noncomputable def JT:aT:=⟨[gr,.i],[.val .i],fun x=>f149 x.1 x.2.1⟩
theorem UP:JT.OK Tryz.prog 149:=aa (n:=10) (lf:=aI) (an (l:=[(177,B0)]) (u:=[]) (z:=[]) ⟨RI,trivial⟩ trivial) (aj (l:=[(n0,2,vZ)]) ⟨⟨by kernel_rfl,fun z=>by kernel_rfl⟩,trivial⟩) fun x=>by kernel_rfl
noncomputable def B7:aT:=⟨[.i,.i,.i,.i],[.val .bool],fun x=>f150 x.1 x.2.1 x.2.2.1 x.2.2.2.1⟩
theorem RU:B7.OK Tryz.prog 150:=aa (n:=10) (lf:=aI) (an (l:=[]) (u:=[]) (z:=[]) trivial trivial) (aj (l:=[]) trivial) fun x=>by kernel_rfl
abbrev P0:ai:=⟨124,[BM,(3,.fix (.mp FU)),(12,.cont ew),(13,.i),(14,.i)],[],[FW,(FU,.map)],[]⟩
abbrev Oe:ai:=⟨124,[BM],[],[FW],[]⟩
abbrev Qz:ai:=⟨124,[(2,.bool)],[],[],[]⟩
noncomputable def Qb:aG:=⟨9,110,P0,0,Oe,Qz,JF,false,none,none,[]⟩
noncomputable def GW:aT:=⟨[s5],[.val .bool],fun x=>f110 x.1.1.1.1 x.1.1.1.2 x.1.1.2.1.1 x.1.1.2.1.2 x.1.1.2.2.1 x.1.1.2.2.2.1 x.1.1.2.2.2.2.1 x.1.1.2.2.2.2.2 x.1.2.1.1 x.1.2.1.2.1 x.1.2.1.2.2.1 x.1.2.1.2.2.2 x.1.2.2.1 x.1.2.2.2.1 x.1.2.2.2.2.1 x.1.2.2.2.2.2⟩
theorem Vt:GW.OK Tryz.prog 110:=aa (n:=10) (lf:=aI) (an (l:=[(13,Dq),(148,AW),(149,JT),(150,B7)]) (u:=[]) (z:=[]) ⟨Vw,Ub,UP,RU,trivial⟩ trivial) (aj (l:=[(bG,3,Qb)]) ⟨⟨by kernel_rfl,fun z=>by kernel_rfl⟩,trivial⟩) fun x=>by kernel_rfl
noncomputable def Bi:aT:=⟨[ew],[.val (.pair xN ew)],fun x=>f189 x.1.1 x.1.2.1 x.1.2.2.1 x.1.2.2.2.1 x.1.2.2.2.2⟩
theorem TH:Bi.OK Tryz.prog 189:=aa (n:=10) (lf:=aI) (an (l:=[]) (u:=[]) (z:=[]) trivial trivial) (aj (l:=[]) trivial) fun x=>by kernel_rfl
noncomputable def vS:aT:=⟨[ew],[.val xN],fun x=>f179 x.1.1 x.1.2.1 x.1.2.2.1 x.1.2.2.2.1 x.1.2.2.2.2⟩
theorem N8:vS.OK Tryz.prog 179:=aa (n:=10) (lf:=aI) (an (l:=[(189,Bi)]) (u:=[]) (z:=[]) ⟨TH,trivial⟩ trivial) (aj (l:=[]) trivial) fun x=>by kernel_rfl
abbrev vt:ai:=⟨19,[SP,(1,.fix (.fn (.func 188) [] [(.ptr n3 0),(.ptr n4 0)])),xK,sL],Vx,[],[]⟩
abbrev vF:ai:=⟨19,[],Vx,[],[]⟩
abbrev wP:ai:=⟨19,[Bp],Vx,[],[]⟩
noncomputable def uu:aG:=⟨7,105,vt,0,vF,wP,nF,false,none,none,[]⟩
noncomputable def r7:aT:=⟨[gW,.i,.i],[.val .i],fun x=>f151 x.1 x.2.1 x.2.2.1⟩
theorem Mi:r7.OK Tryz.prog 151:=aa (n:=10) (lf:=aI) (an (l:=[(179,vS)]) (u:=[]) (z:=[]) ⟨N8,trivial⟩ trivial) (aj (l:=[(79228239271166446032908189696,2,uu)]) ⟨⟨by kernel_rfl,fun z=>by kernel_rfl⟩,trivial⟩) fun x=>by kernel_rfl
abbrev P5:ai:=⟨74,[BM,(8,.cont bX),(9,.i),LS],[],[FW],[]⟩
abbrev Qj:ai:=⟨74,[],[],[],[]⟩
abbrev Pk:ai:=⟨74,[(2,.bool)],[],[],[]⟩
noncomputable def PN:aG:=⟨9,111,P5,0,Qj,Pk,GG,false,none,none,[]⟩
noncomputable def Kf:aT:=⟨[s5],[.val .bool],fun x=>f111 x.1.1.1.1 x.1.1.1.2 x.1.1.2.1.1 x.1.1.2.1.2 x.1.1.2.2.1 x.1.1.2.2.2.1 x.1.1.2.2.2.2.1 x.1.1.2.2.2.2.2 x.1.2.1.1 x.1.2.1.2.1 x.1.2.1.2.2.1 x.1.2.1.2.2.2 x.1.2.2.1 x.1.2.2.2.1 x.1.2.2.2.2.1 x.1.2.2.2.2.2⟩
theorem Vk:Kf.OK Tryz.prog 111:=aa (n:=10) (lf:=aI) (an (l:=[(107,vL),(148,AW),(150,B7),(151,r7)]) (u:=[]) (z:=[]) ⟨Ov,Ub,RU,Mi,trivial⟩ trivial) (aj (l:=[(bG,2,PN)]) ⟨⟨by kernel_rfl,fun z=>by kernel_rfl⟩,trivial⟩) fun x=>by kernel_rfl
noncomputable def tv:aT:=⟨[s5],[.val .bool],fun x=>f78 x.1.1.1.1 x.1.1.1.2 x.1.1.2.1.1 x.1.1.2.1.2 x.1.1.2.2.1 x.1.1.2.2.2.1 x.1.1.2.2.2.2.1 x.1.1.2.2.2.2.2 x.1.2.1.1 x.1.2.1.2.1 x.1.2.1.2.2.1 x.1.2.1.2.2.2 x.1.2.2.1 x.1.2.2.2.1 x.1.2.2.2.2.1 x.1.2.2.2.2.2⟩
theorem RF:tv.OK Tryz.prog 78:=aa (n:=10) (lf:=aI) (an (l:=[(28,sg),(106,AF),(107,vL),(108,CU),(109,GI),(110,GW),(111,Kf)]) (u:=[]) (z:=[]) ⟨Rl,SH,Ov,RM,Vr,Vt,Vk,trivial⟩ trivial) (aj (l:=[]) trivial) fun x=>by kernel_rfl
noncomputable def IX:aT:=⟨[gb],[.val (.pair gb (.pair gb (.pair gb (.pair gb gb)))),.val .bool],fun x=>f100 x.1⟩
theorem Uq:IX.OK Tryz.prog 100:=aa (n:=10) (lf:=aI) (an (l:=[(98,DN)]) (u:=[]) (z:=[]) ⟨Vo,trivial⟩ trivial) (aj (l:=[]) trivial) fun x=>by kernel_rfl
abbrev u7:ai:=⟨26,[(0,.fix (.fG 4294991872)),(1,.fix (.ptr n5 0)),(3,.i)],[(FU,.box 87 [.fix (.sl 18446849639415752768 0)]),Oi,QT,T3],[],[⟨.c FU 0,18446849639415752768,3,.i⟩]⟩
abbrev vX:ai:=⟨26,[],[(FU,.box 87 [.fix (.sl 18446849639415752800 0)]),Oi,QT,T3],[],[⟨.c FU 0,18446849639415752800,3,.i⟩]⟩
abbrev wZ:ai:=⟨26,[],[(FU,.box 87 [.fix (.sl 18446849639415752816 0)]),Oi,QT,(4294991872,.loop 101 6 (.done (.exit 0)) [.fix .ak,.fix .ak,.fix .ak,.fix .ak,.fix (.ptr FU 0),.fix (.ptr 4294975488 0),.fix (.lit (.tuple #[])),.fix (.lit (.tuple #[])),.fix .ak,.fix .ak,.fix (.lit (.tuple #[])),.fix (.lit (.tuple #[])),.fix (.lit (.tuple #[])),.fix (.lit (.tuple #[])),.fix (.lit (.tuple #[])),.fix (.lit (.tuple #[])),.fix (.lit (.tuple #[])),.fix (.lit (.tuple #[])),.fix (.lit (.tuple #[])),.fix (.lit (.tuple #[])),.fix (.lit (.tuple #[])),.fix (.lit (.tuple #[])),.fix (.lit (.tuple #[])),.fix .ak,.fix .ak,.fix .ak])],[],[⟨.c FU 0,18446849639415752816,3,.i⟩]⟩
noncomputable def vU:aG:=⟨8,174,u7,0,vX,wZ,lV,false,none,none,[]⟩
noncomputable def uM:aT:=⟨[gb],[.val (.row .i),.val .bool],fun x=>f101 x.1⟩
theorem P8:uM.OK Tryz.prog 101:=aa (n:=10) (lf:=aI) (an (l:=[(98,DN)]) (u:=[]) (z:=[]) ⟨Vo,trivial⟩ trivial) (aj (l:=[(18446849635415752704,1,vU)]) ⟨⟨by kernel_rfl,fun z=>by kernel_rfl⟩,trivial⟩) fun x=>by kernel_rfl
noncomputable def AG:aT:=⟨[.i,.i],[.val .i],fun x=>f140 x.1 x.2.1⟩
theorem Tw:AG.OK Tryz.prog 140:=aa (n:=10) (lf:=aI) (an (l:=[]) (u:=[]) (z:=[]) trivial trivial) (aj (l:=[]) trivial) fun x=>by kernel_rfl
abbrev Ot:ai:=⟨54,Vy,[],[],[⟨.t 8,8294967744,3,.i⟩]⟩
abbrev N3:ai:=⟨54,Vy,[],[],[⟨.t 8,8294967808,3,.i⟩]⟩
abbrev OO:ai:=⟨54,Vy,[],[],[⟨.t 8,8294967840,3,.i⟩]⟩
abbrev P7:ai:=⟨54,[],[],[],[]⟩
noncomputable def OC:aG:=⟨9,103,N3,1000000007,OO,P7,HC,false,(some 0),none,[]⟩
abbrev QV:ai:=⟨54,[Uf],[],[],[⟨.t 8,8294967776,3,.i⟩]⟩
abbrev OQ:ai:=⟨54,[],[],[],[]⟩
noncomputable def O1:aG:=⟨9,103,Ot,0,QV,OQ,I5,false,none,none,[]⟩
noncomputable def HB:aT:=⟨[gb,.i,.i],[.val (.row .i),.val .bool],fun x=>f103 x.1 x.2.1 x.2.2.1⟩
theorem UM:HB.OK Tryz.prog 103:=aa (n:=10) (lf:=aI) (an (l:=[(140,AG)]) (u:=[]) (z:=[]) ⟨Tw,trivial⟩ trivial) (aj (l:=[(bG,8,OC),(bG,7,O1)]) ⟨⟨by kernel_rfl,fun z=>by kernel_rfl⟩,⟨by kernel_rfl,fun z=>by kernel_rfl⟩,trivial⟩) fun x=>by kernel_rfl
noncomputable def Ie:aT:=⟨[.i],[.val .i],fun x=>f142 x.1⟩
theorem U7:Ie.OK Tryz.prog 142:=aa (n:=10) (lf:=aI) (an (l:=[]) (u:=[]) (z:=[]) trivial trivial) (aj (l:=[]) trivial) fun x=>by kernel_rfl
noncomputable def BB:aT:=⟨[.i],[.val .bool],fun x=>f143 x.1⟩
theorem Sj:BB.OK Tryz.prog 143:=aa (n:=10) (lf:=aI) (an (l:=[]) (u:=[]) (z:=[]) trivial trivial) (aj (l:=[]) trivial) fun x=>by kernel_rfl
abbrev O8:ai:=⟨36,[(4,.cont .i),(6,.fix (.ptr 4294983680 0)),(7,.fix (.fn (.func 141) [] [(.ptr 4294983680 0)])),(19,.i),(20,.i)],[],[(4294983680,.box 3 [.i])],[⟨.t 8,8294967808,3,.i⟩]⟩
abbrev N7:ai:=⟨36,[],[],[],[⟨.t 8,8294967840,3,.i⟩]⟩
abbrev Qh:ai:=⟨36,[(3,.bool)],[],[],[⟨.t 2,8294967856,3,.i⟩]⟩
noncomputable def Ph:aG:=⟨9,104,O8,0,N7,Qh,HP,false,none,none,[]⟩
noncomputable def Iq:aT:=⟨[gb],[.val (.row .i),.val .bool],fun x=>f104 x.1⟩
theorem VF:Iq.OK Tryz.prog 104:=aa (n:=10) (lf:=aI) (an (l:=[(101,uM),(142,Ie),(143,BB)]) (u:=[]) (z:=[]) ⟨P8,U7,Sj,trivial⟩ trivial) (aj (l:=[(bG,8,Ph)]) ⟨⟨by kernel_rfl,fun z=>by kernel_rfl⟩,trivial⟩) fun x=>by kernel_rfl
abbrev zJ:ai:=⟨31,[(0,.fix (.fG 4295000064)),(1,.fix (.ptr n6 0)),(2,.fix (.ptr n7 0)),Bp],[(bG,.box 55 [.i,.i,.i,.i,.i,.i,.i,.i,.i,.i,.i,.bool,.i,.fix (.sl 18446884823787841600 0),.fix (.sl 18446884823787841601 0),.fix (.sl 18446884823787841602 0)]),RL,(nV,.box 55 [.i,.i,.i,.i,.i,.i,.i,.i,.i,.i,.i,.bool,.i,.fix (.sl 18446884823787841603 0),.fix (.sl 18446884823787841604 0),.fix (.sl 18446884823787841605 0)]),(n6,.box 87 [.cont .i]),(n7,.box 3 [.i]),Rq],[],[⟨.c bG 13,18446884823787841600,180,bX⟩,⟨.c bG 14,18446884823787841601,61,ew⟩,⟨.c bG 15,18446884823787841602,184,bX⟩,⟨.c nV 13,18446884823787841603,180,bX⟩,⟨.c nV 14,18446884823787841604,61,ew⟩,⟨.c nV 15,18446884823787841605,184,bX⟩]⟩
abbrev zM:ai:=⟨31,[],[(bG,.box 55 [.i,.i,.i,.i,.i,.i,.i,.i,.i,.i,.i,.bool,.i,.fix (.sl 18446884823787841632 0),.fix (.sl 18446884823787841633 0),.fix (.sl 18446884823787841634 0)]),RL,(nV,.box 55 [.i,.i,.i,.i,.i,.i,.i,.i,.i,.i,.i,.bool,.i,.fix (.sl 18446884823787841635 0),.fix (.sl 18446884823787841636 0),.fix (.sl 18446884823787841637 0)]),(n6,.box 87 [.cont .i]),(n7,.box 3 [.i]),Rq],[],[⟨.c bG 13,18446884823787841632,180,bX⟩,⟨.c bG 14,18446884823787841633,61,ew⟩,⟨.c bG 15,18446884823787841634,184,bX⟩,⟨.c nV 13,18446884823787841635,180,bX⟩,⟨.c nV 14,18446884823787841636,61,ew⟩,⟨.c nV 15,18446884823787841637,184,bX⟩]⟩
abbrev zm:ai:=⟨31,[],[P9,(4294971472,.gone),(nV,.gone),(n6,.gone),(n7,.gone),(4295000064,.gone)],[],[]⟩
noncomputable def zx:aG:=⟨8,139,zJ,0,zM,zm,oS,false,none,none,[]⟩
abbrev Pw:ai:=⟨237,[Rn,K8,(12,.cont .i),(14,.cont .i),(16,.cont .i),(182,.cont .i),(183,.i),(184,.i)],[],[(bG,.box 55 [.i,.i,.i,.i,.i,.i,.i,.i,.i,.i,.i,.bool,.i,.fix (.sl 8294968320 0),.fix (.sl 8294968321 0),.fix (.sl 8294968322 0)]),(nV,.box 55 [.i,.i,.i,.i,.i,.i,.i,.i,.i,.i,.i,.bool,.i,.fix (.sl 8294968323 0),.fix (.sl 8294968324 0),.fix (.sl 8294968325 0)])],[⟨.c bG 13,8294968320,180,bX⟩,⟨.c bG 14,8294968321,61,ew⟩,⟨.c bG 15,8294968322,184,bX⟩,⟨.c nV 13,8294968323,180,bX⟩,⟨.c nV 14,8294968324,61,ew⟩,⟨.c nV 15,8294968325,184,bX⟩]⟩
abbrev PM:ai:=⟨237,[Rn,K8,(14,.cont .i),(16,.cont .i)],[],[(bG,.box 55 [.i,.i,.i,.i,.i,.i,.i,.i,.i,.i,.i,.bool,.i,.fix (.sl 8294968352 0),.fix (.sl 8294968353 0),.fix (.sl 8294968354 0)]),(nV,.box 55 [.i,.i,.i,.i,.i,.i,.i,.i,.i,.i,.i,.bool,.i,.fix (.sl 8294968355 0),.fix (.sl 8294968356 0),.fix (.sl 8294968357 0)])],[⟨.c bG 13,8294968352,180,bX⟩,⟨.c bG 14,8294968353,61,ew⟩,⟨.c bG 15,8294968354,184,bX⟩,⟨.c nV 13,8294968355,180,bX⟩,⟨.c nV 14,8294968356,61,ew⟩,⟨.c nV 15,8294968357,184,bX⟩]⟩
abbrev Oy:ai:=⟨237,[],[],[],[]⟩
noncomputable def PY:aG:=⟨9,71,Pw,2,PM,Oy,J3,false,none,none,[]⟩
abbrev Qp:ai:=⟨237,[Rn,K8,(16,.cont .i),(210,.cont .i),(211,.i),(212,.i)],[],[(bG,.box 55 [.i,.i,.i,.i,.i,.i,.i,.i,.i,.i,.i,.bool,.i,.fix (.sl 8294968704 0),.fix (.sl 8294968705 0),.fix (.sl 8294968706 0)]),(nV,.box 55 [.i,.i,.i,.i,.i,.i,.i,.i,.i,.i,.i,.bool,.i,.fix (.sl 8294968707 0),.fix (.sl 8294968708 0),.fix (.sl 8294968709 0)])],[⟨.c bG 13,8294968704,180,bX⟩,⟨.c bG 14,8294968705,61,ew⟩,⟨.c bG 15,8294968706,184,bX⟩,⟨.c nV 13,8294968707,180,bX⟩,⟨.c nV 14,8294968708,61,ew⟩,⟨.c nV 15,8294968709,184,bX⟩]⟩
abbrev O7:ai:=⟨237,[Rn,K8],[],[(bG,.box 55 [.i,.i,.i,.i,.i,.i,.i,.i,.i,.i,.i,.bool,.i,.fix (.sl 8294968736 0),.fix (.sl 8294968737 0),.fix (.sl 8294968738 0)]),(nV,.box 55 [.i,.i,.i,.i,.i,.i,.i,.i,.i,.i,.i,.bool,.i,.fix (.sl 8294968739 0),.fix (.sl 8294968740 0),.fix (.sl 8294968741 0)])],[⟨.c bG 13,8294968736,180,bX⟩,⟨.c bG 14,8294968737,61,ew⟩,⟨.c bG 15,8294968738,184,bX⟩,⟨.c nV 13,8294968739,180,bX⟩,⟨.c nV 14,8294968740,61,ew⟩,⟨.c nV 15,8294968741,184,bX⟩]⟩
abbrev N0:ai:=⟨237,[],[],[],[]⟩
noncomputable def Ol:aG:=⟨9,71,Qp,4,O7,N0,J5,false,none,none,[]⟩
noncomputable def NB:aT:=⟨[gb],[.val s5,.val .bool],fun x=>f71 x.1⟩
theorem Ws:NB.OK Tryz.prog 71:=aa (n:=10) (lf:=aI) (an (l:=[(78,tv),(100,IX),(101,uM),(103,HB),(104,Iq)]) (u:=[]) (z:=[]) ⟨RF,Uq,P8,UM,VF,trivial⟩ trivial) (aj (l:=[(18446884819787841536,1,zx),(bG,16,PY),(bG,22,Ol)]) ⟨⟨by kernel_rfl,fun z=>by kernel_rfl⟩,⟨by kernel_rfl,fun z=>by kernel_rfl⟩,⟨by kernel_rfl,fun z=>by kernel_rfl⟩,trivial⟩) fun x=>by kernel_rfl
noncomputable def EB:aT:=⟨[gb],[.val s5,.val .i,.val .bool],fun x=>f39 x.1⟩
theorem Vs:EB.OK Tryz.prog 39:=aa (n:=10) (lf:=aI) (an (l:=[(70,Gw),(71,NB)]) (u:=[]) (z:=[]) ⟨V5,Ws,trivial⟩ trivial) (aj (l:=[]) trivial) fun x=>by kernel_rfl
noncomputable def MV:aT:=⟨[ew],[.val bX],fun x=>f75 x.1.1 x.1.2.1 x.1.2.2.1 x.1.2.2.2.1 x.1.2.2.2.2⟩
theorem WA:MV.OK Tryz.prog 75:=aa (n:=10) (lf:=aI) (an (l:=[]) (u:=[]) (z:=[]) trivial trivial) (aj (l:=[]) trivial) fun x=>by kernel_rfl
noncomputable def Dy:aT:=⟨[.i,.i,.i],[.val .bool],fun x=>f83 x.1 x.2.1 x.2.2.1⟩
theorem UE:Dy.OK Tryz.prog 83:=aa (n:=10) (lf:=aI) (an (l:=[]) (u:=[]) (z:=[]) trivial trivial) (aj (l:=[]) trivial) fun x=>by kernel_rfl
noncomputable def DO:aT:=⟨[As],[.val .bool],fun x=>f84 x.1.1 x.1.2.1 x.1.2.2.1 x.1.2.2.2.1 x.1.2.2.2.2.1 x.1.2.2.2.2.2.1 x.1.2.2.2.2.2.2.1 x.1.2.2.2.2.2.2.2.1 x.1.2.2.2.2.2.2.2.2⟩
theorem Va:DO.OK Tryz.prog 84:=aa (n:=10) (lf:=aI) (an (l:=[(83,Dy),(106,AF)]) (u:=[]) (z:=[]) ⟨UE,SH,trivial⟩ trivial) (aj (l:=[]) trivial) fun x=>by kernel_rfl
abbrev T7:ai:=⟨93,[(8,.fix (.ptr 4294983696 0)),(9,.fix (.ptr 4294987824 0))],[],[(4294983696,.box 201 [.fix (.fn (.func 162) [] []),.fix (.fn (.func 162) [] []),.fix (.fn (.func 163) [] []),.fix (.fn (.func 164) [] []),.fix (.fn (.func 163) [] []),.fix (.fn (.func 164) [] []),.fix (.fn (.func 165) [] [])]),(4294987824,.box 205 [.i,.cont .i,.i,.i,.i,.i,.i,.i,.i,.i,.bool,.bool])],[⟨.t 10,8294967744,70,As⟩]⟩
abbrev RR:ai:=⟨93,[],[],[],[⟨.t 10,8294967776,70,As⟩]⟩
abbrev Sb:ai:=⟨93,[(5,.bool)],[],[],[⟨.t 4,8294967792,70,As⟩]⟩
noncomputable def Tz:aG:=⟨9,93,T7,0,RR,Sb,Nn,false,none,none,[]⟩
noncomputable def MN:aT:=⟨[.i,gb],[.val (.row As),.val .bool],fun x=>f93 x.1 x.2.1⟩
theorem Wm:MN.OK Tryz.prog 93:=aa (n:=10) (lf:=aI) (an (l:=[(83,Dy),(84,DO),(101,uM)]) (u:=[]) (z:=[]) ⟨UE,Va,P8,trivial⟩ trivial) (aj (l:=[(bG,7,Tz)]) ⟨⟨by kernel_rfl,fun z=>by kernel_rfl⟩,trivial⟩) fun x=>by kernel_rfl
noncomputable def C8:aT:=⟨[s5],[.val s5],fun x=>f128 x.1.1.1.1 x.1.1.1.2 x.1.1.2.1.1 x.1.1.2.1.2 x.1.1.2.2.1 x.1.1.2.2.2.1 x.1.1.2.2.2.2.1 x.1.1.2.2.2.2.2 x.1.2.1.1 x.1.2.1.2.1 x.1.2.1.2.2.1 x.1.2.1.2.2.2 x.1.2.2.1 x.1.2.2.2.1 x.1.2.2.2.2.1 x.1.2.2.2.2.2⟩
theorem RS:C8.OK Tryz.prog 128:=aa (n:=10) (lf:=aI) (an (l:=[(166,lE),(167,gh),(168,jr)]) (u:=[]) (z:=[]) ⟨xy,nq,p9,trivial⟩ trivial) (aj (l:=[]) trivial) fun x=>by kernel_rfl
abbrev vh:ai:=⟨19,[Rh,TQ,xK,sL],[xJ,Kx],[],[]⟩
abbrev wQ:ai:=⟨19,[],[xJ,Kx],[],[]⟩
abbrev w8:ai:=⟨19,[Bp],[xJ,Kx],[],[]⟩
noncomputable def vN:aG:=⟨7,201,vh,0,wQ,w8,mH,false,none,none,[]⟩
abbrev vE:ai:=⟨42,[Rh,TQ,(5,.i),(6,.i)],[xJ,Kx],[],[]⟩
abbrev u9:ai:=⟨42,[Rh,(5,.i)],[xJ,Kx],[],[]⟩
abbrev vl:ai:=⟨42,[],[P9,(4294971408,.gone)],[],[]⟩
noncomputable def xk:aG:=⟨8,191,vE,0,u9,vl,lB,false,none,none,[]⟩
noncomputable def JK:aT:=⟨[gr,.i],[.own 184 bX],fun x=>f182 x.1 x.2.1⟩
theorem UW:JK.OK Tryz.prog 182:=aa (n:=10) (lf:=aI) (an (l:=[(168,jr)]) (u:=[]) (z:=[]) ⟨p9,trivial⟩ trivial) (aj (l:=[(n8,2,vN),(n9,5,xk)]) ⟨⟨by kernel_rfl,fun z=>by kernel_rfl⟩,⟨by kernel_rfl,fun z=>by kernel_rfl⟩,trivial⟩) fun x=>by kernel_rfl
abbrev QI:ai:=⟨45,[(1,.i),L7,LZ,(28,.i),(29,.i)],[],[(fp,.box 55 [.i,.i,.i,.i,.i,.i,.i,.i,.i,.i,.i,.bool,.i,.fix (.sl 8294967680 0),.fix (.sl 8294967681 0),.fix (.sl 8294967682 0)]),(zS,.box 55 [.i,.i,.i,.i,.i,.i,.i,.i,.i,.i,.i,.bool,.i,.fix (.sl 8294967683 0),.fix (.sl 8294967684 0),.fix (.sl 8294967685 0)])],[⟨.c fp 13,8294967680,180,bX⟩,⟨.c fp 14,8294967681,61,ew⟩,⟨.c fp 15,8294967682,184,bX⟩,⟨.c zS 13,8294967683,180,bX⟩,⟨.c zS 14,8294967684,61,ew⟩,⟨.c zS 15,8294967685,184,bX⟩]⟩
abbrev Om:ai:=⟨45,[(1,.i),L7,LZ],[],[(fp,.box 55 [.i,.i,.i,.i,.i,.i,.i,.i,.i,.i,.i,.bool,.i,.fix (.sl 8294967712 0),.fix (.sl 8294967713 0),.fix (.sl 8294967714 0)]),(zS,.box 55 [.i,.i,.i,.i,.i,.i,.i,.i,.i,.i,.i,.bool,.i,.fix (.sl 8294967715 0),.fix (.sl 8294967716 0),.fix (.sl 8294967717 0)])],[⟨.c fp 13,8294967712,180,bX⟩,⟨.c fp 14,8294967713,61,ew⟩,⟨.c fp 15,8294967714,184,bX⟩,⟨.c zS 13,8294967715,180,bX⟩,⟨.c zS 14,8294967716,61,ew⟩,⟨.c zS 15,8294967717,184,bX⟩]⟩
abbrev ON:ai:=⟨45,[],[],[],[]⟩
noncomputable def QX:aG:=⟨9,169,QI,0,Om,ON,GP,false,none,none,[]⟩
noncomputable def Jh:aT:=⟨[s5,.i],[.val s5,.val .bool],fun x=>f169 x.1.1.1.1 x.1.1.1.2 x.1.1.2.1.1 x.1.1.2.1.2 x.1.1.2.2.1 x.1.1.2.2.2.1 x.1.1.2.2.2.2.1 x.1.1.2.2.2.2.2 x.1.2.1.1 x.1.2.1.2.1 x.1.2.1.2.2.1 x.1.2.1.2.2.2 x.1.2.2.1 x.1.2.2.2.1 x.1.2.2.2.2.1 x.1.2.2.2.2.2 x.2.1⟩
theorem UA:Jh.OK Tryz.prog 169:=aa (n:=10) (lf:=aI) (an (l:=[(78,tv),(166,lE),(167,gh),(168,jr),(182,JK)]) (u:=[]) (z:=[]) ⟨RF,xy,nq,p9,UW,trivial⟩ trivial) (aj (l:=[(bG,6,QX)]) ⟨⟨by kernel_rfl,fun z=>by kernel_rfl⟩,trivial⟩) fun x=>by kernel_rfl
abbrev Qw:ai:=⟨18,[(3,.i),(6,.cont .i),xK,sL],[],[],[]⟩
abbrev N6:ai:=⟨18,[(3,.i)],[],[],[]⟩
abbrev P3:ai:=⟨18,[(2,.i)],[],[],[]⟩
noncomputable def PV:aG:=⟨9,225,Qw,0,N6,P3,JB,false,none,none,[]⟩
noncomputable def HU:aT:=⟨[(.row .i)],[.val .i],fun x=>f225 x.1⟩
theorem U2:HU.OK Tryz.prog 225:=aa (n:=10) (lf:=aI) (an (l:=[]) (u:=[]) (z:=[]) trivial trivial) (aj (l:=[(bG,3,PV)]) ⟨⟨by kernel_rfl,fun z=>by kernel_rfl⟩,trivial⟩) fun x=>by kernel_rfl
noncomputable def Ia:aT:=⟨[.i],[.val .bool],fun x=>f243 x.1⟩
theorem Vn:Ia.OK Tryz.prog 243:=aa (n:=10) (lf:=aI) (an (l:=[]) (u:=[]) (z:=[]) trivial trivial) (aj (l:=[]) trivial) fun x=>by kernel_rfl
noncomputable def Jp:aT:=⟨[.i,.i],[.val .i],fun x=>f226 x.1 x.2.1⟩
theorem UZ:Jp.OK Tryz.prog 226:=aa (n:=10) (lf:=aI) (an (l:=[(243,Ia)]) (u:=[]) (z:=[]) ⟨Vn,trivial⟩ trivial) (aj (l:=[]) trivial) fun x=>by kernel_rfl
noncomputable def Ce:aT:=⟨[xN,xN],[.val .i],fun x=>f215 x.1.1 x.1.2 x.2.1.1 x.2.1.2⟩
theorem T4:Ce.OK Tryz.prog 215:=aa (n:=10) (lf:=aI) (an (l:=[(225,HU),(226,Jp)]) (u:=[]) (z:=[]) ⟨U2,UZ,trivial⟩ trivial) (aj (l:=[]) trivial) fun x=>by kernel_rfl
abbrev ur:ai:=⟨19,[SP,(1,.fix (.fn (.func 214) [] [(.ptr fp 0),(.ptr bG 0)])),xK,sL],[Rp,OD],[],[]⟩
abbrev uU:ai:=⟨19,[],[Rp,OD],[],[]⟩
abbrev vg:ai:=⟨19,[Bp],[Rp,OD],[],[]⟩
noncomputable def uF:aG:=⟨8,105,ur,0,uU,vg,mg,false,none,none,[]⟩
noncomputable def Ib:aT:=⟨[gW,xN,(.xI 179)],[.val .i],fun x=>f203 x.1 x.2.1.1 x.2.1.2⟩
theorem VD:Ib.OK Tryz.prog 203:=aa (n:=10) (lf:=aI) (an (l:=[(179,vS),(215,Ce)]) (u:=[]) (z:=[]) ⟨N8,T4,trivial⟩ trivial) (aj (l:=[(n0,2,uF)]) ⟨⟨by kernel_rfl,fun z=>by kernel_rfl⟩,trivial⟩) fun x=>by kernel_rfl
noncomputable def Ic:aT:=⟨[gW,ew],[.val gW,.val .bool],fun x=>f193 x.1 x.2.1.1 x.2.1.2.1 x.2.1.2.2.1 x.2.1.2.2.2.1 x.2.1.2.2.2.2⟩
theorem VC:Ic.OK Tryz.prog 193:=aa (n:=10) (lf:=aI) (an (l:=[(151,r7),(167,gh),(179,vS),(203,Ib)]) (u:=[(202,DP)]) (z:=[]) ⟨Mi,nq,N8,VD,trivial⟩ ⟨JO,trivial⟩) (aj (l:=[]) trivial) fun x=>by kernel_rfl
noncomputable def Gp:aT:=⟨[gW,.i,.i],[.val gW,.val .bool],fun x=>f194 x.1 x.2.1 x.2.2.1⟩
theorem UL:Gp.OK Tryz.prog 194:=aa (n:=10) (lf:=aI) (an (l:=[(151,r7),(167,gh)]) (u:=[]) (z:=[]) ⟨Mi,nq,trivial⟩ trivial) (aj (l:=[]) trivial) fun x=>by kernel_rfl
noncomputable def HJ:aT:=⟨[bX],[.val (.pair xN bX)],fun x=>f216 x.1.1 x.1.2.1 x.1.2.2⟩
theorem VJ:HJ.OK Tryz.prog 216:=aa (n:=10) (lf:=aI) (an (l:=[]) (u:=[]) (z:=[]) trivial trivial) (aj (l:=[]) trivial) fun x=>by kernel_rfl
noncomputable def Ca:aT:=⟨[bX],[.val xN],fun x=>f206 x.1.1 x.1.2.1 x.1.2.2⟩
theorem R8:Ca.OK Tryz.prog 206:=aa (n:=10) (lf:=aI) (an (l:=[(216,HJ)]) (u:=[]) (z:=[]) ⟨VJ,trivial⟩ trivial) (aj (l:=[]) trivial) fun x=>by kernel_rfl
abbrev xz:ai:=⟨19,[LI,(1,.fix (.fn (.func 219) [] [(.ptr fp 0),(.ptr bG 0)])),xK,sL],[Rp,PG],[],[]⟩
abbrev xu:ai:=⟨19,[],[Rp,PG],[],[]⟩
abbrev wA:ai:=⟨19,[Bp],[Rp,PG],[],[]⟩
noncomputable def uw:aG:=⟨8,201,xz,0,xu,wA,nj,false,none,none,[]⟩
noncomputable def Kl:aT:=⟨[gr,xN,(.xI 206)],[.val .i],fun x=>f208 x.1 x.2.1.1 x.2.1.2⟩
theorem Vp:Kl.OK Tryz.prog 208:=aa (n:=10) (lf:=aI) (an (l:=[(206,Ca),(215,Ce)]) (u:=[]) (z:=[]) ⟨R8,T4,trivial⟩ trivial) (aj (l:=[(n0,2,uw)]) ⟨⟨by kernel_rfl,fun z=>by kernel_rfl⟩,trivial⟩) fun x=>by kernel_rfl
abbrev wN:ai:=⟨19,[Rh,RJ,xK,sL],[G8,Kx],[],[]⟩
abbrev vW:ai:=⟨19,[],[G8,Kx],[],[]⟩
abbrev xB:ai:=⟨19,[Bp],[G8,Kx],[],[]⟩
noncomputable def xm:aG:=⟨7,201,wN,0,vW,xB,lP,false,none,none,[]⟩
abbrev vk:ai:=⟨42,[Rh,RJ,(5,.i),(6,.i)],[G8,Kx],[],[]⟩
abbrev uI:ai:=⟨42,[Rh,(5,.i)],[G8,Kx],[],[]⟩
abbrev wo:ai:=⟨42,[],[P9,(4294971408,.gone)],[],[]⟩
noncomputable def uL:aG:=⟨8,191,vk,0,uI,wo,l9,false,none,none,[]⟩
noncomputable def JV:aT:=⟨[gr,bX],[.val gr],fun x=>f195 x.1 x.2.1.1 x.2.1.2.1 x.2.1.2.2⟩
theorem Vh:JV.OK Tryz.prog 195:=aa (n:=10) (lf:=aI) (an (l:=[(168,jr),(206,Ca),(208,Kl)]) (u:=[(207,Kc)]) (z:=[]) ⟨p9,R8,Vp,trivial⟩ ⟨K0,trivial⟩) (aj (l:=[(n8,2,xm),(n9,5,uL)]) ⟨⟨by kernel_rfl,fun z=>by kernel_rfl⟩,⟨by kernel_rfl,fun z=>by kernel_rfl⟩,trivial⟩) fun x=>by kernel_rfl
abbrev Qa:ai:=⟨24,[(6,.cont ew),xK,sL],[],[],[⟨.t 3,8294967488,3,.i⟩]⟩
abbrev Pp:ai:=⟨24,[],[],[],[⟨.t 3,8294967520,3,.i⟩]⟩
abbrev Oh:ai:=⟨24,[],[],[],[]⟩
noncomputable def Qq:aG:=⟨9,196,Qa,0,Pp,Oh,FX,false,none,none,[]⟩
noncomputable def JZ:aT:=⟨[gW],[.val (.row .i)],fun x=>f196 x.1⟩
theorem Vg:JZ.OK Tryz.prog 196:=aa (n:=10) (lf:=aI) (an (l:=[(189,Bi)]) (u:=[(209,ND),(210,zL)]) (z:=[]) ⟨TH,trivial⟩ ⟨Pz,EX,trivial⟩) (aj (l:=[(bG,3,Qq)]) ⟨⟨by kernel_rfl,fun z=>by kernel_rfl⟩,trivial⟩) fun x=>by kernel_rfl
abbrev Qt:ai:=⟨37,[(1,.cont bX),(2,.i),(7,.fix (.ptr fp 0)),(16,.cont bX),(17,.i),(18,.i)],[],[(fp,.box 180 [.i,.i,.i])],[]⟩
abbrev Pe:ai:=⟨37,[(1,.cont bX),(2,.i)],[],[],[]⟩
abbrev Pc:ai:=⟨37,[sL],[],[],[]⟩
noncomputable def Q1:aG:=⟨9,241,Qt,0,Pe,Pc,HL,false,none,none,[]⟩
noncomputable def Im:aT:=⟨[Pt,gr,.i,bX],[.val .i],fun x=>f241 x.1.1 x.1.2.1 x.1.2.2.1 x.1.2.2.2.1.1 x.1.2.2.2.1.2.1 x.1.2.2.2.1.2.2 x.1.2.2.2.2 x.2.1 x.2.2.1 x.2.2.2.1.1 x.2.2.2.1.2.1 x.2.2.2.1.2.2⟩
theorem Ux:Im.OK Tryz.prog 241:=aa (n:=10) (lf:=aI) (an (l:=[(145,Cn),(146,Cg)]) (u:=[]) (z:=[]) ⟨TF,Sl,trivial⟩ trivial) (aj (l:=[(bG,4,Q1)]) ⟨⟨by kernel_rfl,fun z=>by kernel_rfl⟩,trivial⟩) fun x=>by kernel_rfl
abbrev uT:ai:=⟨19,[(0,.cont .i),(1,.fix (.fn (.func 240) [] [(.ptr fp 0),(.ptr bG 0),(.ptr Wl 0)])),xK,sL],[Ff,EG,O0,Qu],[],[]⟩
abbrev xq:ai:=⟨19,[],[Ff,EG,O0,Qu],[],[]⟩
abbrev vK:ai:=⟨19,[Bp],[Ff,EG,O0,Qu],[],[]⟩
noncomputable def xg:aG:=⟨6,180,uT,0,xq,vK,ix,false,none,none,[]⟩
abbrev wO:ai:=⟨19,[(0,.cont .i),(1,.fix (.fn (.func 240) [] [(.ptr fp 0),(.ptr bG 0),(.ptr Wb 0)])),xK,sL],[Ff,EG,PL],[],[]⟩
abbrev wq:ai:=⟨19,[],[Ff,EG,PL],[],[]⟩
abbrev vw:ai:=⟨19,[Bp],[Ff,EG,PL],[],[]⟩
noncomputable def wX:aG:=⟨6,180,wO,0,wq,vw,gP,false,none,none,[]⟩
noncomputable def Hr:aT:=⟨[Pt,gr],[.val .i],fun x=>f222 x.1.1 x.1.2.1 x.1.2.2.1 x.1.2.2.2.1.1 x.1.2.2.2.1.2.1 x.1.2.2.2.1.2.2 x.1.2.2.2.2 x.2.1⟩
theorem Uy:Hr.OK Tryz.prog 222:=aa (n:=10) (lf:=aI) (an (l:=[(108,CU),(177,B0),(241,Im)]) (u:=[]) (z:=[]) ⟨RM,RI,Ux,trivial⟩ trivial) (aj (l:=[(Wq,2,xg),(W8,2,wX)]) ⟨⟨by kernel_rfl,fun z=>by kernel_rfl⟩,⟨by kernel_rfl,fun z=>by kernel_rfl⟩,trivial⟩) fun x=>by kernel_rfl
noncomputable def rF:aT:=⟨[Pt,gr],[.val gr,.val .i],fun x=>f211 x.1.1 x.1.2.1 x.1.2.2.1 x.1.2.2.2.1.1 x.1.2.2.2.1.2.1 x.1.2.2.2.1.2.2 x.1.2.2.2.2 x.2.1⟩
theorem KT:rF.OK Tryz.prog 211:=aa (n:=10) (lf:=aI) (an (l:=[(166,lE),(222,Hr)]) (u:=[]) (z:=[]) ⟨xy,Uy,trivial⟩ trivial) (aj (l:=[]) trivial) fun x=>by kernel_rfl
noncomputable def It:aT:=⟨[gr,.i,.i,.i],[.val gr,.val .i],fun x=>f197 x.1 x.2.1 x.2.2.1 x.2.2.2.1⟩
theorem VA:It.OK Tryz.prog 197:=aa (n:=10) (lf:=aI) (an (l:=[(211,rF)]) (u:=[]) (z:=[]) ⟨KT,trivial⟩ trivial) (aj (l:=[]) trivial) fun x=>by kernel_rfl
noncomputable def Ja:aT:=⟨[gr,.i,.i],[.val gr,.val .i],fun x=>f198 x.1 x.2.1 x.2.2.1⟩
theorem Uv:Ja.OK Tryz.prog 198:=aa (n:=10) (lf:=aI) (an (l:=[(211,rF)]) (u:=[]) (z:=[]) ⟨KT,trivial⟩ trivial) (aj (l:=[]) trivial) fun x=>by kernel_rfl
noncomputable def HS:aT:=⟨[gr,.i,.i,.i,(.row .i)],[.val gr,.val .i],fun x=>f199 x.1 x.2.1 x.2.2.1 x.2.2.2.1 x.2.2.2.2.1⟩
theorem UC:HS.OK Tryz.prog 199:=aa (n:=10) (lf:=aI) (an (l:=[(211,rF)]) (u:=[]) (z:=[]) ⟨KT,trivial⟩ trivial) (aj (l:=[]) trivial) fun x=>by kernel_rfl
noncomputable def HR:aT:=⟨[gr,.i,.i,(.row .i)],[.val gr,.val .i],fun x=>f200 x.1 x.2.1 x.2.2.1 x.2.2.2.1⟩
theorem VK:HR.OK Tryz.prog 200:=aa (n:=10) (lf:=aI) (an (l:=[(211,rF)]) (u:=[]) (z:=[]) ⟨KT,trivial⟩ trivial) (aj (l:=[]) trivial) fun x=>by kernel_rfl
noncomputable def Jl:aT:=⟨[s5,As],[.val s5,.val .i],fun x=>f129 x.1.1.1.1 x.1.1.1.2 x.1.1.2.1.1 x.1.1.2.1.2 x.1.1.2.2.1 x.1.1.2.2.2.1 x.1.1.2.2.2.2.1 x.1.1.2.2.2.2.2 x.1.2.1.1 x.1.2.1.2.1 x.1.2.1.2.2.1 x.1.2.1.2.2.2 x.1.2.2.1 x.1.2.2.2.1 x.1.2.2.2.2.1 x.1.2.2.2.2.2 x.2.1.1 x.2.1.2.1 x.2.1.2.2.1 x.2.1.2.2.2.1 x.2.1.2.2.2.2.1 x.2.1.2.2.2.2.2.1 x.2.1.2.2.2.2.2.2.1 x.2.1.2.2.2.2.2.2.2.1 x.2.1.2.2.2.2.2.2.2.2⟩
theorem Un:Jl.OK Tryz.prog 129:=aa (n:=10) (lf:=aI) (an (l:=[(29,lF),(78,tv),(84,DO),(128,C8),(151,r7),(169,Jh),(193,Ic),(194,Gp),(195,JV),(196,JZ),(197,It),(198,Ja),(199,HS),(200,HR)]) (u:=[]) (z:=[]) ⟨Nu,RF,Va,RS,Mi,UA,VC,UL,Vh,Vg,VA,Uv,UC,VK,trivial⟩ trivial) (aj (l:=[]) trivial) fun x=>by kernel_rfl
abbrev Tc:ai:=⟨33,[Rn,L7,LZ,xK,SN,(13,.i),(14,.i)],[],[FW,(fp,.box 55 [.i,.i,.i,.i,.i,.i,.i,.i,.i,.i,.i,.bool,.i,.fix (.sl 8294967552 0),.fix (.sl 8294967553 0),.fix (.sl 8294967554 0)]),Td],[⟨.c fp 13,8294967552,180,bX⟩,⟨.c fp 14,8294967553,61,ew⟩,⟨.c fp 15,8294967554,184,bX⟩]⟩
abbrev RO:ai:=⟨33,[Rn,L7,LZ,xK],[],[FW,(fp,.box 55 [.i,.i,.i,.i,.i,.i,.i,.i,.i,.i,.i,.bool,.i,.fix (.sl 8294967584 0),.fix (.sl 8294967585 0),.fix (.sl 8294967586 0)]),Td],[⟨.c fp 13,8294967584,180,bX⟩,⟨.c fp 14,8294967585,61,ew⟩,⟨.c fp 15,8294967586,184,bX⟩]⟩
abbrev TW:ai:=⟨33,[],[],[],[]⟩
noncomputable def Rv:aG:=⟨9,94,Tc,0,RO,TW,M0,false,none,none,[]⟩
noncomputable def Np:aT:=⟨[s5,(.row As)],[.val s5,.val .i],fun x=>f94 x.1.1.1.1 x.1.1.1.2 x.1.1.2.1.1 x.1.1.2.1.2 x.1.1.2.2.1 x.1.1.2.2.2.1 x.1.1.2.2.2.2.1 x.1.1.2.2.2.2.2 x.1.2.1.1 x.1.2.1.2.1 x.1.2.1.2.2.1 x.1.2.1.2.2.2 x.1.2.2.1 x.1.2.2.2.1 x.1.2.2.2.2.1 x.1.2.2.2.2.2 x.2.1⟩
theorem Wo:Np.OK Tryz.prog 94:=aa (n:=10) (lf:=aI) (an (l:=[(128,C8),(129,Jl)]) (u:=[]) (z:=[]) ⟨RS,Un,trivial⟩ trivial) (aj (l:=[(bG,4,Rv)]) ⟨⟨by kernel_rfl,fun z=>by kernel_rfl⟩,trivial⟩) fun x=>by kernel_rfl
abbrev BN:ai:=⟨69,[(0,.fix (.fG 4295004160)),(2,.fix (.ptr n6 0)),(4,.fix (.ptr 18446902411973885968 0))],[(bG,.box 86 [.i,.i,.i,.i,.i,.i,.i,.i,.i,.i,.i,.bool,.i,.fix (.sl 18446902415973886016 0),.fix (.sl 18446902415973886017 0),.fix (.sl 18446902415973886018 0),.i,.i]),SV,Uc,(Mo,.box 71 [.fix (.sl 18446902415973886019 0)]),(n6,.box 82 [.cont iH]),Tf,SF],[(18446902411973885968,.box 86 [.i,.i,.i,.i,.i,.i,.i,.i,.i,.i,.i,.bool,.i,.cont bX,.cont ew,.cont bX,.i,.i])],[⟨.c bG 13,18446902415973886016,180,bX⟩,⟨.c bG 14,18446902415973886017,61,ew⟩,⟨.c bG 15,18446902415973886018,184,bX⟩,⟨.c Mo 0,18446902415973886019,70,As⟩]⟩
abbrev Bt:ai:=⟨69,[],[P9,(4294971488,.gone),(4294983760,.gone),(Mo,.gone),(n6,.gone),(n7,.gone),(4295004160,.gone)],[],[]⟩
abbrev CR:ai:=⟨69,[],[(bG,.box 86 [.i,.i,.i,.i,.i,.i,.i,.i,.i,.i,.i,.bool,.i,.fix (.sl 18446902415973886064 0),.fix (.sl 18446902415973886065 0),.fix (.sl 18446902415973886066 0),.i,.i]),SV,Uc,(Mo,.box 71 [.fix (.sl 18446902415973886067 0)]),(n6,.box 82 [.cont iH]),Tf,SF],[],[⟨.c bG 13,18446902415973886064,180,bX⟩,⟨.c bG 14,18446902415973886065,61,ew⟩,⟨.c bG 15,18446902415973886066,184,bX⟩,⟨.c Mo 0,18446902415973886067,70,As⟩]⟩
noncomputable def Ci:aG:=⟨8,92,BN,0,Bt,CR,qO,false,none,none,[]⟩
noncomputable def NI:aT:=⟨[gb],[.val (.pair s5 xN),.val (.row As),.val .bool],fun x=>f36 x.1⟩
theorem WI:NI.OK Tryz.prog 36:=aa (n:=10) (lf:=aI) (an (l:=[(39,EB),(70,Gw),(93,MN),(94,Np)]) (u:=[]) (z:=[]) ⟨Vs,V5,Wm,Wo,trivial⟩ trivial) (aj (l:=[(18446902411973885952,1,Ci)]) ⟨⟨by kernel_rfl,fun z=>by kernel_rfl⟩,trivial⟩) fun x=>by kernel_rfl
noncomputable def NH:aT:=⟨[gb],[.val (.row As)],fun x=>f41 x.1⟩
theorem WE:NH.OK Tryz.prog 41:=aa (n:=10) (lf:=aI) (an (l:=[(36,NI)]) (u:=[]) (z:=[]) ⟨WI,trivial⟩ trivial) (aj (l:=[]) trivial) fun x=>by kernel_rfl
noncomputable def MU:aT:=⟨[EA,(.pair .i (.pair .i (.pair .i .bool)))],[.val s5,.val .bool],fun x=>f43 x.1.1.1 x.1.1.2 x.1.2.1.1 x.1.2.1.2 x.1.2.2.1 x.1.2.2.2.1 x.1.2.2.2.2.1 x.1.2.2.2.2.2 x.2.1.1 x.2.1.2.1 x.2.1.2.2.1 x.2.1.2.2.2⟩
theorem WR:MU.OK Tryz.prog 43:=aa (n:=10) (lf:=aI) (an (l:=[(78,tv)]) (u:=[]) (z:=[]) ⟨RF,trivial⟩ trivial) (aj (l:=[]) trivial) fun x=>by kernel_rfl
noncomputable def MZ:aT:=⟨[],[.val EA],fun x=>f44 ⟩
theorem Ww:MZ.OK Tryz.prog 44:=aa (n:=10) (lf:=aI) (an (l:=[]) (u:=[]) (z:=[]) trivial trivial) (aj (l:=[]) trivial) fun x=>by kernel_rfl
noncomputable def Mr:aT:=⟨[.i],[.val xE,.val .bool],fun x=>f45 x.1⟩
theorem WS:Mr.OK Tryz.prog 45:=aa (n:=10) (lf:=aI) (an (l:=[(34,jU)]) (u:=[]) (z:=[]) ⟨KF,trivial⟩ trivial) (aj (l:=[]) trivial) fun x=>by kernel_rfl
abbrev Ei:List Ty:=[.i]
noncomputable abbrev S0:List (Nat×aT):=[]
noncomputable abbrev T6:List (Nat×bF):=[]
noncomputable abbrev Sk:Cons:=uh S0 T6
abbrev NY:ai:=⟨20,[(1,.i)],[],[],[⟨.t 0,8294967360,5,iH⟩]⟩
abbrev OJ:ai:=⟨20,[(1,.i)],[],[],[⟨.t 0,8294967392,5,iH⟩]⟩
abbrev PU:ai:=⟨20,[],[],[],[]⟩
noncomputable def HW:aG:=⟨9,121,NY,0,OJ,PU,Hs,false,none,none,[]⟩
noncomputable abbrev N1:List (Nat×Nat×aG):=[(bG,1,HW)]
noncomputable def CG:bF:=⟨5,.int .u8,Ei,false,fun zs x=>TZ zs x.1⟩
theorem Oj:Round Tryz.prog Sk (eC N1) aI bG 1 HW:=⟨by kernel_rfl,fun z=>by kernel_rfl⟩
theorem UG (zs:List (Ty.T iH))(x:cC Ei):DB Tryz.prog Sk (eC N1) aI 9 121 5 iH Ei zs x=f121 zs x.1:=by kernel_rfl
theorem SG [aq][Ab Tryz.prog](h:oV Tryz.prog S0)(h':yG Tryz.prog T6):CG.OK Tryz.prog 121:=wS (e:=.int .u8) (f:=fun (zs:List (Ty.T iH)) (x:cC Ei)=>f121 zs x.1) (an h h') (aj (l:=N1) ⟨Oj,trivial⟩) rfl UG
theorem U0:CG.OK Tryz.prog 121:=SG trivial trivial
abbrev uW:ai:=⟨20,[(1,.i)],[],[],[⟨.t 0,18446796927282128960,5,iH⟩]⟩
abbrev xw:ai:=⟨20,[(1,.i)],[],[],[⟨.t 0,18446796927282128992,5,iH⟩]⟩
abbrev xp:ai:=⟨20,[],[],[],[]⟩
noncomputable def vn:aG:=⟨8,121,uW,0,xw,xp,lS,false,none,none,[]⟩
noncomputable def Cf:aT:=⟨[.i],[.val gb],fun x=>f117 x.1⟩
theorem SU:Cf.OK Tryz.prog 117:=aa (n:=10) (lf:=aI) (an (l:=[(120,wK)]) (u:=[]) (z:=[]) ⟨Q2,trivial⟩ trivial) (aj (l:=[(n5,1,vn)]) ⟨⟨by kernel_rfl,fun z=>by kernel_rfl⟩,trivial⟩) fun x=>by kernel_rfl
abbrev Pd:ai:=⟨36,[(0,.cont gb),(3,.i),(9,.cont gb),LS,(11,.i)],[],[],[]⟩
abbrev PK:ai:=⟨36,[(0,.cont gb),(3,.i)],[],[],[]⟩
abbrev PS:ai:=⟨36,[],[],[],[]⟩
noncomputable def QO:aG:=⟨9,123,Pd,0,PK,PS,HI,false,none,none,[]⟩
abbrev KK:ai:=⟨36,[(25,.cont gb),(26,.i),(27,.i)],[],[],[⟨.t 6,8294968000,5,iH⟩]⟩
abbrev KM:ai:=⟨36,[],[],[],[⟨.t 6,8294968032,5,iH⟩]⟩
abbrev Ld:ai:=⟨36,[],[],[],[]⟩
noncomputable def LX:aG:=⟨9,123,KK,2,KM,Ld,Du,false,none,none,[]⟩
noncomputable def BE:aT:=⟨[(.row gb)],[.val gb],fun x=>f123 x.1⟩
theorem To:BE.OK Tryz.prog 123:=aa (n:=10) (lf:=aI) (an (l:=[(160,yW)]) (u:=[]) (z:=[]) ⟨Li,trivial⟩ trivial) (aj (l:=[(bG,3,QO),(bG,11,LX)]) ⟨⟨by kernel_rfl,fun z=>by kernel_rfl⟩,⟨by kernel_rfl,fun z=>by kernel_rfl⟩,trivial⟩) fun x=>by kernel_rfl
noncomputable def Gn:aT:=⟨[gb],[.val gb],fun x=>f122 x.1⟩
theorem Uz:Gn.OK Tryz.prog 122:=aa (n:=10) (lf:=aI) (an (l:=[(123,BE),(135,A6),(136,CO)]) (u:=[]) (z:=[NZ]) ⟨To,Ry,RW,trivial⟩ trivial) (aj (l:=[]) trivial) fun x=>by kernel_rfl
noncomputable def Jq:aT:=⟨[(.pair .i gb)],[.val gb,.val .bool],fun x=>f87 x.1.1 x.1.2⟩
theorem V2:Jq.OK Tryz.prog 87:=aa (n:=10) (lf:=aI) (an (l:=[(117,Cf),(122,Gn),(123,BE)]) (u:=[]) (z:=[4294979632,4294979744]) ⟨SU,Uz,To,trivial⟩ trivial) (aj (l:=[]) trivial) fun x=>by kernel_rfl
abbrev Rw:ai:=⟨28,[BM,Rg,LS,(11,.i)],[],[(bG,.box 45 [.i,.fix (.sl 8294967488 0)]),(fp,.box 45 [.i,.fix (.sl 8294967489 0)])],[⟨.c bG 1,8294967488,84,xO⟩,⟨.c fp 1,8294967489,84,xO⟩]⟩
abbrev RY:ai:=⟨28,[BM,Rg],[],[(bG,.box 45 [.i,.fix (.sl 8294967520 0)]),(fp,.box 45 [.i,.fix (.sl 8294967521 0)])],[⟨.c bG 1,8294967520,84,xO⟩,⟨.c fp 1,8294967521,84,xO⟩]⟩
abbrev SC:ai:=⟨28,[],[],[],[]⟩
noncomputable def SO:aG:=⟨9,95,Rw,0,RY,SC,MH,false,none,none,[]⟩
noncomputable def Gy:aT:=⟨[xE],[.pair (.val .i) (.own 84 xO)],fun x=>f95 x.1.1 x.1.2⟩
theorem Wc:Gy.OK Tryz.prog 95:=aa (n:=10) (lf:=aI) (an (l:=[(130,xV),(131,qB)]) (u:=[]) (z:=[]) ⟨D1,D8,trivial⟩ trivial) (aj (l:=[(bG,3,SO)]) ⟨⟨by kernel_rfl,fun z=>by kernel_rfl⟩,trivial⟩) fun x=>by kernel_rfl
abbrev LJ:ai:=⟨28,[BM,Rg,LS,(11,.i)],[],[Tk,(zS,.sY 84 5 0),(fp,.box 45 [.i,.fix (.sl 8294967488 0)])],[VO]⟩
abbrev Ln:ai:=⟨28,[BM,Rg],[],[Tk,(zS,.sY 84 5 0),(fp,.box 45 [.i,.fix (.sl 8294967520 0)])],[VP]⟩
abbrev K1:ai:=⟨28,[],[],[],[]⟩
noncomputable def KH:aG:=⟨9,95,LJ,0,Ln,K1,Ev,false,none,none,[]⟩
noncomputable def DI:aT:=⟨[SW],[.pair (.val .i) (.deep 84 5 false)],fun x=>zD x.1.1 x.1.2⟩
theorem T0:DI.OK Tryz.prog 95:=aa (n:=10) (lf:=aI) (an (l:=[(130,tU)]) (u:=[(131,Nc)]) (z:=[]) ⟨I3,trivial⟩ ⟨K2,trivial⟩) (aj (l:=[(bG,3,KH)]) ⟨⟨by kernel_rfl,fun z=>by kernel_rfl⟩,trivial⟩) fun x=>by kernel_rfl
abbrev xD:ai:=⟨26,[(1,.fix (.fn (.func 159) [] [(.ptr bG 0),(.ptr fp 0)])),(5,.i),(6,.i)],[Oa,PZ],[],[]⟩
abbrev vm:ai:=⟨26,[(5,.i)],[Oa,PZ],[],[]⟩
abbrev u6:ai:=⟨26,[],[P9,(fp,.gone)],[],[]⟩
noncomputable def xa:aG:=⟨8,158,xD,0,vm,u6,mD,false,none,none,[]⟩
noncomputable def Cq:aT:=⟨[xE,.i],[.val .i],fun x=>f119 x.1.1 x.1.2 x.2.1⟩
theorem TA:Cq.OK Tryz.prog 119:=aa (n:=10) (lf:=aI) (an (l:=[]) (u:=[]) (z:=[]) trivial trivial) (aj (l:=[(n4,2,xa)]) ⟨⟨by kernel_rfl,fun z=>by kernel_rfl⟩,trivial⟩) fun x=>by kernel_rfl
noncomputable def DJ:aT:=⟨[xE,.i],[.val .i],fun x=>f96 x.1.1 x.1.2 x.2.1⟩
theorem Vl:DJ.OK Tryz.prog 96:=aa (n:=10) (lf:=aI) (an (l:=[(34,jU),(119,Cq)]) (u:=[]) (z:=[]) ⟨KF,TA,trivial⟩ trivial) (aj (l:=[]) trivial) fun x=>by kernel_rfl
noncomputable def Hl:aT:=⟨[xE,.i,gb],[.val xE,.val .i],fun x=>f124 x.1.1 x.1.2 x.2.1 x.2.2.1⟩
theorem U9:Hl.OK Tryz.prog 124:=aa (n:=10) (lf:=aI) (an (l:=[(34,jU),(63,J7),(95,DI),(96,DJ)]) (u:=[]) (z:=[]) ⟨KF,VW,T0,Vl,trivial⟩ trivial) (aj (l:=[]) trivial) fun x=>by kernel_rfl
noncomputable def GD:aT:=⟨[(.one gb),xE,.i],[.val xE,.val .i],fun x=>f88 x.1 x.2.1.1 x.2.1.2 x.2.2.1⟩
theorem VU:GD.OK Tryz.prog 88:=aa (n:=10) (lf:=aI) (an (l:=[(124,Hl)]) (u:=[]) (z:=[]) ⟨U9,trivial⟩ trivial) (aj (l:=[]) trivial) fun x=>by kernel_rfl
noncomputable def Gv:aT:=⟨[xE,.i],[.val xE,.val .i],fun x=>f89 x.1.1 x.1.2 x.2.1⟩
theorem V9:Gv.OK Tryz.prog 89:=aa (n:=10) (lf:=aI) (an (l:=[(34,jU),(95,Gy),(96,DJ)]) (u:=[]) (z:=[]) ⟨KF,Wc,Vl,trivial⟩ trivial) (aj (l:=[]) trivial) fun x=>by kernel_rfl
abbrev RP:ai:=⟨24,[(10,.cont .i),(11,.i),(12,.i)],[],[],[⟨.t 4,NX,5,iH⟩]⟩
abbrev RB:ai:=⟨24,[],[],[],[⟨.t 4,8294967648,5,iH⟩]⟩
abbrev R5:ai:=⟨24,[(3,.bool)],[],[],[⟨.t 2,8294967664,5,iH⟩]⟩
noncomputable def Ti:aG:=⟨9,86,RP,0,RB,R5,My,false,none,none,[]⟩
noncomputable def Ep:aT:=⟨[(.row .i)],[.own 5 iH,.val .bool],fun x=>f86 x.1⟩
theorem Vb:Ep.OK Tryz.prog 86:=aa (n:=10) (lf:=aI) (an (l:=[(120,wK)]) (u:=[(121,CG)]) (z:=[]) ⟨Q2,trivial⟩ ⟨U0,trivial⟩) (aj (l:=[(bG,5,Ti)]) ⟨⟨by kernel_rfl,fun z=>by kernel_rfl⟩,trivial⟩) fun x=>by kernel_rfl
noncomputable def IL:aT:=⟨[.i,.i],[.val .i],fun x=>f113 x.1 x.2.1⟩
theorem Vc:IL.OK Tryz.prog 113:=aa (n:=10) (lf:=aI) (an (l:=[]) (u:=[]) (z:=[]) trivial trivial) (aj (l:=[]) trivial) fun x=>by kernel_rfl
abbrev QH:ai:=⟨69,[(52,.cont bX),(53,.i),(54,.i)],[],[],[⟨.t 5,8294967680,3,.i⟩]⟩
abbrev Pg:ai:=⟨69,[],[],[],[⟨.t 5,8294967712,3,.i⟩]⟩
abbrev QF:ai:=⟨69,[],[],[],[]⟩
noncomputable def Qf:aG:=⟨9,114,QH,0,Pg,QF,CQ,false,none,none,[]⟩
noncomputable def Jb:aT:=⟨[s5],[.own 3 .i],fun x=>f114 x.1.1.1.1 x.1.1.1.2 x.1.1.2.1.1 x.1.1.2.1.2 x.1.1.2.2.1 x.1.1.2.2.2.1 x.1.1.2.2.2.2.1 x.1.1.2.2.2.2.2 x.1.2.1.1 x.1.2.1.2.1 x.1.2.1.2.2.1 x.1.2.1.2.2.2 x.1.2.2.1 x.1.2.2.2.1 x.1.2.2.2.2.1 x.1.2.2.2.2.2⟩
theorem U8:Jb.OK Tryz.prog 114:=aa (n:=10) (lf:=aI) (an (l:=[]) (u:=[]) (z:=[]) trivial trivial) (aj (l:=[(bG,6,Qf)]) ⟨⟨by kernel_rfl,fun z=>by kernel_rfl⟩,trivial⟩) fun x=>by kernel_rfl
abbrev uG:ai:=⟨19,[(0,.cont .i),(1,.fix (.fn (.func 152) [] [(.ptr bG 0)])),xK,sL],[xJ],[],[]⟩
abbrev xj:ai:=⟨19,[],[xJ],[],[]⟩
abbrev uE:ai:=⟨19,[Bp],[xJ],[],[]⟩
noncomputable def uK:aG:=⟨7,180,uG,0,xj,uE,nk,false,none,none,[]⟩
abbrev OE:ai:=⟨62,UK,[],[xJ],[⟨.t 8,8294967872,5,iH⟩]⟩
abbrev KQ:ai:=⟨62,UK,[],[xJ],[⟨.t 8,8294968128,5,iH⟩]⟩
abbrev Mp:ai:=⟨62,UK,[],[xJ],[⟨.t 8,8294968160,5,iH⟩]⟩
abbrev Lx:ai:=⟨62,[],[],[],[]⟩
noncomputable def KG:aG:=⟨9,115,KQ,1000000007,Mp,Lx,Er,false,(some 0),none,[]⟩
abbrev Py:ai:=⟨62,[Uf,LS],[],[],[⟨.t 8,8294967904,5,iH⟩]⟩
abbrev Oc:ai:=⟨62,[],[],[],[]⟩
noncomputable def OV:aG:=⟨9,115,OE,0,Py,Oc,Ck,false,none,none,[]⟩
noncomputable def Io:aT:=⟨[(.row .i),.i],[.own 5 iH,.val .bool],fun x=>f115 x.1 x.2.1⟩
theorem Uo:Io.OK Tryz.prog 115:=aa (n:=10) (lf:=aI) (an (l:=[(140,AG)]) (u:=[]) (z:=[]) ⟨Tw,trivial⟩ trivial) (aj (l:=[(79228390682041803040907853824,2,uK),(bG,13,KG),(bG,9,OV)]) ⟨⟨by kernel_rfl,fun z=>by kernel_rfl⟩,⟨by kernel_rfl,fun z=>by kernel_rfl⟩,⟨by kernel_rfl,fun z=>by kernel_rfl⟩,trivial⟩) fun x=>by kernel_rfl
noncomputable def I4:aT:=⟨[.i],[.val .i],fun x=>f155 x.1⟩
theorem U1:I4.OK Tryz.prog 155:=aa (n:=10) (lf:=aI) (an (l:=[]) (u:=[]) (z:=[]) trivial trivial) (aj (l:=[]) trivial) fun x=>by kernel_rfl
abbrev Q7:ai:=⟨37,[(0,.cont .i),(5,.fix (.fn (.func 154) [] [(.ptr FU 0)])),(13,.i),(14,.i)],[],[(FU,.box 3 [.i])],[⟨.t 6,NX,3,.i⟩]⟩
abbrev N5:ai:=⟨37,[],[],[],[⟨.t 6,8294967648,3,.i⟩]⟩
abbrev QE:ai:=⟨37,[(3,.bool)],[],[],[⟨.t 2,8294967664,5,iH⟩]⟩
noncomputable def Ps:aG:=⟨9,116,Q7,0,N5,QE,Kq,false,none,none,[]⟩
noncomputable def Gm:aT:=⟨[(.row .i)],[.own 5 iH,.val .bool],fun x=>f116 x.1⟩
theorem Vi:Gm.OK Tryz.prog 116:=aa (n:=10) (lf:=aI) (an (l:=[(86,Ep),(143,BB),(155,I4)]) (u:=[]) (z:=[]) ⟨Vb,Sj,U1,trivial⟩ trivial) (aj (l:=[(bG,5,Ps)]) ⟨⟨by kernel_rfl,fun z=>by kernel_rfl⟩,trivial⟩) fun x=>by kernel_rfl
abbrev Am:ai:=⟨19,[SP,(1,.fix (.fn (.func 112) [] [(.ptr bG 0)])),xK,sL],[FW],[],[]⟩
abbrev yR:ai:=⟨19,[],[FW],[],[]⟩
abbrev x5:ai:=⟨19,[Bp],[FW],[],[]⟩
noncomputable def Ai:aG:=⟨7,105,Am,0,yR,x5,o8,false,none,none,[]⟩
abbrev SJ:ai:=⟨117,[BM,(28,.cont ew),(29,.i),(30,.i)],[],[FW],[⟨.t 5,8294967680,3,.i⟩,⟨.t 6,8294967681,3,.i⟩,⟨.t 7,8294967682,3,.i⟩,⟨.t 8,8294967683,3,.i⟩]⟩
abbrev Rr:ai:=⟨117,[BM],[],[FW],[⟨.t 5,8294967712,3,.i⟩,⟨.t 6,8294967713,3,.i⟩,⟨.t 7,8294967714,3,.i⟩,⟨.t 8,8294967715,3,.i⟩]⟩
abbrev TB:ai:=⟨117,[],[],[],[]⟩
noncomputable def TP:aG:=⟨9,79,SJ,0,Rr,TB,GU,false,none,none,[]⟩
abbrev QR:ai:=⟨117,[BM,(53,.cont bX),(54,.i),(55,.i)],[],[FW],[⟨.t 5,8294968000,3,.i⟩,⟨.t 6,8294968001,3,.i⟩,⟨.t 7,8294968002,3,.i⟩,⟨.t 8,8294968003,3,.i⟩]⟩
abbrev Pb:ai:=⟨117,[BM],[],[FW],[⟨.t 5,8294968032,3,.i⟩,⟨.t 6,8294968033,3,.i⟩,⟨.t 7,8294968034,3,.i⟩,⟨.t 8,8294968035,3,.i⟩]⟩
abbrev OU:ai:=⟨117,[],[],[],[]⟩
noncomputable def OH:aG:=⟨9,79,QR,2,Pb,OU,AL,false,none,none,[]⟩
noncomputable def MF:aT:=⟨[s5],[.val gb,.val .bool],fun x=>f79 x.1.1.1.1 x.1.1.1.2 x.1.1.2.1.1 x.1.1.2.1.2 x.1.1.2.2.1 x.1.1.2.2.2.1 x.1.1.2.2.2.2.1 x.1.1.2.2.2.2.2 x.1.2.1.1 x.1.2.1.2.1 x.1.2.1.2.2.1 x.1.2.1.2.2.2 x.1.2.2.1 x.1.2.2.2.1 x.1.2.2.2.2.1 x.1.2.2.2.2.2⟩
theorem WB:MF.OK Tryz.prog 79:=aa (n:=10) (lf:=aI) (an (l:=[(78,tv),(86,Ep),(113,IL),(114,Jb),(115,Io),(116,Gm),(117,Cf)]) (u:=[]) (z:=[]) ⟨RF,Vb,Vc,U8,Uo,Vi,SU,trivial⟩ trivial) (aj (l:=[(79228315714473887485290086400,2,Ai),(bG,6,TP),(bG,11,OH)]) ⟨⟨by kernel_rfl,fun z=>by kernel_rfl⟩,⟨by kernel_rfl,fun z=>by kernel_rfl⟩,⟨by kernel_rfl,fun z=>by kernel_rfl⟩,trivial⟩) fun x=>by kernel_rfl
noncomputable def Kp:aT:=⟨[xE],[.val .i,.val .i],fun x=>f80 x.1.1 x.1.2⟩
theorem Wd:Kp.OK Tryz.prog 80:=aa (n:=10) (lf:=aI) (an (l:=[]) (u:=[]) (z:=[]) trivial trivial) (aj (l:=[]) trivial) fun x=>by kernel_rfl
noncomputable def NR:aT:=⟨[xE,.i],[.val xE,.val .i],fun x=>f82 x.1.1 x.1.2 x.2.1⟩
theorem WO:NR.OK Tryz.prog 82:=aa (n:=10) (lf:=aI) (an (l:=[(34,jU),(95,Gy),(96,DJ),(119,Cq)]) (u:=[(118,Hq)]) (z:=[4295008368]) ⟨KF,Wc,Vl,TA,trivial⟩ ⟨Lj,trivial⟩) (aj (l:=[]) trivial) fun x=>by kernel_rfl
noncomputable def Mq:aT:=⟨[xE,s5],[.val CN,.val .i],fun x=>f46 x.1.1 x.1.2 x.2.1.1.1.1 x.2.1.1.1.2 x.2.1.1.2.1.1 x.2.1.1.2.1.2 x.2.1.1.2.2.1 x.2.1.1.2.2.2.1 x.2.1.1.2.2.2.2.1 x.2.1.1.2.2.2.2.2 x.2.1.2.1.1 x.2.1.2.1.2.1 x.2.1.2.1.2.2.1 x.2.1.2.1.2.2.2 x.2.1.2.2.1 x.2.1.2.2.2.1 x.2.1.2.2.2.2.1 x.2.1.2.2.2.2.2⟩
theorem WM:Mq.OK Tryz.prog 46:=aa (n:=10) (lf:=aI) (an (l:=[(34,jU),(79,MF),(80,Kp),(82,NR),(87,Jq),(88,GD),(89,Gv)]) (u:=[]) (z:=[]) ⟨KF,WB,Wd,WO,V2,VU,V9,trivial⟩ trivial) (aj (l:=[]) trivial) fun x=>by kernel_rfl
noncomputable def M6:aT:=⟨[],[.val CN,.val s5],fun x=>f21 ⟩
theorem WZ:M6.OK Tryz.prog 21:=aa (n:=10) (lf:=aI) (an (l:=[(43,MU),(44,MZ),(45,Mr),(46,Mq)]) (u:=[]) (z:=[]) ⟨WR,Ww,WS,WM,trivial⟩ trivial) (aj (l:=[]) trivial) fun x=>by kernel_rfl
noncomputable def NK:aT:=⟨[CN],[.val .bool],fun x=>f47 x.1.1.1 x.1.1.2 x.1.2.1 x.1.2.2⟩
theorem Wv:NK.OK Tryz.prog 47:=aa (n:=10) (lf:=aI) (an (l:=[(34,jU),(80,Kp)]) (u:=[]) (z:=[]) ⟨KF,Wd,trivial⟩ trivial) (aj (l:=[]) trivial) fun x=>by kernel_rfl
abbrev Sg:ai:=⟨32,[BM,Rg,(3,.fix (.ptr NZ 0)),(12,.cont xO),(13,.i),(14,.i)],[],[SY,(fp,.box 48 [.i,.fix (.sl 8294967488 0),.i,.i]),(NZ,.box 45 [.i,.fix (.sl 8294967489 0)])],[VO,⟨.c NZ 1,8294967489,84,xO⟩]⟩
abbrev TC:ai:=⟨32,[BM,Rg,(3,.fix (.ptr NZ 0))],[],[SY,(fp,.box 48 [.i,.fix (.sl 8294967520 0),.i,.i]),(NZ,.box 45 [.i,.fix (.sl 8294967521 0)])],[VP,⟨.c NZ 1,8294967521,84,xO⟩]⟩
abbrev Su:ai:=⟨32,[],[],[],[]⟩
noncomputable def TY:aG:=⟨9,48,Sg,0,TC,Su,Nd,false,none,none,[]⟩
noncomputable def NU:aT:=⟨[CN],[.val CN],fun x=>f48 x.1.1.1 x.1.1.2 x.1.2.1 x.1.2.2⟩
theorem WQ:NU.OK Tryz.prog 48:=aa (n:=10) (lf:=aI) (an (l:=[]) (u:=[]) (z:=[4294987808,4294991920]) trivial trivial) (aj (l:=[(bG,3,TY)]) ⟨⟨by kernel_rfl,fun z=>by kernel_rfl⟩,trivial⟩) fun x=>by kernel_rfl
noncomputable def MW:aT:=⟨[As],[.val (.row .i)],fun x=>f85 x.1.1 x.1.2.1 x.1.2.2.1 x.1.2.2.2.1 x.1.2.2.2.2.1 x.1.2.2.2.2.2.1 x.1.2.2.2.2.2.2.1 x.1.2.2.2.2.2.2.2.1 x.1.2.2.2.2.2.2.2.2⟩
theorem W4:MW.OK Tryz.prog 85:=aa (n:=10) (lf:=aI) (an (l:=[]) (u:=[]) (z:=[]) trivial trivial) (aj (l:=[]) trivial) fun x=>by kernel_rfl
abbrev R7:ai:=⟨48,[(0,.i),SN,(13,.i),(14,.i)],[],[],[⟨.t 6,NX,3,.i⟩]⟩
abbrev Rx:ai:=⟨48,[],[],[],[⟨.t 6,8294967648,3,.i⟩]⟩
abbrev SE:ai:=⟨48,[(5,.bool)],[],[],[⟨.t 4,8294967664,5,iH⟩]⟩
noncomputable def SL:aG:=⟨9,49,R7,0,Rx,SE,M7,false,none,none,[]⟩
noncomputable def MC:aT:=⟨[.i,(.row As)],[.val gb,.val .bool],fun x=>f49 x.1 x.2.1⟩
theorem WT:MC.OK Tryz.prog 49:=aa (n:=10) (lf:=aI) (an (l:=[(83,Dy),(84,DO),(85,MW),(86,Ep)]) (u:=[]) (z:=[]) ⟨UE,Va,W4,Vb,trivial⟩ trivial) (aj (l:=[(bG,5,SL)]) ⟨⟨by kernel_rfl,fun z=>by kernel_rfl⟩,trivial⟩) fun x=>by kernel_rfl
noncomputable def MP:aT:=⟨[CN,(.row As)],[.val CN,.val .i],fun x=>f22 x.1.1.1 x.1.1.2 x.1.2.1 x.1.2.2 x.2.1⟩
theorem WK:MP.OK Tryz.prog 22:=aa (n:=10) (lf:=aI) (an (l:=[(47,NK),(48,NU),(49,MC),(87,Jq),(88,GD),(89,Gv)]) (u:=[]) (z:=[]) ⟨Wv,WQ,WT,V2,VU,V9,trivial⟩ trivial) (aj (l:=[]) trivial) fun x=>by kernel_rfl
abbrev Bh:ai:=⟨19,[(0,.fix (.fG Mo)),(1,.fix (.ptr Wh 0)),(3,.i)],[Oa,Qr,PF,Od,Sn],[],[]⟩
abbrev AJ:ai:=⟨19,[],[Oa,Qr,PF,Od,Sn],[],[]⟩
abbrev Az:ai:=⟨19,[],[Oa,Qr,PF,Od,(Mo,.loop 23 5 (.done .ret) [.fix .ak,.fix .ak,.fix (.ptr fp 0),.fix (.ptr 4294967328 0),.fix .ak,.fix (.lit (.tuple #[])),.fix (.lit (.tuple #[])),.fix .ak,.fix (.lit (.tuple #[])),.fix .ak,.fix .ak,.fix .ak,.fix .ak,.fix .ak,.fix .ak,.fix .ak,.fix .ak,.fix (.lit (.tuple #[])),.fix (.lit (.tuple #[])),.fix (.lit (.tuple #[])),.fix (.lit (.tuple #[])),.fix (.lit (.tuple #[])),.fix (.lit (.tuple #[])),.fix (.lit (.tuple #[])),.fix (.lit (.tuple #[])),.fix (.lit (.tuple #[])),.fix (.lit (.tuple #[])),.fix (.lit (.tuple #[])),.fix .ak])],[],[]⟩
noncomputable def Cc:aG:=⟨8,64,Bh,0,AJ,Az,qM,false,none,none,[]⟩
noncomputable def NM:aT:=⟨[xE],[.val EA,.val .bool],fun x=>f23 x.1.1 x.1.2⟩
theorem WN:NM.OK Tryz.prog 23:=aa (n:=10) (lf:=aI) (an (l:=[(34,jU),(39,EB)]) (u:=[]) (z:=[]) ⟨KF,Vs,trivial⟩ trivial) (aj (l:=[(18446832043229708288,1,Cc)]) ⟨⟨by kernel_rfl,fun z=>by kernel_rfl⟩,trivial⟩) fun x=>by kernel_rfl
noncomputable def Hf:aT:=⟨[gW],[.val .bool],fun x=>f9 x.1⟩
theorem k9:Hf.OK Tryz.prog 9:=aa (n:=10) (lf:=aI) (an (l:=[]) (u:=[]) (z:=[]) trivial trivial) (aj (l:=[]) trivial) fun x=>by kernel_rfl
abbrev SZ:ai:=⟨53,[KA,QL,(19,.i),(20,.i)],[],[Lo,Me],[⟨.c Ar 0,NX,27,ew⟩]⟩
abbrev CM:ai:=⟨86,[Pr,(3,.fix (.ptr n15 0)),(4,.fix (.fn (.func 72) [] [(.ptr n15 0)])),(16,.i),(17,.i)],[Lo,Me,OY,TD,Sf],[Ow],[]⟩
abbrev zE:ai:=⟨19,[SP,(1,.fix (.fn (.func 74) [] [(.ptr n16 0)])),xK,sL],Uw,[],[]⟩
abbrev xS:ai:=⟨19,[],Uw,[],[]⟩
abbrev yp:ai:=⟨19,[Bp],Uw,[],[]⟩
noncomputable def yl:aG:=⟨5,105,zE,0,xS,yp,oY,false,none,none,[]⟩
abbrev A7:ai:=⟨86,[Pr,(3,.fix (.ptr n15 0))],[Lo,Me,OY,TD,Sf],[Ow],[]⟩
abbrev Db:ai:=⟨86,[],VM,[],[]⟩
noncomputable def Bj:aG:=⟨8,40,CM,0,A7,Db,rX,false,none,none,[]⟩
abbrev Br:ai:=⟨86,[Pr,(55,.cont ew),(56,.i),(57,.i)],[(Ar,.box 99 [.fix (.sl 18446902549117872704 0),.fix (.mp NE)]),Me,Sr,TD,Sf],[],[⟨.c Ar 0,18446902549117872704,27,ew⟩]⟩
abbrev C9:ai:=⟨86,[],[(Ar,.box 99 [.fix (.sl 18446902549117872736 0),.fix (.mp NE)]),Me,Sr,TD,Sf],[],[⟨.c Ar 0,18446902549117872736,27,ew⟩]⟩
abbrev CV:ai:=⟨86,[],VM,[],[]⟩
noncomputable def Ch:aG:=⟨8,40,Br,2,C9,CV,qw,false,none,none,[(Ar,0,18446902549117872728)]⟩
abbrev Qc:ai:=⟨53,[KA,QL,(19,.i),(20,.i),(38,.cont As),(39,.i),(40,.i)],[],[(Ar,.box 99 [.fix (.sl 8294968000 0),.fix (.mp NE)]),Me],[⟨.c Ar 0,8294968000,27,ew⟩]⟩
abbrev PE:ai:=⟨53,[KA,QL,(19,.i),(20,.i)],[],[(Ar,.box 99 [.fix (.sl 8294968032 0),.fix (.mp NE)]),Me],[⟨.c Ar 0,8294968032,27,ew⟩]⟩
abbrev Qi:ai:=⟨53,[],[],[],[]⟩
noncomputable def QA:aG:=⟨9,19,Qc,2,PE,Qi,G6,false,none,none,[]⟩
abbrev TE:ai:=⟨53,[KA],[],[(Ar,.box 99 [.fix (.sl 8294967648 0),.fix (.mp NE)]),Me],[⟨.c Ar 0,8294967648,27,ew⟩]⟩
abbrev Te:ai:=⟨53,[],[],[],[]⟩
noncomputable def TX:aG:=⟨9,19,SZ,0,TE,Te,ME,false,none,none,[]⟩
noncomputable def Nb:aT:=⟨[xE],[.val gW],fun x=>f19 x.1.1 x.1.2⟩
theorem Wz:Nb.OK Tryz.prog 19:=aa (n:=10) (lf:=aI) (an (l:=[(34,jU),(39,EB),(41,NH),(75,MV)]) (u:=[]) (z:=[]) ⟨KF,Vs,WE,WA,trivial⟩ trivial) (aj (l:=[(n17,2,yl),(n15,3,Bj),(n15,9,Ch),(bG,11,QA),(bG,5,TX)]) ⟨⟨by kernel_rfl,fun z=>by kernel_rfl⟩,⟨by kernel_rfl,fun z=>by kernel_rfl⟩,⟨by kernel_rfl,fun z=>by kernel_rfl⟩,⟨by kernel_rfl,fun z=>by kernel_rfl⟩,⟨by kernel_rfl,fun z=>by kernel_rfl⟩,trivial⟩) fun x=>by kernel_rfl
noncomputable def Iz:aT:=⟨[],[.val .bool],fun x=>f8 ⟩
theorem k8:Iz.OK Tryz.prog 8:=aa (n:=10) (lf:=aI) (an (l:=[(10,HO),(11,D5),(12,HG),(14,Dw),(19,Nb),(21,M6),(22,MP),(23,NM)]) (u:=[]) (z:=[4294975552]) ⟨Wk,Up,V6,VE,Wz,WZ,WK,WN,trivial⟩ trivial) (aj (l:=[]) trivial) fun x=>by kernel_rfl
end Go.Proofs.Zz
