/- EqRn. -/
import Derived.Test.YtlhbhlngoecdcaaGreatDoorPUn
import Derived.Test.YtlhbhlngoecdcaaGreatDoorEQ
import Derived.Test.YtlhbhlngoecdcaaGreatDoorFD
namespace Go.Proofs.Zz
open Go Go.Sy
set_option linter.unusedVariables false
set_option maxHeartbeats 0
set_option maxRecDepth 100000
abbrev n92:Nat:=18446796923282128896
abbrev n93:Nat:=18446849768559738880
abbrev n94:Nat:=18446849768559738896
abbrev bZ:Nat:=4294967296
abbrev gz:Nat:=4294988496
abbrev nF:Nat:=4294967312
abbrev AN:Nat:=4294971424
abbrev AX:Nat:=4294971392
abbrev bu:Ty:=.pair .i (.pair .i .i)
abbrev yA:Ty:=.pair (.pair (.pair .i .i) (.pair (.pair .i .i) (.pair .i bu))) (.pair (.pair .i (.pair .i (.pair .i .bool))) (.pair .i (.pair (.row bu) (.pair (.row (.pair .i (.pair .i bu))) (.row bu)))))
abbrev WK:Ty:=.pair .i (.pair .i (.pair .i (.pair .i (.pair .i (.pair .i (.pair .i (.pair .i .bool)))))))
abbrev dh:Ty:=.int .u8
abbrev Ww:Nat×SK:=(9,.int .u64)
abbrev Qm:Nat×SK:=(2,.fix (.ptr bZ 0))
abbrev VG:Nat×SK:=(4,.fix (.ptr nF 0))
abbrev VU:Nat×SK:=(6,.fix (.ptr AN 0))
abbrev XO:Nat×SK:=(1,.fix (.ptr bZ 0))
abbrev XZ:Nat×SK:=(8,.fix (.ptr gz 0))
abbrev aei:Nat×SK:=(3,.fix (.ptr bZ 0))
abbrev D3:Nat×OS:=(bZ,.box 32 [.i,.i,.i,.i,.i,.i,.i,.i,.i,.i,.i,.bool,.i,.cont bu,.cont (.pair .i (.pair .i bu)),.cont bu])
abbrev QN:Nat×OS:=(bZ,.box 3 [.i])
abbrev aaH:Nat×OS:=(4294975488,.box 4 [.bool])
abbrev abl:Nat×OS:=(n92,.box 51 [.cont dh])
abbrev ac3:Nat×OS:=(4294991872,.loop 41 6 .ready [.fix .aq,.fix .aq,.fix .aq,.fix .aq,.fix (.ptr AX 0),.fix (.ptr 4294975488 0),.fix (.lit (.tuple #[])),.fix (.lit (.tuple #[])),.fix .aq,.fix .aq,.fix (.lit (.tuple #[])),.fix (.lit (.tuple #[])),.fix (.lit (.tuple #[])),.fix (.lit (.tuple #[])),.fix (.lit (.tuple #[])),.fix (.lit (.tuple #[])),.fix (.lit (.tuple #[])),.fix (.lit (.tuple #[])),.fix (.lit (.tuple #[])),.fix (.lit (.tuple #[])),.fix (.lit (.tuple #[])),.fix (.lit (.tuple #[])),.fix (.lit (.tuple #[])),.fix .aq,.fix .aq,.fix .aq])
abbrev ab4:Nat×OS:=(4294971472,.box 85 [.cont dh,.cont dh,.cont dh,.cont dh,.cont dh])
abbrev acA:Nat×OS:=(4295000064,.loop 15 8 .ready [.fix .aq,.fix .aq,.fix .aq,.fix .aq,.fix .aq,.fix .aq,.fix .aq,.fix .aq,.fix (.ptr gz 0),.fix (.lit (.tuple #[])),.fix .aq,.fix .aq,.fix .aq,.fix .aq,.fix .aq,.fix .aq,.fix .aq,.fix .aq,.fix .aq,.fix .aq,.fix .aq,.fix .aq,.fix .aq,.fix .aq,.fix .aq,.fix .aq,.fix .aq,.fix .aq,.fix .aq,.fix .aq,.fix .aq,.fix .aq,.fix .aq,.fix .aq,.fix .aq,.fix .aq,.fix .aq,.fix .aq,.fix .aq,.fix .aq,.fix .aq,.fix .aq,.fix .aq,.fix .aq,.fix .aq,.fix .aq,.fix .aq,.fix .aq,.fix .aq,.fix .aq,.fix .aq,.fix .aq,.fix .aq,.fix .aq,.fix .aq,.fix .aq,.fix .aq,.fix .aq,.fix .aq,.fix .aq,.fix .aq,.fix .aq,.fix .aq,.fix .aq,.fix .aq,.fix .aq,.fix .aq,.fix .aq,.fix .aq,.fix .aq,.fix .aq,.fix .aq,.fix .aq,.fix .aq,.fix .aq,.fix .aq,.fix .aq,.fix .aq,.fix .aq,.fix .aq,.fix .aq,.fix .aq,.fix .aq,.fix .aq,.fix .aq,.fix .aq,.fix .aq,.fix .aq,.fix .aq,.fix .aq,.fix .aq,.fix .aq,.fix .aq,.fix .aq,.fix .aq,.fix .aq,.fix .aq,.fix .aq,.fix .aq,.fix .aq,.fix .aq,.fix .aq,.fix .aq,.fix .aq,.fix .aq,.fix .aq,.fix .aq,.fix (.lit (.tuple #[])),.fix (.lit (.tuple #[])),.fix (.lit (.tuple #[])),.fix (.lit (.tuple #[])),.fix (.lit (.tuple #[])),.fix (.lit (.tuple #[])),.fix (.lit (.tuple #[])),.fix (.lit (.tuple #[])),.fix (.lit (.tuple #[])),.fix (.lit (.tuple #[])),.fix (.lit (.tuple #[])),.fix (.lit (.tuple #[])),.fix (.lit (.tuple #[])),.fix (.lit (.tuple #[])),.fix (.lit (.tuple #[])),.fix (.lit (.tuple #[])),.fix .aq,.fix .aq,.fix .aq,.fix .aq,.fix .aq,.fix .aq,.fix .aq,.fix .aq,.fix .aq,.fix .aq,.fix .aq,.fix .aq,.fix .aq,.fix .aq,.fix .aq,.fix .aq,.fix .aq,.fix .aq,.fix .aq,.fix .aq,.fix .aq,.fix .aq,.fix .aq,.fix .aq,.fix .aq,.fix .aq,.fix .aq,.fix .aq,.fix .aq,.fix .aq,.fix .aq,.fix .aq,.fix .aq,.fix .aq,.fix .aq,.fix .aq,.fix .aq,.fix .aq,.fix .aq,.fix .aq,.fix .aq,.fix .aq,.fix .aq,.fix .aq,.fix .aq,.fix .aq,.fix .aq,.fix .aq,.fix .aq,.fix .aq,.fix .aq,.fix .aq,.fix .aq,.fix .aq,.fix .aq,.fix .aq,.fix .aq,.fix .aq,.fix .aq,.fix .aq,.fix .aq,.fix .aq,.fix .aq,.fix .aq,.fix .aq,.fix .aq,.fix .aq,.fix .aq,.fix .aq,.fix .aq,.fix .aq,.fix .aq,.fix .aq,.fix .aq,.fix .aq,.fix .aq,.fix .aq,.fix .aq,.fix .aq,.fix .aq,.fix .aq,.fix .aq,.fix .aq,.fix .aq,.fix .aq,.fix .aq,.fix .aq,.fix .aq,.fix .aq,.fix .aq,.fix .aq,.fix .aq,.fix .aq,.fix .aq,.fix .aq,.fix .aq,.fix .aq,.fix .aq,.fix .aq,.fix .aq,.fix .aq,.fix .aq,.fix .aq,.fix .aq,.fix .aq,.fix .aq,.fix .aq,.fix .aq,.fix .aq,.fix .aq,.fix .aq,.fix .aq,.fix .aq,.fix .aq])
abbrev acf:Nat×OS:=(AN,.box 32 [.i,.i,.i,.i,.i,.i,.i,.i,.i,.i,.i,.bool,.i,.cont bu,.cont (.pair .i (.pair .i bu)),.cont bu])
abbrev aaI:List (Nat×SK):=[aei,Ww,(10,.i),(27,.cont .i),(28,.i),(29,.i)]
abbrev Z7:List (Nat×SK):=[(0,.cont dh),(2,.i),Ww,(10,.i),(17,.i),(18,.i)]
noncomputable def Dm:bA:=⟨[yA],[.val yA],fun x=>dw x.1.1.1.1 x.1.1.1.2 x.1.1.2.1.1 x.1.1.2.1.2 x.1.1.2.2.1 x.1.1.2.2.2.1 x.1.1.2.2.2.2.1 x.1.1.2.2.2.2.2 x.1.2.1.1 x.1.2.1.2.1 x.1.2.1.2.2.1 x.1.2.1.2.2.2 x.1.2.2.1 x.1.2.2.2.1 x.1.2.2.2.2.1 x.1.2.2.2.2.2⟩
theorem Zo:Dm.OK Tryz.prog 25:=ah (n:=10) (lf:=aC) (ak (l:=[(78,oU),(79,iO),(80,j7)]) (u:=[]) ⟨xw,om,tG,trivial⟩ trivial) (ai (l:=[]) trivial) fun x=>by kernel_rfl
abbrev Xt:aa:=⟨45,[(1,.i),VG,VU,(28,.i),(29,.i)],[],[(nF,.box 32 [.i,.i,.i,.i,.i,.i,.i,.i,.i,.i,.i,.bool,.i,.fix (.sl 8294967680 0),.fix (.sl 8294967681 0),.fix (.sl 8294967682 0)]),(AN,.box 32 [.i,.i,.i,.i,.i,.i,.i,.i,.i,.i,.i,.bool,.i,.fix (.sl 8294967683 0),.fix (.sl 8294967684 0),.fix (.sl 8294967685 0)])],[⟨.c nF 13,8294967680,99,bu⟩,⟨.c nF 14,8294967681,56,(.pair .i (.pair .i bu))⟩,⟨.c nF 15,8294967682,84,bu⟩,⟨.c AN 13,8294967683,99,bu⟩,⟨.c AN 14,8294967684,56,(.pair .i (.pair .i bu))⟩,⟨.c AN 15,8294967685,84,bu⟩]⟩
abbrev Wk:aa:=⟨45,[(1,.i),VG,VU],[],[(nF,.box 32 [.i,.i,.i,.i,.i,.i,.i,.i,.i,.i,.i,.bool,.i,.fix (.sl 8294967712 0),.fix (.sl 8294967713 0),.fix (.sl 8294967714 0)]),(AN,.box 32 [.i,.i,.i,.i,.i,.i,.i,.i,.i,.i,.i,.bool,.i,.fix (.sl 8294967715 0),.fix (.sl 8294967716 0),.fix (.sl 8294967717 0)])],[⟨.c nF 13,8294967712,99,bu⟩,⟨.c nF 14,8294967713,56,(.pair .i (.pair .i bu))⟩,⟨.c nF 15,8294967714,84,bu⟩,⟨.c AN 13,8294967715,99,bu⟩,⟨.c AN 14,8294967716,56,(.pair .i (.pair .i bu))⟩,⟨.c AN 15,8294967717,84,bu⟩]⟩
abbrev Wn:aa:=⟨45,[],[],[],[]⟩
noncomputable def Xx:aL:=⟨9,8,Xt,0,Wk,Wn,pR,false,none,none,[]⟩
noncomputable def x4:bA:=⟨[yA,.i],[.val yA,.val .bool],fun x=>wJ x.1.1.1.1 x.1.1.1.2 x.1.1.2.1.1 x.1.1.2.1.2 x.1.1.2.2.1 x.1.1.2.2.2.1 x.1.1.2.2.2.2.1 x.1.1.2.2.2.2.2 x.1.2.1.1 x.1.2.1.2.1 x.1.2.1.2.2.1 x.1.2.1.2.2.2 x.1.2.2.1 x.1.2.2.2.1 x.1.2.2.2.2.1 x.1.2.2.2.2.2 x.2.1⟩
theorem UC:x4.OK Tryz.prog 8:=ah (n:=10) (lf:=aC) (ak (l:=[(6,vM),(26,SP),(78,oU),(79,iO),(80,j7)]) (u:=[]) ⟨k15,k70,xw,om,tG,trivial⟩ trivial) (ai (l:=[(bZ,6,Xx)]) ⟨⟨by kernel_rfl,fun z=>by kernel_rfl⟩,trivial⟩) fun x=>by kernel_rfl
noncomputable def MJ:bA:=⟨[.i,.i,.i],[.val .bool],fun x=>br x.1 x.2.1 x.2.2.1⟩
theorem acW:MJ.OK Tryz.prog 86:=ah (n:=10) (lf:=aC) (ak (l:=[]) (u:=[]) trivial trivial) (ai (l:=[]) trivial) fun x=>by kernel_rfl
noncomputable def N4:bA:=⟨[WK],[.val .bool],fun x=>Nf x.1.1 x.1.2.1 x.1.2.2.1 x.1.2.2.2.1 x.1.2.2.2.2.1 x.1.2.2.2.2.2.1 x.1.2.2.2.2.2.2.1 x.1.2.2.2.2.2.2.2.1 x.1.2.2.2.2.2.2.2.2⟩
theorem acz:N4.OK Tryz.prog 30:=ah (n:=10) (lf:=aC) (ak (l:=[(18,NV),(86,MJ)]) (u:=[]) ⟨k28,acW,trivial⟩ trivial) (ai (l:=[]) trivial) fun x=>by kernel_rfl
noncomputable def Cu:bA:=⟨[yA,WK],[.val yA,.val .i],fun x=>Bk x.1.1.1.1 x.1.1.1.2 x.1.1.2.1.1 x.1.1.2.1.2 x.1.1.2.2.1 x.1.1.2.2.2.1 x.1.1.2.2.2.2.1 x.1.1.2.2.2.2.2 x.1.2.1.1 x.1.2.1.2.1 x.1.2.1.2.2.1 x.1.2.1.2.2.2 x.1.2.2.1 x.1.2.2.2.1 x.1.2.2.2.2.1 x.1.2.2.2.2.2 x.2.1.1 x.2.1.2.1 x.2.1.2.2.1 x.2.1.2.2.2.1 x.2.1.2.2.2.2.1 x.2.1.2.2.2.2.2.1 x.2.1.2.2.2.2.2.2.1 x.2.1.2.2.2.2.2.2.2.1 x.2.1.2.2.2.2.2.2.2.2⟩
theorem YL:Cu.OK Tryz.prog 13:=ah (n:=10) (lf:=aC) (ak (l:=[(6,vM),(8,x4),(25,Dm),(30,N4),(47,yI),(65,Bj),(117,Tn),(125,Tg),(126,Rq),(127,TR),(128,Rh),(129,SX),(131,UL),(132,Mn)]) (u:=[]) ⟨k15,UC,Zo,acz,k49,k22,k63,k72,k73,k74,k75,k76,k24,acV,trivial⟩ trivial) (ai (l:=[]) trivial) fun x=>by kernel_rfl
noncomputable def Oe:bA:=⟨[.i,.i],[.val .i],fun x=>RC x.1 x.2.1⟩
theorem ab6:Oe.OK Tryz.prog 34:=ah (n:=10) (lf:=aC) (ak (l:=[]) (u:=[]) trivial trivial) (ai (l:=[]) trivial) fun x=>by kernel_rfl
noncomputable def xS:bA:=⟨[.i],[.val .bool],fun x=>HU x.1⟩
theorem U8:xS.OK Tryz.prog 91:=ah (n:=10) (lf:=aC) (ak (l:=[]) (u:=[]) trivial trivial) (ai (l:=[]) trivial) fun x=>by kernel_rfl
abbrev CL:List Ty:=[.i]
noncomputable abbrev Yx:List (Nat×bA):=[]
noncomputable abbrev ZA:List (Nat×dA):=[]
noncomputable abbrev Zc:Cons:=SB Yx ZA
abbrev VA:aa:=⟨20,[(1,.i)],[],[],[⟨.t 0,8294967360,5,dh⟩]⟩
abbrev VV:aa:=⟨20,[(1,.i)],[],[],[⟨.t 0,8294967392,5,dh⟩]⟩
abbrev VZ:aa:=⟨20,[],[],[],[]⟩
noncomputable def Ol:aL:=⟨9,92,VA,0,VV,VZ,Np,false,none,none,[]⟩
noncomputable abbrev U4:List (Nat×Nat×aL):=[(bZ,1,Ol)]
noncomputable def ES:dA:=⟨5,.int .u8,CL,false,fun zs x=>ZB zs x.1⟩
theorem Vv:Round Tryz.prog Zc (tE U4) aC bZ 1 Ol:=⟨by kernel_rfl,fun z=>by kernel_rfl⟩
theorem adr (zs:List (Ty.T dh))(x:fG CL):Nv Tryz.prog Zc (tE U4) aC 9 92 5 dh CL zs x=SC zs x.1:=by kernel_rfl
theorem aaO [ar][RI Tryz.prog](h:I1 Tryz.prog Yx)(h':U2 Tryz.prog ZA):ES.OK Tryz.prog 92:=E3 (e:=.int .u8) (f:=fun (zs:List (Ty.T dh)) (x:fG CL)=>SC zs x.1) (ak h h') (ai (l:=U4) ⟨Vv,trivial⟩) rfl adr
theorem abS:ES.OK Tryz.prog 92:=aaO trivial trivial
abbrev Ye:aa:=⟨24,[(10,.cont .i),(11,.i),(12,.i)],[],[],[⟨.t 4,8294967616,5,dh⟩]⟩
abbrev V3:aa:=⟨24,[],[],[],[⟨.t 4,8294967648,5,dh⟩]⟩
abbrev WC:aa:=⟨24,[(3,.bool)],[],[],[⟨.t 2,8294967664,5,dh⟩]⟩
noncomputable def WE:aL:=⟨9,35,Ye,0,V3,WC,MK,false,none,none,[]⟩
noncomputable def EO:bA:=⟨[(.row .i)],[.own 5 dh,.val .bool],fun x=>Ny x.1⟩
theorem ZI:EO.OK Tryz.prog 35:=ah (n:=10) (lf:=aC) (ak (l:=[(91,xS)]) (u:=[(92,ES)]) ⟨U8,trivial⟩ ⟨abS,trivial⟩) (ai (l:=[(bZ,5,WE)]) ⟨⟨by kernel_rfl,fun z=>by kernel_rfl⟩,trivial⟩) fun x=>by kernel_rfl
abbrev VB:aa:=⟨69,[(52,.cont bu),(53,.i),(54,.i)],[],[],[⟨.t 5,8294967680,3,.i⟩]⟩
abbrev WR:aa:=⟨69,[],[],[],[⟨.t 5,8294967712,3,.i⟩]⟩
abbrev VS:aa:=⟨69,[],[],[],[]⟩
noncomputable def XB:aL:=⟨9,36,VB,0,WR,VS,CS,false,none,none,[]⟩
noncomputable def MD:bA:=⟨[yA],[.own 3 .i],fun x=>TG x.1.1.1.1 x.1.1.1.2 x.1.1.2.1.1 x.1.1.2.1.2 x.1.1.2.2.1 x.1.1.2.2.2.1 x.1.1.2.2.2.2.1 x.1.1.2.2.2.2.2 x.1.2.1.1 x.1.2.1.2.1 x.1.2.1.2.2.1 x.1.2.1.2.2.2 x.1.2.2.1 x.1.2.2.2.1 x.1.2.2.2.2.1 x.1.2.2.2.2.2⟩
theorem ab5:MD.OK Tryz.prog 36:=ah (n:=10) (lf:=aC) (ak (l:=[]) (u:=[]) trivial trivial) (ai (l:=[(bZ,6,XB)]) ⟨⟨by kernel_rfl,fun z=>by kernel_rfl⟩,trivial⟩) fun x=>by kernel_rfl
noncomputable def DZ:bA:=⟨[.i,.i],[.val .i],fun x=>UJ x.1 x.2.1⟩
theorem Yt:DZ.OK Tryz.prog 93:=ah (n:=10) (lf:=aC) (ak (l:=[]) (u:=[]) trivial trivial) (ai (l:=[]) trivial) fun x=>by kernel_rfl
abbrev AF:aa:=⟨19,[(0,.cont .i),(1,.fix (.fn (.func 94) [] [(.ptr bZ 0)])),(7,.i),(8,.i)],[QN],[],[]⟩
abbrev AW:aa:=⟨19,[],[QN],[],[]⟩
abbrev AO:aa:=⟨19,[(4,.i)],[QN],[],[]⟩
noncomputable def AG:aL:=⟨7,133,AF,0,AW,AO,qy,false,none,none,[]⟩
abbrev V6:aa:=⟨62,aaI,[],[QN],[⟨.t 8,8294967872,5,dh⟩]⟩
abbrev Tf:aa:=⟨62,aaI,[],[QN],[⟨.t 8,8294968128,5,dh⟩]⟩
abbrev TF:aa:=⟨62,aaI,[],[QN],[⟨.t 8,8294968160,5,dh⟩]⟩
abbrev Un:aa:=⟨62,[],[],[],[]⟩
noncomputable def Vc:aL:=⟨9,37,Tf,1000000007,TF,Un,Ir,false,(some 0),none,[]⟩
abbrev Ya:aa:=⟨62,[Ww,(10,.i)],[],[],[⟨.t 8,8294967904,5,dh⟩]⟩
abbrev Wh:aa:=⟨62,[],[],[],[]⟩
noncomputable def W4:aL:=⟨9,37,V6,0,Ya,Wh,CE,false,none,none,[]⟩
noncomputable def NG:bA:=⟨[(.row .i),.i],[.own 5 dh,.val .bool],fun x=>Jr x.1 x.2.1⟩
theorem adb:NG.OK Tryz.prog 37:=ah (n:=10) (lf:=aC) (ak (l:=[(93,DZ)]) (u:=[]) ⟨Yt,trivial⟩ trivial) (ai (l:=[(79228390682041803040907853824,2,AG),(bZ,13,Vc),(bZ,9,W4)]) ⟨⟨by kernel_rfl,fun z=>by kernel_rfl⟩,⟨by kernel_rfl,fun z=>by kernel_rfl⟩,⟨by kernel_rfl,fun z=>by kernel_rfl⟩,trivial⟩) fun x=>by kernel_rfl
noncomputable def M5:bA:=⟨[.i],[.val .i],fun x=>ZD x.1⟩
theorem ac0:M5.OK Tryz.prog 97:=ah (n:=10) (lf:=aC) (ak (l:=[]) (u:=[]) trivial trivial) (ai (l:=[]) trivial) fun x=>by kernel_rfl
noncomputable def DM:bA:=⟨[.i],[.val .bool],fun x=>Rw x.1⟩
theorem Y7:DM.OK Tryz.prog 98:=ah (n:=10) (lf:=aC) (ak (l:=[]) (u:=[]) trivial trivial) (ai (l:=[]) trivial) fun x=>by kernel_rfl
abbrev V1:aa:=⟨37,[(0,.cont .i),(5,.fix (.fn (.func 96) [] [(.ptr AX 0)])),(13,.i),(14,.i)],[],[(AX,.box 3 [.i])],[⟨.t 6,8294967616,3,.i⟩]⟩
abbrev Xb:aa:=⟨37,[],[],[],[⟨.t 6,8294967648,3,.i⟩]⟩
abbrev V5:aa:=⟨37,[(3,.bool)],[],[],[⟨.t 2,8294967664,5,dh⟩]⟩
noncomputable def W6:aL:=⟨9,38,V1,0,Xb,V5,N6,false,none,none,[]⟩
noncomputable def Oj:bA:=⟨[(.row .i)],[.own 5 dh,.val .bool],fun x=>G4 x.1⟩
theorem abV:Oj.OK Tryz.prog 38:=ah (n:=10) (lf:=aC) (ak (l:=[(35,EO),(97,M5),(98,DM)]) (u:=[]) ⟨ZI,ac0,Y7,trivial⟩ trivial) (ai (l:=[(bZ,5,W6)]) ⟨⟨by kernel_rfl,fun z=>by kernel_rfl⟩,trivial⟩) fun x=>by kernel_rfl
abbrev zl:aa:=⟨20,[(1,.i)],[],[],[⟨.t 0,18446796927282128960,5,dh⟩]⟩
abbrev yj:aa:=⟨20,[(1,.i)],[],[],[⟨.t 0,18446796927282128992,5,dh⟩]⟩
abbrev Aj:aa:=⟨20,[],[],[],[]⟩
noncomputable def Aw:aL:=⟨8,92,zl,0,yj,Aj,nA,false,none,none,[]⟩
noncomputable def MO:bA:=⟨[.i],[.val (.row dh)],fun x=>mY x.1⟩
theorem adq:MO.OK Tryz.prog 39:=ah (n:=10) (lf:=aC) (ak (l:=[(91,xS)]) (u:=[]) ⟨U8,trivial⟩ trivial) (ai (l:=[(n92,1,Aw)]) ⟨⟨by kernel_rfl,fun z=>by kernel_rfl⟩,trivial⟩) fun x=>by kernel_rfl
abbrev EK:aa:=⟨19,[(0,.cont (.pair .i (.pair .i bu))),(1,.fix (.fn (.func 32) [] [(.ptr bZ 0)])),(7,.i),(8,.i)],[D3],[],[]⟩
abbrev Fg:aa:=⟨19,[],[D3],[],[]⟩
abbrev EU:aa:=⟨19,[(4,.i)],[D3],[],[]⟩
noncomputable def DI:aL:=⟨7,90,EK,0,Fg,EU,sG,false,none,none,[]⟩
abbrev Wp:aa:=⟨117,[XO,(28,.cont (.pair .i (.pair .i bu))),(29,.i),(30,.i)],[],[D3],[⟨.t 5,8294967680,3,.i⟩,⟨.t 6,8294967681,3,.i⟩,⟨.t 7,8294967682,3,.i⟩,⟨.t 8,8294967683,3,.i⟩]⟩
abbrev Xs:aa:=⟨117,[XO],[],[D3],[⟨.t 5,8294967712,3,.i⟩,⟨.t 6,8294967713,3,.i⟩,⟨.t 7,8294967714,3,.i⟩,⟨.t 8,8294967715,3,.i⟩]⟩
abbrev Xc:aa:=⟨117,[],[],[],[]⟩
noncomputable def Wl:aL:=⟨9,14,Wp,0,Xs,Xc,Dr,false,none,none,[]⟩
abbrev Q6:aa:=⟨117,[XO,(53,.cont bu),(54,.i),(55,.i)],[],[D3],[⟨.t 5,8294968000,3,.i⟩,⟨.t 6,8294968001,3,.i⟩,⟨.t 7,8294968002,3,.i⟩,⟨.t 8,8294968003,3,.i⟩]⟩
abbrev TJ:aa:=⟨117,[XO],[],[D3],[⟨.t 5,8294968032,3,.i⟩,⟨.t 6,8294968033,3,.i⟩,⟨.t 7,8294968034,3,.i⟩,⟨.t 8,8294968035,3,.i⟩]⟩
abbrev Uz:aa:=⟨117,[],[],[],[]⟩
noncomputable def U6:aL:=⟨9,14,Q6,2,TJ,Uz,zU,false,none,none,[]⟩
noncomputable def Ng:bA:=⟨[yA],[.val (.row dh),.val .bool],fun x=>Zy x.1.1.1.1 x.1.1.1.2 x.1.1.2.1.1 x.1.1.2.1.2 x.1.1.2.2.1 x.1.1.2.2.2.1 x.1.1.2.2.2.2.1 x.1.1.2.2.2.2.2 x.1.2.1.1 x.1.2.1.2.1 x.1.2.1.2.2.1 x.1.2.1.2.2.2 x.1.2.2.1 x.1.2.2.2.1 x.1.2.2.2.2.1 x.1.2.2.2.2.2⟩
theorem adi:Ng.OK Tryz.prog 14:=ah (n:=10) (lf:=aC) (ak (l:=[(6,vM),(34,Oe),(35,EO),(36,MD),(37,NG),(38,Oj),(39,MO)]) (u:=[]) ⟨k15,ab6,ZI,ab5,adb,abV,adq,trivial⟩ trivial) (ai (l:=[(79228315714473887485290086400,2,DI),(bZ,6,Wl),(bZ,11,U6)]) ⟨⟨by kernel_rfl,fun z=>by kernel_rfl⟩,⟨by kernel_rfl,fun z=>by kernel_rfl⟩,⟨by kernel_rfl,fun z=>by kernel_rfl⟩,trivial⟩) fun x=>by kernel_rfl
abbrev WY:aa:=⟨63,[(1,.i),(6,.i),(29,.cont dh),(30,.i),(31,.i)],[],[],[]⟩
abbrev Xz:aa:=⟨63,[],[],[],[]⟩
abbrev Wx:aa:=⟨63,[(4,.i),(5,.i)],[],[],[]⟩
noncomputable def XV:aL:=⟨9,135,WY,0,Xz,Wx,Nw,false,none,none,[]⟩
noncomputable def Cx:bA:=⟨[(.row dh),.i],[.val .i,.val .i],fun x=>zP x.1 x.2.1⟩
theorem Yp:Cx.OK Tryz.prog 135:=ah (n:=10) (lf:=aC) (ak (l:=[(91,xS)]) (u:=[]) ⟨U8,trivial⟩ trivial) (ai (l:=[(bZ,5,XV)]) ⟨⟨by kernel_rfl,fun z=>by kernel_rfl⟩,trivial⟩) fun x=>by kernel_rfl
noncomputable def ND:bA:=⟨[(.row dh)],[.val (.pair (.row dh) (.pair (.row dh) (.pair (.row dh) (.pair (.row dh) (.row dh))))),.val .bool],fun x=>ZG x.1⟩
theorem ack:ND.OK Tryz.prog 40:=ah (n:=10) (lf:=aC) (ak (l:=[(135,Cx)]) (u:=[]) ⟨Yp,trivial⟩ trivial) (ai (l:=[]) trivial) fun x=>by kernel_rfl
abbrev yy:aa:=⟨26,[(0,.fix (.jZ 4294991872)),(1,.fix (.ptr n92 0)),(3,.i)],[(AX,.box 80 [.fix (.sl 18446849639415752768 0)]),aaH,abl,ac3],[],[⟨.c AX 0,18446849639415752768,3,.i⟩]⟩
abbrev zK:aa:=⟨26,[],[(AX,.box 80 [.fix (.sl 18446849639415752800 0)]),aaH,abl,ac3],[],[⟨.c AX 0,18446849639415752800,3,.i⟩]⟩
abbrev yW:aa:=⟨26,[],[(AX,.box 80 [.fix (.sl 18446849639415752816 0)]),aaH,abl,(4294991872,.loop 41 6 (.done (.exit 0)) [.fix .aq,.fix .aq,.fix .aq,.fix .aq,.fix (.ptr AX 0),.fix (.ptr 4294975488 0),.fix (.lit (.tuple #[])),.fix (.lit (.tuple #[])),.fix .aq,.fix .aq,.fix (.lit (.tuple #[])),.fix (.lit (.tuple #[])),.fix (.lit (.tuple #[])),.fix (.lit (.tuple #[])),.fix (.lit (.tuple #[])),.fix (.lit (.tuple #[])),.fix (.lit (.tuple #[])),.fix (.lit (.tuple #[])),.fix (.lit (.tuple #[])),.fix (.lit (.tuple #[])),.fix (.lit (.tuple #[])),.fix (.lit (.tuple #[])),.fix (.lit (.tuple #[])),.fix .aq,.fix .aq,.fix .aq])],[],[⟨.c AX 0,18446849639415752816,3,.i⟩]⟩
noncomputable def zo:aL:=⟨8,136,yy,0,zK,yW,pE,false,none,none,[]⟩
noncomputable def Dy:bA:=⟨[(.row dh)],[.val (.row .i),.val .bool],fun x=>Rc x.1⟩
theorem ZN:Dy.OK Tryz.prog 41:=ah (n:=10) (lf:=aC) (ak (l:=[(135,Cx)]) (u:=[]) ⟨Yp,trivial⟩ trivial) (ai (l:=[(18446849635415752704,1,zo)]) ⟨⟨by kernel_rfl,fun z=>by kernel_rfl⟩,trivial⟩) fun x=>by kernel_rfl
abbrev Wa:aa:=⟨54,Z7,[],[],[⟨.t 8,8294967744,3,.i⟩]⟩
abbrev Wj:aa:=⟨54,Z7,[],[],[⟨.t 8,8294967808,3,.i⟩]⟩
abbrev Xh:aa:=⟨54,Z7,[],[],[⟨.t 8,8294967840,3,.i⟩]⟩
abbrev XS:aa:=⟨54,[],[],[],[]⟩
noncomputable def WW:aL:=⟨9,43,Wj,1000000007,Xh,XS,OM,false,(some 0),none,[]⟩
abbrev WZ:aa:=⟨54,[Ww],[],[],[⟨.t 8,8294967776,3,.i⟩]⟩
abbrev XK:aa:=⟨54,[],[],[],[]⟩
noncomputable def WQ:aL:=⟨9,43,Wa,0,WZ,XK,NF,false,none,none,[]⟩
noncomputable def Nt:bA:=⟨[(.row dh),.i,.i],[.val (.row .i),.val .bool],fun x=>UT x.1 x.2.1 x.2.2.1⟩
theorem acu:Nt.OK Tryz.prog 43:=ah (n:=10) (lf:=aC) (ak (l:=[(93,DZ)]) (u:=[]) ⟨Yt,trivial⟩ trivial) (ai (l:=[(bZ,8,WW),(bZ,7,WQ)]) ⟨⟨by kernel_rfl,fun z=>by kernel_rfl⟩,⟨by kernel_rfl,fun z=>by kernel_rfl⟩,trivial⟩) fun x=>by kernel_rfl
noncomputable def N2:bA:=⟨[.i],[.val .i],fun x=>Y9 x.1⟩
theorem acE:N2.OK Tryz.prog 103:=ah (n:=10) (lf:=aC) (ak (l:=[]) (u:=[]) trivial trivial) (ai (l:=[]) trivial) fun x=>by kernel_rfl
abbrev W5:aa:=⟨36,[(4,.cont .i),(6,.fix (.ptr 4294983680 0)),(7,.fix (.fn (.func 102) [] [(.ptr 4294983680 0)])),(19,.i),(20,.i)],[],[(4294983680,.box 3 [.i])],[⟨.t 8,8294967808,3,.i⟩]⟩
abbrev Xi:aa:=⟨36,[],[],[],[⟨.t 8,8294967840,3,.i⟩]⟩
abbrev Wb:aa:=⟨36,[(3,.bool)],[],[],[⟨.t 2,8294967856,3,.i⟩]⟩
noncomputable def WI:aL:=⟨9,44,W5,0,Xi,Wb,OE,false,none,none,[]⟩
noncomputable def N5:bA:=⟨[(.row dh)],[.val (.row .i),.val .bool],fun x=>US x.1⟩
theorem abR:N5.OK Tryz.prog 44:=ah (n:=10) (lf:=aC) (ak (l:=[(41,Dy),(98,DM),(103,N2)]) (u:=[]) ⟨ZN,Y7,acE,trivial⟩ trivial) (ai (l:=[(bZ,8,WI)]) ⟨⟨by kernel_rfl,fun z=>by kernel_rfl⟩,trivial⟩) fun x=>by kernel_rfl
abbrev ye:aa:=⟨31,[(0,.fix (.jZ 4295000064)),(1,.fix (.ptr n93 0)),(2,.fix (.ptr n94 0)),(4,.i)],[(bZ,.box 32 [.i,.i,.i,.i,.i,.i,.i,.i,.i,.i,.i,.bool,.i,.fix (.sl 18446884823787841600 0),.fix (.sl 18446884823787841601 0),.fix (.sl 18446884823787841602 0)]),ab4,(gz,.box 32 [.i,.i,.i,.i,.i,.i,.i,.i,.i,.i,.i,.bool,.i,.fix (.sl 18446884823787841603 0),.fix (.sl 18446884823787841604 0),.fix (.sl 18446884823787841605 0)]),(n93,.box 80 [.cont .i]),(n94,.box 3 [.i]),acA],[],[⟨.c bZ 13,18446884823787841600,99,bu⟩,⟨.c bZ 14,18446884823787841601,56,(.pair .i (.pair .i bu))⟩,⟨.c bZ 15,18446884823787841602,84,bu⟩,⟨.c gz 13,18446884823787841603,99,bu⟩,⟨.c gz 14,18446884823787841604,56,(.pair .i (.pair .i bu))⟩,⟨.c gz 15,18446884823787841605,84,bu⟩]⟩
abbrev yK:aa:=⟨31,[],[(bZ,.box 32 [.i,.i,.i,.i,.i,.i,.i,.i,.i,.i,.i,.bool,.i,.fix (.sl 18446884823787841632 0),.fix (.sl 18446884823787841633 0),.fix (.sl 18446884823787841634 0)]),ab4,(gz,.box 32 [.i,.i,.i,.i,.i,.i,.i,.i,.i,.i,.i,.bool,.i,.fix (.sl 18446884823787841635 0),.fix (.sl 18446884823787841636 0),.fix (.sl 18446884823787841637 0)]),(n93,.box 80 [.cont .i]),(n94,.box 3 [.i]),acA],[],[⟨.c bZ 13,18446884823787841632,99,bu⟩,⟨.c bZ 14,18446884823787841633,56,(.pair .i (.pair .i bu))⟩,⟨.c bZ 15,18446884823787841634,84,bu⟩,⟨.c gz 13,18446884823787841635,99,bu⟩,⟨.c gz 14,18446884823787841636,56,(.pair .i (.pair .i bu))⟩,⟨.c gz 15,18446884823787841637,84,bu⟩]⟩
abbrev zG:aa:=⟨31,[],[(bZ,.gone),(4294971472,.gone),(gz,.gone),(n93,.gone),(n94,.gone),(4295000064,.gone)],[],[]⟩
noncomputable def zz:aL:=⟨8,101,ye,0,yK,zG,nX,false,none,none,[]⟩
abbrev UE:aa:=⟨237,[Qm,XZ,(12,.cont .i),(14,.cont .i),(16,.cont .i),(182,.cont .i),(183,.i),(184,.i)],[],[(bZ,.box 32 [.i,.i,.i,.i,.i,.i,.i,.i,.i,.i,.i,.bool,.i,.fix (.sl 8294968320 0),.fix (.sl 8294968321 0),.fix (.sl 8294968322 0)]),(gz,.box 32 [.i,.i,.i,.i,.i,.i,.i,.i,.i,.i,.i,.bool,.i,.fix (.sl 8294968323 0),.fix (.sl 8294968324 0),.fix (.sl 8294968325 0)])],[⟨.c bZ 13,8294968320,99,bu⟩,⟨.c bZ 14,8294968321,56,(.pair .i (.pair .i bu))⟩,⟨.c bZ 15,8294968322,84,bu⟩,⟨.c gz 13,8294968323,99,bu⟩,⟨.c gz 14,8294968324,56,(.pair .i (.pair .i bu))⟩,⟨.c gz 15,8294968325,84,bu⟩]⟩
abbrev RB:aa:=⟨237,[Qm,XZ,(14,.cont .i),(16,.cont .i)],[],[(bZ,.box 32 [.i,.i,.i,.i,.i,.i,.i,.i,.i,.i,.i,.bool,.i,.fix (.sl 8294968352 0),.fix (.sl 8294968353 0),.fix (.sl 8294968354 0)]),(gz,.box 32 [.i,.i,.i,.i,.i,.i,.i,.i,.i,.i,.i,.bool,.i,.fix (.sl 8294968355 0),.fix (.sl 8294968356 0),.fix (.sl 8294968357 0)])],[⟨.c bZ 13,8294968352,99,bu⟩,⟨.c bZ 14,8294968353,56,(.pair .i (.pair .i bu))⟩,⟨.c bZ 15,8294968354,84,bu⟩,⟨.c gz 13,8294968355,99,bu⟩,⟨.c gz 14,8294968356,56,(.pair .i (.pair .i bu))⟩,⟨.c gz 15,8294968357,84,bu⟩]⟩
abbrev To:aa:=⟨237,[],[],[],[]⟩
noncomputable def Ve:aL:=⟨9,15,UE,2,RB,To,GA,false,none,none,[]⟩
abbrev RX:aa:=⟨237,[Qm,XZ,(16,.cont .i),(210,.cont .i),(211,.i),(212,.i)],[],[(bZ,.box 32 [.i,.i,.i,.i,.i,.i,.i,.i,.i,.i,.i,.bool,.i,.fix (.sl 8294968704 0),.fix (.sl 8294968705 0),.fix (.sl 8294968706 0)]),(gz,.box 32 [.i,.i,.i,.i,.i,.i,.i,.i,.i,.i,.i,.bool,.i,.fix (.sl 8294968707 0),.fix (.sl 8294968708 0),.fix (.sl 8294968709 0)])],[⟨.c bZ 13,8294968704,99,bu⟩,⟨.c bZ 14,8294968705,56,(.pair .i (.pair .i bu))⟩,⟨.c bZ 15,8294968706,84,bu⟩,⟨.c gz 13,8294968707,99,bu⟩,⟨.c gz 14,8294968708,56,(.pair .i (.pair .i bu))⟩,⟨.c gz 15,8294968709,84,bu⟩]⟩
abbrev TZ:aa:=⟨237,[Qm,XZ],[],[(bZ,.box 32 [.i,.i,.i,.i,.i,.i,.i,.i,.i,.i,.i,.bool,.i,.fix (.sl 8294968736 0),.fix (.sl 8294968737 0),.fix (.sl 8294968738 0)]),(gz,.box 32 [.i,.i,.i,.i,.i,.i,.i,.i,.i,.i,.i,.bool,.i,.fix (.sl 8294968739 0),.fix (.sl 8294968740 0),.fix (.sl 8294968741 0)])],[⟨.c bZ 13,8294968736,99,bu⟩,⟨.c bZ 14,8294968737,56,(.pair .i (.pair .i bu))⟩,⟨.c bZ 15,8294968738,84,bu⟩,⟨.c gz 13,8294968739,99,bu⟩,⟨.c gz 14,8294968740,56,(.pair .i (.pair .i bu))⟩,⟨.c gz 15,8294968741,84,bu⟩]⟩
abbrev SV:aa:=⟨237,[],[],[],[]⟩
noncomputable def Q2:aL:=⟨9,15,RX,4,TZ,SV,Gt,false,none,none,[]⟩
noncomputable def Ot:bA:=⟨[(.row dh)],[.val yA,.val .bool],fun x=>Y6 x.1⟩
theorem abQ:Ot.OK Tryz.prog 15:=ah (n:=10) (lf:=aC) (ak (l:=[(6,vM),(40,ND),(41,Dy),(43,Nt),(44,N5)]) (u:=[]) ⟨k15,ack,ZN,acu,abR,trivial⟩ trivial) (ai (l:=[(18446884819787841536,1,zz),(bZ,16,Ve),(bZ,22,Q2)]) ⟨⟨by kernel_rfl,fun z=>by kernel_rfl⟩,⟨by kernel_rfl,fun z=>by kernel_rfl⟩,⟨by kernel_rfl,fun z=>by kernel_rfl⟩,trivial⟩) fun x=>by kernel_rfl
noncomputable def Nx:bA:=⟨[],[.val .bool],fun x=>Rk ⟩
theorem ac2:Nx.OK Tryz.prog 4:=ah (n:=10) (lf:=aC) (ak (l:=[(8,x4),(10,TA),(11,Yr),(12,Zd),(13,Cu),(14,Ng),(15,Ot)]) (u:=[]) ⟨UC,k14,k16,k27,YL,adi,abQ,trivial⟩ trivial) (ai (l:=[]) trivial) fun x=>by kernel_rfl
abbrev Yd:aa:=⟨33,[Qm,VG,VU,(7,.i),(12,.cont WK),(13,.i),(14,.i)],[],[D3,(nF,.box 32 [.i,.i,.i,.i,.i,.i,.i,.i,.i,.i,.i,.bool,.i,.fix (.sl 8294967552 0),.fix (.sl 8294967553 0),.fix (.sl 8294967554 0)]),acf],[⟨.c nF 13,8294967552,99,bu⟩,⟨.c nF 14,8294967553,56,(.pair .i (.pair .i bu))⟩,⟨.c nF 15,8294967554,84,bu⟩]⟩
abbrev Wi:aa:=⟨33,[Qm,VG,VU,(7,.i)],[],[D3,(nF,.box 32 [.i,.i,.i,.i,.i,.i,.i,.i,.i,.i,.i,.bool,.i,.fix (.sl 8294967584 0),.fix (.sl 8294967585 0),.fix (.sl 8294967586 0)]),acf],[⟨.c nF 13,8294967584,99,bu⟩,⟨.c nF 14,8294967585,56,(.pair .i (.pair .i bu))⟩,⟨.c nF 15,8294967586,84,bu⟩]⟩
abbrev Wv:aa:=⟨33,[],[],[],[]⟩
noncomputable def VN:aL:=⟨9,9,Yd,0,Wi,Wv,jB,false,none,none,[]⟩
noncomputable def NR:bA:=⟨[yA,(.row WK)],[.val yA,.val .i],fun x=>Of x.1.1.1.1 x.1.1.1.2 x.1.1.2.1.1 x.1.1.2.1.2 x.1.1.2.2.1 x.1.1.2.2.2.1 x.1.1.2.2.2.2.1 x.1.1.2.2.2.2.2 x.1.2.1.1 x.1.2.1.2.1 x.1.2.1.2.2.1 x.1.2.1.2.2.2 x.1.2.2.1 x.1.2.2.2.1 x.1.2.2.2.2.1 x.1.2.2.2.2.2 x.2.1⟩
theorem adf:NR.OK Tryz.prog 9:=ah (n:=10) (lf:=aC) (ak (l:=[(13,Cu),(25,Dm)]) (u:=[]) ⟨YL,Zo,trivial⟩ trivial) (ai (l:=[(bZ,4,VN)]) ⟨⟨by kernel_rfl,fun z=>by kernel_rfl⟩,trivial⟩) fun x=>by kernel_rfl
end Go.Proofs.Zz
