/- EqRa, EqRw, EqRx, EqRc. -/
import Derived.Test.YtlhbhlngoecdcaaGreatDoorPU
import Derived.Test.YtlhbhlngoecdcaaGreatDoorFD
namespace Go.Proofs.Zz
open Go Go.Sy
set_option linter.unusedVariables false
set_option maxHeartbeats 0
set_option maxRecDepth 100000
abbrev _root_.Go.Sy.Ty.i:Go.Sy.Ty:=.int .i64
abbrev _root_.Go.Sy.SK.i:Go.Sy.SK:=.int .i64
abbrev n0:Nat:=18446761807629516800
abbrev n1:Nat:=18446761945068470288
abbrev n2:Nat:=18446761945068470272
abbrev n3:Nat:=79228238976018540853555363840
abbrev n4:Nat:=18446761876348993536
abbrev n5:Nat:=18447060874792271872
abbrev n6:Nat:=18447114201106219008
abbrev n7:Nat:=340288210869433754576934048087100358656
abbrev n8:Nat:=340289194566299531682949609528787730432
abbrev n9:Nat:=18446761738910040064
abbrev n10:Nat:=79228767881064622257819297952
abbrev n11:Nat:=18446955252956532784
abbrev n12:Nat:=18446955256956528864
abbrev n13:Nat:=18446955256956528865
abbrev n14:Nat:=18446955256956528866
abbrev n15:Nat:=18446955256956528867
abbrev n16:Nat:=18446955256956528868
abbrev n17:Nat:=18446955256956528869
abbrev n18:Nat:=18446955256956528870
abbrev n19:Nat:=18446955256956528871
abbrev n20:Nat:=18446973051301003264
abbrev n21:Nat:=18446973051301011600
abbrev n22:Nat:=18446990437328617472
abbrev n23:Nat:=79229220637951167591212591554
abbrev n24:Nat:=79229220637951167591212591552
abbrev n25:Nat:=79229220637951167591212591553
abbrev n26:Nat:=79229220637951167591212591586
abbrev n27:Nat:=79229220637951167591212591584
abbrev n28:Nat:=79229220637951167591212591585
abbrev n29:Nat:=79229220637951167591212591555
abbrev n30:Nat:=79229220637951167591212591587
abbrev n31:Nat:=79229220637951167591212591556
abbrev n32:Nat:=79229220637951167591212591588
abbrev n33:Nat:=79229220637951167591212591557
abbrev n34:Nat:=79229220637951167591212591589
abbrev n35:Nat:=79229220637951167591212591558
abbrev n36:Nat:=79229220637951167591212591590
abbrev n37:Nat:=79229220637951167591212591559
abbrev n38:Nat:=79229220637951167591212591591
abbrev n39:Nat:=79229220637951167591212591560
abbrev n40:Nat:=79229220637951167591212591592
abbrev n41:Nat:=79229220637951167587212591104
abbrev n42:Nat:=18446849699840266288
abbrev n43:Nat:=18446849703840262368
abbrev n44:Nat:=18446849703840262369
abbrev n45:Nat:=18446849703840262370
abbrev n46:Nat:=18446849703840262371
abbrev n47:Nat:=18446849703840262372
abbrev n48:Nat:=18446849703840262373
abbrev n49:Nat:=18446849703840262374
abbrev n50:Nat:=18446849703840262375
abbrev n51:Nat:=18446849703840262376
abbrev n52:Nat:=18446885025651304896
abbrev n53:Nat:=18446885025651304897
abbrev n54:Nat:=18446885025651304928
abbrev n55:Nat:=18446885025651304929
abbrev n56:Nat:=18446885025651304898
abbrev n57:Nat:=18446885025651304930
abbrev n58:Nat:=18446885025651304899
abbrev n59:Nat:=18446885025651304931
abbrev n60:Nat:=18446885025651304900
abbrev n61:Nat:=18446885025651304932
abbrev n62:Nat:=18446885025651304901
abbrev n63:Nat:=18446885025651304933
abbrev n64:Nat:=18446885025651304902
abbrev n65:Nat:=18446885025651304934
abbrev n66:Nat:=18446885025651304903
abbrev n67:Nat:=18446885025651304935
abbrev n68:Nat:=18446885025651304936
abbrev n69:Nat:=18446902476398395392
abbrev n70:Nat:=79228842848632538019595495874
abbrev n71:Nat:=79228842848632538019595495872
abbrev n72:Nat:=79228842848632538019595495873
abbrev Vs:Nat:=79228842848632538019595495906
abbrev n74:Nat:=79228842848632538019595495904
abbrev n75:Nat:=79228842848632538019595495905
abbrev XP:Nat:=79228842848632538019595495875
abbrev XG:Nat:=79228842848632538019595495907
abbrev Zg:Nat:=79228842848632538019595495876
abbrev Y8:Nat:=79228842848632538019595495908
abbrev n80:Nat:=79228842848632538019595495877
abbrev n81:Nat:=79228842848632538019595495909
abbrev n82:Nat:=79228842848632538019595495878
abbrev n83:Nat:=79228842848632538019595495910
abbrev n84:Nat:=79228842848632538019595495879
abbrev n85:Nat:=79228842848632538019595495911
abbrev n86:Nat:=79228842848632538019595495880
abbrev n87:Nat:=79228842848632538019595495912
abbrev Zt:Nat:=18446885021651304448
abbrev Zx:Nat:=79228842848632538015595495424
abbrev n90:Nat:=18446832382532124816
abbrev n91:Nat:=18446832382532124672
abbrev qg:Nat:=4294967296
abbrev qM:Nat:=4294967312
abbrev rP:Nat:=4294967328
abbrev zk:Nat:=4294983744
abbrev P6:Nat:=4294967344
abbrev Yh:Nat:=4294983697
abbrev kN6:Nat:=4294983696
abbrev kN7:Nat:=4294983698
abbrev aR:Ty:=.pair .i .i
abbrev fF:Ty:=.pair .i aR
abbrev QW:Ty:=.pair aR (.pair aR (.pair .i fF))
abbrev Uf:Ty:=.pair .i (.pair .i (.pair .i .bool))
abbrev xq:Ty:=.row fF
abbrev um:Ty:=.pair .i (.pair .i fF)
abbrev Qr:Ty:=.row um
abbrev Pk:Ty:=.pair QW (.pair Uf (.pair .i (.pair xq (.pair Qr xq))))
abbrev CW:Ty:=.pair .i (.pair .i (.pair .i (.pair .i (.pair .i Uf))))
abbrev Zr:Ty:=.pair .i (.row aR)
abbrev eT8:Ty:=.pair .i (.pair .i (.pair .i (.pair fF (.row .i))))
abbrev qA:Nat×SK:=(1,.fix (.fn (.func 172) [] []))
abbrev qt:Nat×SK:=(0,.fix (.ptr n42 0))
abbrev xd:Nat×SK:=(20,.i)
abbrev xu:Nat×SK:=(21,.i)
abbrev Kg:Nat×SK:=(0,.fix (.ptr n11 0))
abbrev Kh:Nat×SK:=(14,.fix (.agg [(.sl n12 1),(.sl n13 1),(.sl n14 1),(.sl n15 1),(.sl n16 1),(.sl n17 1),(.sl n18 1),(.sl n19 1)]))
abbrev Ki:Nat×SK:=(1,.fix (.fn (.func 151) [(.ptr n42 0)] []))
abbrev Kl:Nat×SK:=(14,.fix (.agg [(.sl n44 0),(.sl n45 0),(.sl n46 0),(.sl n47 0),(.sl n48 0),(.sl n49 0),(.sl n50 0),(.sl n51 0)]))
abbrev Km:Nat×SK:=(14,.fix (.agg [(.sl n57 0),(.sl n59 0),(.sl n61 0),(.sl n63 0),(.sl n65 0),(.sl n67 0),(.sl n68 0),(.sl n55 0)]))
abbrev kK9:Nat×SK:=(0,.cont fF)
abbrev P9:Nat×SK:=(0,.fix (.sl 4294971408 0))
abbrev Qt:Nat×SK:=(8,.fix (.ptr qM 0))
abbrev PW:Nat×SK:=(9,.fix (.ptr 4294971488 0))
abbrev QK:Nat×SK:=(6,.fix (.lit (.int .i64 0)))
abbrev PO:Nat×SK:=(15,.fix (.lit (.int .i64 0)))
abbrev P3:Nat×SK:=(6,.fix (.lit (.int .i64 1)))
abbrev O3:Nat×SK:=(15,.fix (.lit (.int .i64 1)))
abbrev QJ:Nat×SK:=(6,.fix (.lit (.int .i64 2)))
abbrev QL:Nat×SK:=(15,.fix (.lit (.int .i64 2)))
abbrev O0:Nat×SK:=(6,.fix (.lit (.int .i64 3)))
abbrev Qn:Nat×SK:=(15,.fix (.lit (.int .i64 3)))
abbrev PU:Nat×SK:=(6,.fix (.lit (.int .i64 4)))
abbrev PX:Nat×SK:=(15,.fix (.lit (.int .i64 4)))
abbrev OW:Nat×SK:=(6,.fix (.lit (.int .i64 5)))
abbrev Qg:Nat×SK:=(15,.fix (.lit (.int .i64 5)))
abbrev OR:Nat×SK:=(6,.fix (.lit (.int .i64 6)))
abbrev Po:Nat×SK:=(15,.fix (.lit (.int .i64 6)))
abbrev Qk:Nat×SK:=(6,.fix (.lit (.int .i64 7)))
abbrev QA:Nat×SK:=(15,.fix (.lit (.int .i64 7)))
abbrev Pv:Nat×SK:=(0,.fix (.ptr zk 0))
abbrev Ud:Nat×SK:=(1,.fix (.ptr qg 0))
abbrev XR:Nat×SK:=(1,.cont fF)
abbrev aaL:Nat×SK:=(0,.cont um)
abbrev acR:Nat×SK:=(1,.fix (.fn (.func 82) [] [(.ptr qg 0)]))
abbrev adp:Nat×SK:=(1,.fix (.fn (.func 156) [] [(.ptr qg 0)]))
abbrev gq:Nat×OS:=(qg,.box 162 [.i,.cont aR])
abbrev qw:Nat×OS:=(qM,.box 162 [.i,.fix (.sl n43 0)])
abbrev rI:Nat×OS:=(n43,.row 170 aR 0)
abbrev rM:Nat×OS:=(n44,.row 170 aR 0)
abbrev rR:Nat×OS:=(n45,.row 170 aR 0)
abbrev rL:Nat×OS:=(n46,.row 170 aR 0)
abbrev rq:Nat×OS:=(n47,.row 170 aR 0)
abbrev qJ:Nat×OS:=(n48,.row 170 aR 0)
abbrev qL:Nat×OS:=(n49,.row 170 aR 0)
abbrev qF:Nat×OS:=(n50,.row 170 aR 0)
abbrev eC:Nat×OS:=(n51,.row 170 aR 0)
abbrev GB:Nat×OS:=(qg,.gone)
abbrev PI:Nat×OS:=(qM,.gone)
abbrev iF:Nat×OS:=(qM,.box 3 [.i])
abbrev lI:Nat×OS:=(rP,.box 162 [.i,.fix (.sl n10 0)])
abbrev mE:Nat×OS:=(n10,.row 170 aR 0)
abbrev qn:Nat×OS:=(n12,.row 170 aR 1)
abbrev qd:Nat×OS:=(n13,.row 170 aR 1)
abbrev qp:Nat×OS:=(n14,.row 170 aR 1)
abbrev qa:Nat×OS:=(n15,.row 170 aR 1)
abbrev qi:Nat×OS:=(n16,.row 170 aR 1)
abbrev p7:Nat×OS:=(n17,.row 170 aR 1)
abbrev p6:Nat×OS:=(n18,.row 170 aR 1)
abbrev qk:Nat×OS:=(n19,.row 170 aR 1)
abbrev qc:Nat×OS:=(n20,.box 170 [.i,.i])
abbrev qb:Nat×OS:=(n21,.row 170 aR 0)
abbrev ade:Nat×OS:=(n42,.gone)
abbrev adm:Nat×OS:=(n43,.gone)
abbrev adu:Nat×OS:=(n44,.gone)
abbrev adk:Nat×OS:=(n45,.gone)
abbrev adg:Nat×OS:=(n46,.gone)
abbrev ac7:Nat×OS:=(n47,.gone)
abbrev adJ:Nat×OS:=(n48,.gone)
abbrev abU:Nat×OS:=(n49,.gone)
abbrev adv:Nat×OS:=(n50,.gone)
abbrev adI:Nat×OS:=(n51,.gone)
abbrev qh:Nat×OS:=(n54,.row 170 aR 0)
abbrev pX:Nat×OS:=(n55,.row 170 aR 0)
abbrev qf:Nat×OS:=(n57,.row 170 aR 0)
abbrev qq:Nat×OS:=(n59,.row 170 aR 0)
abbrev qe:Nat×OS:=(n61,.row 170 aR 0)
abbrev pY:Nat×OS:=(n63,.row 170 aR 0)
abbrev pZ:Nat×OS:=(n65,.row 170 aR 0)
abbrev qj:Nat×OS:=(n67,.row 170 aR 0)
abbrev p9:Nat×OS:=(n68,.row 170 aR 0)
abbrev aaT:Nat×OS:=(rP,.gone)
abbrev yd:Nat×OS:=(qg,.box 32 [.i,.i,.i,.i,.i,.i,.i,.i,.i,.i,.i,.bool,.i,.cont fF,.cont um,.cont fF])
abbrev A7:Nat×OS:=(4294971408,.row 84 fF 0)
abbrev acw:Nat×OS:=(n10,.gone)
abbrev IY:Nat×OS:=(qg,.box 3 [.i])
abbrev aef:Nat×OS:=(n11,.gone)
abbrev aeH:Nat×OS:=(n12,.gone)
abbrev aeE:Nat×OS:=(n13,.gone)
abbrev aeh:Nat×OS:=(n14,.gone)
abbrev aez:Nat×OS:=(n15,.gone)
abbrev aeB:Nat×OS:=(n16,.gone)
abbrev aeM:Nat×OS:=(n17,.gone)
abbrev aeD:Nat×OS:=(n18,.gone)
abbrev ad2:Nat×OS:=(n19,.gone)
abbrev aeL:Nat×OS:=(n20,.gone)
abbrev ad9:Nat×OS:=(n21,.gone)
abbrev aeP:Nat×OS:=(n22,.gone)
abbrev aeb:Nat×OS:=(n54,.gone)
abbrev aec:Nat×OS:=(n55,.gone)
abbrev ad4:Nat×OS:=(n57,.gone)
abbrev aeu:Nat×OS:=(n59,.gone)
abbrev ael:Nat×OS:=(n61,.gone)
abbrev aew:Nat×OS:=(n63,.gone)
abbrev ad5:Nat×OS:=(n65,.gone)
abbrev aek:Nat×OS:=(n67,.gone)
abbrev aev:Nat×OS:=(n68,.gone)
abbrev aeI:Nat×OS:=(n69,.gone)
abbrev Qa:Nat×OS:=(qg,.box 152 [.i,.i])
abbrev QR:Nat×OS:=(qg,.box 207 [.i,.i,.i,.i,.i,.i,.cont .i])
abbrev P4:Nat×OS:=(qM,.box 28 [.cont fF])
abbrev Qo:Nat×OS:=(qM,.box 191 [.i,.i])
abbrev Qe:Nat×OS:=(4294971488,.box 191 [.i,.i])
abbrev O7:Nat×OS:=(qM,.box 68 [.i,.i,.i,.i,.i,.i,.i,.i,.bool])
abbrev P5:Nat×OS:=(4294967360,.box 64 [.i,.i,.i])
abbrev Qw:Nat×OS:=(4294971408,.box 122 [.fix (.fn (.func 66) [] []),.fix (.fn (.func 67) [] []),.fix (.fn (.func 68) [] []),.fix (.fn (.func 69) [] []),.fix (.fn (.func 70) [] []),.fix (.fn (.func 71) [] []),.fix (.fn (.func 72) [] []),.fix (.fn (.func 73) [] []),.fix (.fn (.func 74) [] [])])
abbrev abb:Nat×OS:=(4294971408,.gone)
abbrev Vk:Nat×OS:=(qg,.box 84 [.i,.i,.i])
abbrev Xj:Nat×OS:=(kN6,.row 99 fF 0)
abbrev XD:Nat×OS:=(Yh,.row 56 um 0)
abbrev VM:Nat×OS:=(kN7,.row 84 fF 0)
abbrev aak:Nat×OS:=(4294987824,.box 99 [.i,.i,.i])
abbrev aer:Nat×OS:=(n1,.box 153 [.fix (.fn (.func 113) [] [])])
abbrev abx:Nat×OS:=(qM,.box 153 [.fix (.fn (.func 113) [] [])])
abbrev abg:Nat×OS:=(qM,.box 212 [.fix (.fn (.func 157) [] [])])
abbrev Z5:Nat×OS:=(4295020624,.box 99 [.i,.i,.i])
abbrev ZX:Nat×OS:=(n5,.box 99 [.i,.i,.i])
abbrev abc:Nat×OS:=(n6,.box 99 [.i,.i,.i])
abbrev Z2:Nat×OS:=(qg,.box 191 [.i,.i])
abbrev ace:Nat×OS:=(n42,.box 204 [.i,.fix (.sl n44 0),.fix (.sl n45 0),.fix (.sl n46 0),.fix (.sl n47 0),.fix (.sl n48 0),.fix (.sl n49 0),.fix (.sl n50 0),.fix (.sl n51 0)])
abbrev abY:Nat×OS:=(4294979584,.loop 139 3 .ready [.fix .aq,.fix .aq,.fix (.ptr qM 0),.fix (.lit (.tuple #[])),.fix .aq,.fix .aq,.fix (.lit (.tuple #[])),.fix (.lit (.tuple #[]))])
abbrev acG:Nat×OS:=(n11,.box 204 [.i,.fix (.sl n12 1),.fix (.sl n13 1),.fix (.sl n14 1),.fix (.sl n15 1),.fix (.sl n16 1),.fix (.sl n17 1),.fix (.sl n18 1),.fix (.sl n19 1)])
abbrev abT:Nat×OS:=(n42,.box 204 [.i,.fix (.sl n57 0),.fix (.sl n59 0),.fix (.sl n61 0),.fix (.sl n63 0),.fix (.sl n65 0),.fix (.sl n67 0),.fix (.sl n68 0),.fix (.sl n55 0)])
abbrev adD:Nat×OS:=(kN6,.row 99 fF 1)
abbrev adz:Nat×OS:=(Yh,.row 56 um 1)
abbrev acP:Nat×OS:=(kN7,.row 84 fF 1)
abbrev Y4:bF:=⟨.t 5,n24,170,aR⟩
abbrev YX:bF:=⟨.t 8,n25,170,aR⟩
abbrev YC:bF:=⟨.t 5,n27,170,aR⟩
abbrev Y1:bF:=⟨.t 8,n28,170,aR⟩
abbrev YE:bF:=⟨.t 5,n52,170,aR⟩
abbrev ZE:bF:=⟨.t 8,n53,170,aR⟩
abbrev Yu:bF:=⟨.t 5,n54,170,aR⟩
abbrev Yv:bF:=⟨.t 8,n55,170,aR⟩
abbrev YV:bF:=⟨.t 5,n71,170,aR⟩
abbrev Y0:bF:=⟨.t 8,n72,170,aR⟩
abbrev Gz:bF:=⟨.t 5,n74,170,aR⟩
abbrev G1:bF:=⟨.t 8,n75,170,aR⟩
abbrev Kw:bF:=⟨.c n11 1,n23,170,aR⟩
abbrev Li:bF:=⟨.c n11 1,n26,170,aR⟩
abbrev Me:bF:=⟨.c n42 1,n56,170,aR⟩
abbrev L8:bF:=⟨.c n42 1,n57,170,aR⟩
abbrev KR:bF:=⟨.c n42 1,n70,170,aR⟩
abbrev Mw:bF:=⟨.c n42 1,Vs,170,aR⟩
abbrev Pm:bF:=⟨.c n11 2,n29,170,aR⟩
abbrev Pq:bF:=⟨.c n11 2,n30,170,aR⟩
abbrev QB:bF:=⟨.c n42 2,n58,170,aR⟩
abbrev Pt:bF:=⟨.c n42 2,n59,170,aR⟩
abbrev PC:bF:=⟨.c n42 2,XP,170,aR⟩
abbrev PD:bF:=⟨.c n42 2,XG,170,aR⟩
abbrev Q7:bF:=⟨.c n11 3,n31,170,aR⟩
abbrev Sb:bF:=⟨.c n11 3,n32,170,aR⟩
abbrev Vb:bF:=⟨.c n42 3,n60,170,aR⟩
abbrev Sv:bF:=⟨.c n42 3,n61,170,aR⟩
abbrev TB:bF:=⟨.c n42 3,Zg,170,aR⟩
abbrev Vo:bF:=⟨.c n42 3,Y8,170,aR⟩
abbrev Vw:bF:=⟨.c n11 4,n33,170,aR⟩
abbrev Yb:bF:=⟨.c n11 4,n34,170,aR⟩
abbrev Wq:bF:=⟨.c n42 4,n62,170,aR⟩
abbrev XC:bF:=⟨.c n42 4,n63,170,aR⟩
abbrev X5:bF:=⟨.c n42 4,n80,170,aR⟩
abbrev WG:bF:=⟨.c n42 4,n81,170,aR⟩
abbrev aad:bF:=⟨.c n11 5,n35,170,aR⟩
abbrev aa0:bF:=⟨.c n11 5,n36,170,aR⟩
abbrev abf:bF:=⟨.c n42 5,n64,170,aR⟩
abbrev abu:bF:=⟨.c n42 5,n65,170,aR⟩
abbrev ZS:bF:=⟨.c n42 5,n82,170,aR⟩
abbrev aby:bF:=⟨.c n42 5,n83,170,aR⟩
abbrev YK:List (Nat×OS):=[GB,PI,aaT,acw,aef,aeH,aeE,aeh,aez,aeB,aeM,aeD,ad2,aeL,ad9,aeP]
abbrev YG:List (Nat×OS):=[GB,PI,ade,adm,adu,adk,adg,ac7,adJ,abU,adv,adI]
abbrev Zf:List (Nat×OS):=[GB,PI,ade,adm,adu,adk,adg,ac7,adJ,abU,adv,adI,aeb,aec,ad4,aeu,ael,aew,ad5,aek,aev,aeI]
abbrev kL3:List (Nat×OS):=[(n2,.box 152 [.i,.i]),aer]
abbrev kL4:List (Nat×OS):=[GB,PI,aaT,(P6,.gone),(4294967360,.gone),abb,(kN6,.gone),(Yh,.gone),(kN7,.gone),(zk,.gone)]
abbrev kL5:List (Nat×OS):=[gq,qw,ace,rI,rM,rR,rL,rq,qJ,qL,qF,eC]
noncomputable def Yo:bA:=⟨[.i,.i,.i],[.val .bool],fun x=>f80 x.1 x.2.1 x.2.2.1⟩
theorem k80:Yo.OK Tryz.prog 45:=ah (n:=10) (lf:=aC) (ak (l:=[]) (u:=[]) trivial trivial) (ai (l:=[]) trivial) fun x=>by kernel_rfl
noncomputable def MV:bA:=⟨[aR],[.val .bool],fun x=>f95 x.1.1 x.1.2⟩
theorem k95:MV.OK Tryz.prog 104:=ah (n:=10) (lf:=aC) (ak (l:=[]) (u:=[]) trivial trivial) (ai (l:=[]) trivial) fun x=>by kernel_rfl
noncomputable def yI:bA:=⟨[aR],[.val .i],fun x=>f49 x.1.1 x.1.2⟩
theorem k49:yI.OK Tryz.prog 47:=ah (n:=10) (lf:=aC) (ak (l:=[(104,MV)]) (u:=[]) ⟨k95,trivial⟩ trivial) (ai (l:=[]) trivial) fun x=>by kernel_rfl
noncomputable def Tu:bA:=⟨[aR,.i],[.val .i],fun x=>f118 x.1.1 x.1.2 x.2.1⟩
theorem aej:Tu.OK Tryz.prog 105:=ah (n:=10) (lf:=aC) (ak (l:=[(104,MV)]) (u:=[]) ⟨k95,trivial⟩ trivial) (ai (l:=[]) trivial) fun x=>by kernel_rfl
noncomputable def YU:bA:=⟨[aR,aR],[.val .bool],fun x=>f83 x.1.1 x.1.2 x.2.1.1 x.2.1.2⟩
theorem k83:YU.OK Tryz.prog 49:=ah (n:=10) (lf:=aC) (ak (l:=[(104,MV),(105,Tu)]) (u:=[]) ⟨k95,aej,trivial⟩ trivial) (ai (l:=[]) trivial) fun x=>by kernel_rfl
noncomputable def Rp:bA:=⟨[QW],[.val .i],fun x=>f87 x.1.1.1 x.1.1.2 x.1.2.1.1 x.1.2.1.2 x.1.2.2.1 x.1.2.2.2.1 x.1.2.2.2.2.1 x.1.2.2.2.2.2⟩
theorem k87:Rp.OK Tryz.prog 53:=ah (n:=10) (lf:=aC) (ak (l:=[]) (u:=[]) trivial trivial) (ai (l:=[]) trivial) fun x=>by kernel_rfl
noncomputable def MY:bA:=⟨[QW],[.val .i],fun x=>f51 x.1.1.1 x.1.1.2 x.1.2.1.1 x.1.2.1.2 x.1.2.2.1 x.1.2.2.2.1 x.1.2.2.2.2.1 x.1.2.2.2.2.2⟩
theorem k51:MY.OK Tryz.prog 54:=ah (n:=10) (lf:=aC) (ak (l:=[(47,yI)]) (u:=[]) ⟨k49,trivial⟩ trivial) (ai (l:=[]) trivial) fun x=>by kernel_rfl
noncomputable def Il:bA:=⟨[QW],[.val .bool],fun x=>f43 x.1.1.1 x.1.1.2 x.1.2.1.1 x.1.2.1.2 x.1.2.2.1 x.1.2.2.2.1 x.1.2.2.2.2.1 x.1.2.2.2.2.2⟩
theorem k43:Il.OK Tryz.prog 17:=ah (n:=10) (lf:=aC) (ak (l:=[(45,Yo),(47,yI),(49,YU),(53,Rp),(54,MY)]) (u:=[]) ⟨k80,k49,k83,k87,k51,trivial⟩ trivial) (ai (l:=[]) trivial) fun x=>by kernel_rfl
noncomputable def M0:bA:=⟨[.i,.i,.i],[.val .bool],fun x=>f44 x.1 x.2.1 x.2.2.1⟩
theorem k44:M0.OK Tryz.prog 19:=ah (n:=10) (lf:=aC) (ak (l:=[]) (u:=[]) trivial trivial) (ai (l:=[]) trivial) fun x=>by kernel_rfl
noncomputable def NV:bA:=⟨[Uf],[.val .bool],fun x=>f28 x.1.1 x.1.2.1 x.1.2.2.1 x.1.2.2.2⟩
theorem k28:NV.OK Tryz.prog 18:=ah (n:=10) (lf:=aC) (ak (l:=[(19,M0)]) (u:=[]) ⟨k44,trivial⟩ trivial) (ai (l:=[]) trivial) fun x=>by kernel_rfl
noncomputable def Uk:bA:=⟨[fF,fF],[.val .bool],fun x=>f91 x.1.1 x.1.2.1 x.1.2.2 x.2.1.1 x.2.1.2.1 x.2.1.2.2⟩
theorem k91:Uk.OK Tryz.prog 58:=ah (n:=10) (lf:=aC) (ak (l:=[]) (u:=[]) trivial trivial) (ai (l:=[]) trivial) fun x=>by kernel_rfl
noncomputable def Rg:bA:=⟨[fF,.i],[.val .bool],fun x=>f92 x.1.1 x.1.2.1 x.1.2.2 x.2.1⟩
theorem k92:Rg.OK Tryz.prog 59:=ah (n:=10) (lf:=aC) (ak (l:=[]) (u:=[]) trivial trivial) (ai (l:=[]) trivial) fun x=>by kernel_rfl
abbrev acd:aa:=⟨39,[kK9,(1,.i),(19,.cont fF),xd,xu],[],[],[]⟩
abbrev KK:aa:=⟨19,[kK9,(1,.fix (.fn (.func 57) [] [(.ptr 4294987824 0)])),(7,.i),(8,.i)],[aak],[],[]⟩
abbrev L5:aa:=⟨19,[],[aak],[],[]⟩
abbrev Ld:aa:=⟨19,[(4,.i)],[aak],[],[]⟩
noncomputable def Mj:aL:=⟨7,107,KK,0,L5,Ld,jj,false,none,none,[]⟩
abbrev acr:aa:=⟨39,[],[],[],[]⟩
abbrev ab2:aa:=⟨39,[(4,.bool)],[],[],[]⟩
noncomputable def acm:aL:=⟨9,20,acd,0,acr,ab2,vE,false,none,none,[]⟩
noncomputable def U1:bA:=⟨[xq,.i],[.val .bool],fun x=>f45 x.1 x.2.1⟩
theorem k45:U1.OK Tryz.prog 20:=ah (n:=10) (lf:=aC) (ak (l:=[(58,Uk),(59,Rg)]) (u:=[]) ⟨k91,k92,trivial⟩ trivial) (ai (l:=[(79228694094088327415612833792,2,Mj),(qg,4,acm)]) ⟨⟨by kernel_rfl,fun z=>by kernel_rfl⟩,⟨by kernel_rfl,fun z=>by kernel_rfl⟩,trivial⟩) fun x=>by kernel_rfl
noncomputable def Uo:bA:=⟨[Pk],[.val .i],fun x=>f46 x.1.1.1.1 x.1.1.1.2 x.1.1.2.1.1 x.1.1.2.1.2 x.1.1.2.2.1 x.1.1.2.2.2.1 x.1.1.2.2.2.2.1 x.1.1.2.2.2.2.2 x.1.2.1.1 x.1.2.1.2.1 x.1.2.1.2.2.1 x.1.2.1.2.2.2 x.1.2.2.1 x.1.2.2.2.1 x.1.2.2.2.2.1 x.1.2.2.2.2.2⟩
theorem k46:Uo.OK Tryz.prog 21:=ah (n:=10) (lf:=aC) (ak (l:=[(47,yI)]) (u:=[]) ⟨k49,trivial⟩ trivial) (ai (l:=[]) trivial) fun x=>by kernel_rfl
noncomputable def YW:bA:=⟨[QW],[.val .i],fun x=>f52 x.1.1.1 x.1.1.2 x.1.2.1.1 x.1.2.1.2 x.1.2.2.1 x.1.2.2.2.1 x.1.2.2.2.2.1 x.1.2.2.2.2.2⟩
theorem k52:YW.OK Tryz.prog 108:=ah (n:=10) (lf:=aC) (ak (l:=[(17,Il),(53,Rp),(54,MY)]) (u:=[]) ⟨k43,k87,k51,trivial⟩ trivial) (ai (l:=[]) trivial) fun x=>by kernel_rfl
noncomputable def U9:bA:=⟨[QW,.i],[.val fF,.val .bool],fun x=>f19 x.1.1.1 x.1.1.2 x.1.2.1.1 x.1.2.1.2 x.1.2.2.1 x.1.2.2.2.1 x.1.2.2.2.2.1 x.1.2.2.2.2.2 x.2.1⟩
theorem k19:U9.OK Tryz.prog 61:=ah (n:=10) (lf:=aC) (ak (l:=[(17,Il),(47,yI),(54,MY),(108,YW)]) (u:=[]) ⟨k43,k49,k51,k52,trivial⟩ trivial) (ai (l:=[]) trivial) fun x=>by kernel_rfl
noncomputable def UN:bA:=⟨[QW],[.val .i],fun x=>f50 x.1.1.1 x.1.1.2 x.1.2.1.1 x.1.2.1.2 x.1.2.2.1 x.1.2.2.2.1 x.1.2.2.2.2.1 x.1.2.2.2.2.2⟩
theorem k50:UN.OK Tryz.prog 109:=ah (n:=10) (lf:=aC) (ak (l:=[(17,Il)]) (u:=[]) ⟨k43,trivial⟩ trivial) (ai (l:=[]) trivial) fun x=>by kernel_rfl
noncomputable def TH:bA:=⟨[QW,.i,.i],[.val fF,.val .bool],fun x=>f18 x.1.1.1 x.1.1.2 x.1.2.1.1 x.1.2.1.2 x.1.2.2.1 x.1.2.2.2.1 x.1.2.2.2.2.1 x.1.2.2.2.2.2 x.2.1 x.2.2.1⟩
theorem k18:TH.OK Tryz.prog 62:=ah (n:=10) (lf:=aC) (ak (l:=[(47,yI),(109,UN)]) (u:=[]) ⟨k49,k50,trivial⟩ trivial) (ai (l:=[]) trivial) fun x=>by kernel_rfl
noncomputable def T3:bA:=⟨[fF,.i],[.val .bool],fun x=>f55 x.1.1 x.1.2.1 x.1.2.2 x.2.1⟩
theorem k55:T3.OK Tryz.prog 111:=ah (n:=10) (lf:=aC) (ak (l:=[]) (u:=[]) trivial trivial) (ai (l:=[]) trivial) fun x=>by kernel_rfl
abbrev LK:aa:=⟨19,[kK9,(1,.fix (.fn (.func 110) [] [(.ptr qg 0)])),(7,.i),(8,.i)],[IY],[],[]⟩
abbrev KA:aa:=⟨19,[],[IY],[],[]⟩
abbrev Lg:aa:=⟨19,[(4,.i)],[IY],[],[]⟩
noncomputable def LM:aL:=⟨8,107,LK,0,KA,Lg,jc,false,none,none,[]⟩
noncomputable def Oo:bA:=⟨[xq,.i],[.val .i],fun x=>f20 x.1 x.2.1⟩
theorem k20:Oo.OK Tryz.prog 63:=ah (n:=10) (lf:=aC) (ak (l:=[(111,T3)]) (u:=[]) ⟨k55,trivial⟩ trivial) (ai (l:=[(n0,2,LM)]) ⟨⟨by kernel_rfl,fun z=>by kernel_rfl⟩,trivial⟩) fun x=>by kernel_rfl
noncomputable def Ul:bA:=⟨[.i,.i,.i,.i],[.val .bool],fun x=>f94 x.1 x.2.1 x.2.2.1 x.2.2.2.1⟩
theorem k94:Ul.OK Tryz.prog 64:=ah (n:=10) (lf:=aC) (ak (l:=[]) (u:=[]) trivial trivial) (ai (l:=[]) trivial) fun x=>by kernel_rfl
abbrev adj:aa:=⟨124,[Ud,(3,.fix (.mp 4294971392)),(12,.cont um),(13,.i),(14,.i)],[],[yd,(4294971392,.map)],[]⟩
abbrev acJ:aa:=⟨124,[Ud],[],[yd],[]⟩
abbrev adH:aa:=⟨124,[(2,.bool)],[],[],[]⟩
noncomputable def acF:aL:=⟨9,22,adj,0,acJ,adH,vm,false,none,none,[]⟩
noncomputable def YM:bA:=⟨[Pk],[.val .bool],fun x=>f47 x.1.1.1.1 x.1.1.1.2 x.1.1.2.1.1 x.1.1.2.1.2 x.1.1.2.2.1 x.1.1.2.2.2.1 x.1.1.2.2.2.2.1 x.1.1.2.2.2.2.2 x.1.2.1.1 x.1.2.1.2.1 x.1.2.1.2.2.1 x.1.2.1.2.2.2 x.1.2.2.1 x.1.2.2.2.1 x.1.2.2.2.2.1 x.1.2.2.2.2.2⟩
theorem k47:YM.OK Tryz.prog 22:=ah (n:=10) (lf:=aC) (ak (l:=[(61,U9),(62,TH),(63,Oo),(64,Ul)]) (u:=[]) ⟨k19,k18,k20,k94,trivial⟩ trivial) (ai (l:=[(qg,3,acF)]) ⟨⟨by kernel_rfl,fun z=>by kernel_rfl⟩,trivial⟩) fun x=>by kernel_rfl
noncomputable def NW:bA:=⟨[um],[.val (.pair aR um)],fun x=>f98 x.1.1 x.1.2.1 x.1.2.2.1 x.1.2.2.2.1 x.1.2.2.2.2⟩
theorem k98:NW.OK Tryz.prog 138:=ah (n:=10) (lf:=aC) (ak (l:=[]) (u:=[]) trivial trivial) (ai (l:=[]) trivial) fun x=>by kernel_rfl
noncomputable def MN:bA:=⟨[um],[.val aR],fun x=>f57 x.1.1 x.1.2.1 x.1.2.2.1 x.1.2.2.2.1 x.1.2.2.2.2⟩
theorem k57:MN.OK Tryz.prog 113:=ah (n:=10) (lf:=aC) (ak (l:=[(138,NW)]) (u:=[]) ⟨k98,trivial⟩ trivial) (ai (l:=[]) trivial) fun x=>by kernel_rfl
abbrev Mx:aa:=⟨19,[aaL,(1,.fix (.fn (.func 137) [] [(.ptr n1 0),(.ptr n2 0)])),(7,.i),(8,.i)],kL3,[],[]⟩
abbrev LB:aa:=⟨19,[],kL3,[],[]⟩
abbrev KO:aa:=⟨19,[(4,.i)],kL3,[],[]⟩
noncomputable def Ll:aL:=⟨7,90,Mx,0,LB,KO,iT,false,none,none,[]⟩
noncomputable def Bj:bA:=⟨[Qr,.i,.i],[.val .i],fun x=>f22 x.1 x.2.1 x.2.2.1⟩
theorem k22:Bj.OK Tryz.prog 65:=ah (n:=10) (lf:=aC) (ak (l:=[(113,MN)]) (u:=[]) ⟨k57,trivial⟩ trivial) (ai (l:=[(79228239271166446032908189696,2,Ll)]) ⟨⟨by kernel_rfl,fun z=>by kernel_rfl⟩,trivial⟩) fun x=>by kernel_rfl
abbrev acK:aa:=⟨74,[Ud,(8,.cont fF),(9,.i),(10,.i)],[],[yd],[]⟩
abbrev acS:aa:=⟨74,[],[],[],[]⟩
abbrev acU:aa:=⟨74,[(2,.bool)],[],[],[]⟩
noncomputable def ads:aL:=⟨9,23,acK,0,acS,acU,vj,false,none,none,[]⟩
noncomputable def YD:bA:=⟨[Pk],[.val .bool],fun x=>f48 x.1.1.1.1 x.1.1.1.2 x.1.1.2.1.1 x.1.1.2.1.2 x.1.1.2.2.1 x.1.1.2.2.2.1 x.1.1.2.2.2.2.1 x.1.1.2.2.2.2.2 x.1.2.1.1 x.1.2.1.2.1 x.1.2.1.2.2.1 x.1.2.1.2.2.2 x.1.2.2.1 x.1.2.2.2.1 x.1.2.2.2.2.1 x.1.2.2.2.2.2⟩
theorem k48:YD.OK Tryz.prog 23:=ah (n:=10) (lf:=aC) (ak (l:=[(19,M0),(62,TH),(64,Ul),(65,Bj)]) (u:=[]) ⟨k44,k18,k94,k22,trivial⟩ trivial) (ai (l:=[(qg,2,ads)]) ⟨⟨by kernel_rfl,fun z=>by kernel_rfl⟩,trivial⟩) fun x=>by kernel_rfl
noncomputable def vM:bA:=⟨[Pk],[.val .bool],fun x=>f15 x.1.1.1.1 x.1.1.1.2 x.1.1.2.1.1 x.1.1.2.1.2 x.1.1.2.2.1 x.1.1.2.2.2.1 x.1.1.2.2.2.2.1 x.1.1.2.2.2.2.2 x.1.2.1.1 x.1.2.1.2.1 x.1.2.1.2.2.1 x.1.2.1.2.2.2 x.1.2.2.1 x.1.2.2.2.1 x.1.2.2.2.2.1 x.1.2.2.2.2.2⟩
theorem k15:vM.OK Tryz.prog 6:=ah (n:=10) (lf:=aC) (ak (l:=[(17,Il),(18,NV),(19,M0),(20,U1),(21,Uo),(22,YM),(23,YD)]) (u:=[]) ⟨k43,k28,k44,k45,k46,k47,k48,trivial⟩ trivial) (ai (l:=[]) trivial) fun x=>by kernel_rfl
abbrev Jc:aa:=⟨19,[P9,acR,(7,.i),(8,.i)],[IY,A7],[],[]⟩
abbrev GO:aa:=⟨19,[],[IY,A7],[],[]⟩
abbrev Kc:aa:=⟨19,[(4,.i)],[IY,A7],[],[]⟩
noncomputable def Iv:aL:=⟨7,130,Jc,0,GO,Kc,gX,false,none,none,[]⟩
abbrev FB:aa:=⟨42,[P9,acR,(5,.i),(6,.i)],[IY,A7],[],[]⟩
abbrev G5:aa:=⟨42,[P9,(5,.i)],[IY,A7],[],[]⟩
abbrev JP:aa:=⟨42,[],[GB,abb],[],[]⟩
noncomputable def HX:aL:=⟨8,81,FB,0,G5,JP,gY,false,none,none,[]⟩
noncomputable def SP:bA:=⟨[xq,.i],[.own 84 fF],fun x=>f70 x.1 x.2.1⟩
theorem k70:SP.OK Tryz.prog 26:=ah (n:=10) (lf:=aC) (ak (l:=[(80,j7)]) (u:=[]) ⟨tG,trivial⟩ trivial) (ai (l:=[(n3,2,Iv),(n4,5,HX)]) ⟨⟨by kernel_rfl,fun z=>by kernel_rfl⟩,⟨by kernel_rfl,fun z=>by kernel_rfl⟩,trivial⟩) fun x=>by kernel_rfl
abbrev acC:aa:=⟨26,[kK9,XR,(12,.i),(13,.i)],[],[],[]⟩
abbrev acg:aa:=⟨26,[],[],[],[]⟩
abbrev adE:aa:=⟨26,[(4,.bool)],[],[],[]⟩
noncomputable def ab7:aL:=⟨9,83,acC,0,acg,adE,Jo,false,none,none,[]⟩
noncomputable def Yi:bA:=⟨[xq,xq],[.val .bool],fun x=>f61 x.1 x.2.1⟩
theorem k61:Yi.OK Tryz.prog 83:=ah (n:=10) (lf:=aC) (ak (l:=[]) (u:=[]) trivial trivial) (ai (l:=[(qg,4,ab7)]) ⟨⟨by kernel_rfl,fun z=>by kernel_rfl⟩,trivial⟩) fun x=>by kernel_rfl
noncomputable def YJ:bA:=⟨[xq,xq],[.val .bool],fun x=>f26 x.1 x.2.1⟩
theorem k26:YJ.OK Tryz.prog 27:=ah (n:=10) (lf:=aC) (ak (l:=[(83,Yi)]) (u:=[]) ⟨k61,trivial⟩ trivial) (ai (l:=[]) trivial) fun x=>by kernel_rfl
abbrev acs:aa:=⟨26,[aaL,(1,.cont um),(12,.i),(13,.i)],[],[],[]⟩
abbrev acI:aa:=⟨26,[],[],[],[]⟩
abbrev ac8:aa:=⟨26,[(4,.bool)],[],[],[]⟩
noncomputable def acL:aL:=⟨9,84,acs,0,acI,ac8,Jb,false,none,none,[]⟩
noncomputable def YO:bA:=⟨[Qr,Qr],[.val .bool],fun x=>f60 x.1 x.2.1⟩
theorem k60:YO.OK Tryz.prog 84:=ah (n:=10) (lf:=aC) (ak (l:=[]) (u:=[]) trivial trivial) (ai (l:=[(qg,4,acL)]) ⟨⟨by kernel_rfl,fun z=>by kernel_rfl⟩,trivial⟩) fun x=>by kernel_rfl
noncomputable def Zn:bA:=⟨[Qr,Qr],[.val .bool],fun x=>f25 x.1 x.2.1⟩
theorem k25:Zn.OK Tryz.prog 28:=ah (n:=10) (lf:=aC) (ak (l:=[(84,YO)]) (u:=[]) ⟨k60,trivial⟩ trivial) (ai (l:=[]) trivial) fun x=>by kernel_rfl
abbrev ado:aa:=⟨26,[kK9,XR,(12,.i),(13,.i)],[],[],[]⟩
abbrev ab1:aa:=⟨26,[],[],[],[]⟩
abbrev ab8:aa:=⟨26,[(4,.bool)],[],[],[]⟩
noncomputable def ac9:aL:=⟨9,85,ado,0,ab1,ab8,FH,false,none,none,[]⟩
noncomputable def ZC:bA:=⟨[xq,xq],[.val .bool],fun x=>f79 x.1 x.2.1⟩
theorem k79:ZC.OK Tryz.prog 85:=ah (n:=10) (lf:=aC) (ak (l:=[]) (u:=[]) trivial trivial) (ai (l:=[(qg,4,ac9)]) ⟨⟨by kernel_rfl,fun z=>by kernel_rfl⟩,trivial⟩) fun x=>by kernel_rfl
noncomputable def YQ:bA:=⟨[xq,xq],[.val .bool],fun x=>f42 x.1 x.2.1⟩
theorem k42:YQ.OK Tryz.prog 29:=ah (n:=10) (lf:=aC) (ak (l:=[(85,ZC)]) (u:=[]) ⟨k79,trivial⟩ trivial) (ai (l:=[]) trivial) fun x=>by kernel_rfl
noncomputable def TA:bA:=⟨[Pk,Pk],[.val .bool],fun x=>f14 x.1.1.1.1 x.1.1.1.2 x.1.1.2.1.1 x.1.1.2.1.2 x.1.1.2.2.1 x.1.1.2.2.2.1 x.1.1.2.2.2.2.1 x.1.1.2.2.2.2.2 x.1.2.1.1 x.1.2.1.2.1 x.1.2.1.2.2.1 x.1.2.1.2.2.2 x.1.2.2.1 x.1.2.2.2.1 x.1.2.2.2.2.1 x.1.2.2.2.2.2 x.2.1.1.1.1 x.2.1.1.1.2 x.2.1.1.2.1.1 x.2.1.1.2.1.2 x.2.1.1.2.2.1 x.2.1.1.2.2.2.1 x.2.1.1.2.2.2.2.1 x.2.1.1.2.2.2.2.2 x.2.1.2.1.1 x.2.1.2.1.2.1 x.2.1.2.1.2.2.1 x.2.1.2.1.2.2.2 x.2.1.2.2.1 x.2.1.2.2.2.1 x.2.1.2.2.2.2.1 x.2.1.2.2.2.2.2⟩
theorem k14:TA.OK Tryz.prog 10:=ah (n:=10) (lf:=aC) (ak (l:=[(27,YJ),(28,Zn),(29,YQ)]) (u:=[]) ⟨k26,k25,k42,trivial⟩ trivial) (ai (l:=[]) trivial) fun x=>by kernel_rfl
noncomputable def Yr:bA:=⟨[QW,Uf],[.val Pk,.val .bool],fun x=>f16 x.1.1.1 x.1.1.2 x.1.2.1.1 x.1.2.1.2 x.1.2.2.1 x.1.2.2.2.1 x.1.2.2.2.2.1 x.1.2.2.2.2.2 x.2.1.1 x.2.1.2.1 x.2.1.2.2.1 x.2.1.2.2.2⟩
theorem k16:Yr.OK Tryz.prog 11:=ah (n:=10) (lf:=aC) (ak (l:=[(6,vM)]) (u:=[]) ⟨k15,trivial⟩ trivial) (ai (l:=[]) trivial) fun x=>by kernel_rfl
noncomputable def Zd:bA:=⟨[],[.val QW],fun x=>f27 ⟩
theorem k27:Zd.OK Tryz.prog 12:=ah (n:=10) (lf:=aC) (ak (l:=[]) (u:=[]) trivial trivial) (ai (l:=[]) trivial) fun x=>by kernel_rfl
abbrev ZV:aa:=⟨18,[(3,.i),(6,.cont .i),(7,.i),(8,.i)],[],[],[]⟩
abbrev abn:aa:=⟨18,[(3,.i)],[],[],[]⟩
abbrev aa6:aa:=⟨18,[(2,.i)],[],[],[]⟩
noncomputable def abd:aL:=⟨9,186,ZV,0,abn,aa6,mS,false,none,none,[]⟩
noncomputable def Kz:bA:=⟨[(.row .i)],[.val .i],fun x=>f148 x.1⟩
theorem acp:Kz.OK Tryz.prog 186:=ah (n:=10) (lf:=aC) (ak (l:=[]) (u:=[]) trivial trivial) (ai (l:=[(qg,3,abd)]) ⟨⟨by kernel_rfl,fun z=>by kernel_rfl⟩,trivial⟩) fun x=>by kernel_rfl
noncomputable def RN:bA:=⟨[.i],[.val .bool],fun x=>f174 x.1⟩
theorem adY:RN.OK Tryz.prog 209:=ah (n:=10) (lf:=aC) (ak (l:=[]) (u:=[]) trivial trivial) (ai (l:=[]) trivial) fun x=>by kernel_rfl
noncomputable def Lw:bA:=⟨[.i,.i],[.val .i],fun x=>f149 x.1 x.2.1⟩
theorem ab0:Lw.OK Tryz.prog 187:=ah (n:=10) (lf:=aC) (ak (l:=[(209,RN)]) (u:=[]) ⟨adY,trivial⟩ trivial) (ai (l:=[]) trivial) fun x=>by kernel_rfl
noncomputable def Mz:bA:=⟨[aR,aR],[.val .i],fun x=>f127 x.1.1 x.1.2 x.2.1.1 x.2.1.2⟩
theorem ady:Mz.OK Tryz.prog 167:=ah (n:=10) (lf:=aC) (ak (l:=[(186,Kz),(187,Lw)]) (u:=[]) ⟨acp,ab0,trivial⟩ trivial) (ai (l:=[]) trivial) fun x=>by kernel_rfl
abbrev Jf:aa:=⟨19,[aaL,(1,.fix (.fn (.func 166) [] [(.ptr qM 0),(.ptr qg 0)])),(7,.i),(8,.i)],[Qa,abx],[],[]⟩
abbrev Hf:aa:=⟨19,[],[Qa,abx],[],[]⟩
abbrev IA:aa:=⟨19,[(4,.i)],[Qa,abx],[],[]⟩
noncomputable def FC:aL:=⟨8,90,Jf,0,Hf,IA,gN,false,none,none,[]⟩
noncomputable def Vn:bA:=⟨[Qr,aR,(.Bo 113)],[.val .i],fun x=>f102 x.1 x.2.1.1 x.2.1.2⟩
theorem adW:Vn.OK Tryz.prog 142:=ah (n:=10) (lf:=aC) (ak (l:=[(113,MN),(167,Mz)]) (u:=[]) ⟨k57,ady,trivial⟩ trivial) (ai (l:=[(n0,2,FC)]) ⟨⟨by kernel_rfl,fun z=>by kernel_rfl⟩,trivial⟩) fun x=>by kernel_rfl
noncomputable def Tn:bA:=⟨[Qr,um],[.own 56 um,.val .bool],fun x=>f63 x.1 x.2.1.1 x.2.1.2.1 x.2.1.2.2.1 x.2.1.2.2.2.1 x.2.1.2.2.2.2⟩
theorem k63:Tn.OK Tryz.prog 117:=ah (n:=10) (lf:=aC) (ak (l:=[(65,Bj),(79,iO),(113,MN),(142,Vn)]) (u:=[(141,MH)]) ⟨k22,om,k57,adW,trivial⟩ ⟨Sh,trivial⟩) (ai (l:=[]) trivial) fun x=>by kernel_rfl
noncomputable def UL:bA:=⟨[Qr,.i,.i],[.own 56 um,.val .bool],fun x=>f24 x.1 x.2.1 x.2.2.1⟩
theorem k24:UL.OK Tryz.prog 131:=ah (n:=10) (lf:=aC) (ak (l:=[(65,Bj),(79,iO)]) (u:=[]) ⟨k22,om,trivial⟩ trivial) (ai (l:=[]) trivial) fun x=>by kernel_rfl
noncomputable def Ma:bA:=⟨[fF],[.val (.pair aR fF)],fun x=>f122 x.1.1 x.1.2.1 x.1.2.2⟩
theorem ach:Ma.OK Tryz.prog 162:=ah (n:=10) (lf:=aC) (ak (l:=[]) (u:=[]) trivial trivial) (ai (l:=[]) trivial) fun x=>by kernel_rfl
noncomputable def LC:bA:=⟨[fF],[.val aR],fun x=>f129 x.1.1 x.1.2.1 x.1.2.2⟩
theorem ac1:LC.OK Tryz.prog 157:=ah (n:=10) (lf:=aC) (ak (l:=[(162,Ma)]) (u:=[]) ⟨ach,trivial⟩ trivial) (ai (l:=[]) trivial) fun x=>by kernel_rfl
abbrev De:aa:=⟨19,[kK9,(1,.fix (.fn (.func 180) [] [(.ptr qM 0),(.ptr qg 0)])),(7,.i),(8,.i)],[Qa,abg],[],[]⟩
abbrev Fj:aa:=⟨19,[],[Qa,abg],[],[]⟩
abbrev D2:aa:=⟨19,[(4,.i)],[Qa,abg],[],[]⟩
noncomputable def CC:aL:=⟨8,130,De,0,Fj,D2,fT,false,none,none,[]⟩
noncomputable def Sn:bA:=⟨[xq,aR,(.Bo 157)],[.val .i],fun x=>f131 x.1 x.2.1.1 x.2.1.2⟩
theorem aey:Sn.OK Tryz.prog 159:=ah (n:=10) (lf:=aC) (ak (l:=[(157,LC),(167,Mz)]) (u:=[]) ⟨ac1,ady,trivial⟩ trivial) (ai (l:=[(n0,2,CC)]) ⟨⟨by kernel_rfl,fun z=>by kernel_rfl⟩,trivial⟩) fun x=>by kernel_rfl
abbrev DP:aa:=⟨19,[P9,adp,(7,.i),(8,.i)],[Vk,A7],[],[]⟩
abbrev C7:aa:=⟨19,[],[Vk,A7],[],[]⟩
abbrev CX:aa:=⟨19,[(4,.i)],[Vk,A7],[],[]⟩
noncomputable def Du:aL:=⟨7,130,DP,0,C7,CX,gb,false,none,none,[]⟩
abbrev DX:aa:=⟨42,[P9,adp,(5,.i),(6,.i)],[Vk,A7],[],[]⟩
abbrev E8:aa:=⟨42,[P9,(5,.i)],[Vk,A7],[],[]⟩
abbrev EE:aa:=⟨42,[],[GB,abb],[],[]⟩
noncomputable def Eb:aL:=⟨8,81,DX,0,E8,EE,fM,false,none,none,[]⟩
noncomputable def Mn:bA:=⟨[xq,fF],[.own 84 fF],fun x=>f103 x.1 x.2.1.1 x.2.1.2.1 x.2.1.2.2⟩
theorem acV:Mn.OK Tryz.prog 132:=ah (n:=10) (lf:=aC) (ak (l:=[(80,j7),(157,LC),(159,Sn)]) (u:=[(158,RF)]) ⟨tG,ac1,aey,trivial⟩ ⟨Xq,trivial⟩) (ai (l:=[(n3,2,Du),(n4,5,Eb)]) ⟨⟨by kernel_rfl,fun z=>by kernel_rfl⟩,⟨by kernel_rfl,fun z=>by kernel_rfl⟩,trivial⟩) fun x=>by kernel_rfl
abbrev aaa:aa:=⟨37,[XR,(2,.i),(7,.fix (.ptr qM 0)),(16,.cont fF),(17,.i),(18,.i)],[],[(qM,.box 99 [.i,.i,.i])],[]⟩
abbrev aax:aa:=⟨37,[XR,(2,.i)],[],[],[]⟩
abbrev aaz:aa:=⟨37,[(8,.i)],[],[],[]⟩
noncomputable def Z9:aL:=⟨9,191,aaa,0,aax,aaz,u9,false,none,none,[]⟩
noncomputable def Sk:bA:=⟨[eT8,xq,.i,fF],[.val .i],fun x=>f157 x.1.1 x.1.2.1 x.1.2.2.1 x.1.2.2.2.1.1 x.1.2.2.2.1.2.1 x.1.2.2.2.1.2.2 x.1.2.2.2.2 x.2.1 x.2.2.1 x.2.2.2.1.1 x.2.2.2.1.2.1 x.2.2.2.1.2.2⟩
theorem aeo:Sk.OK Tryz.prog 191:=ah (n:=10) (lf:=aC) (ak (l:=[(58,Uk),(59,Rg)]) (u:=[]) ⟨k91,k92,trivial⟩ trivial) (ai (l:=[(qg,4,Z9)]) ⟨⟨by kernel_rfl,fun z=>by kernel_rfl⟩,trivial⟩) fun x=>by kernel_rfl
abbrev EB:aa:=⟨19,[(0,.cont .i),(1,.fix (.fn (.func 190) [] [(.ptr qM 0),(.ptr qg 0),(.ptr n5 0)])),(7,.i),(8,.i)],[QR,P4,Z5,ZX],[],[]⟩
abbrev EG:aa:=⟨19,[],[QR,P4,Z5,ZX],[],[]⟩
abbrev Cv:aa:=⟨19,[(4,.i)],[QR,P4,Z5,ZX],[],[]⟩
noncomputable def Ev:aL:=⟨6,133,EB,0,EG,Cv,dO,false,none,none,[]⟩
abbrev DU:aa:=⟨19,[(0,.cont .i),(1,.fix (.fn (.func 190) [] [(.ptr qM 0),(.ptr qg 0),(.ptr n6 0)])),(7,.i),(8,.i)],[QR,P4,abc],[],[]⟩
abbrev DL:aa:=⟨19,[],[QR,P4,abc],[],[]⟩
abbrev EV:aa:=⟨19,[(4,.i)],[QR,P4,abc],[],[]⟩
noncomputable def DD:aL:=⟨6,133,DU,0,DL,EV,dV,false,none,none,[]⟩
noncomputable def S7:bA:=⟨[eT8,xq],[.val .i],fun x=>f139 x.1.1 x.1.2.1 x.1.2.2.1 x.1.2.2.2.1.1 x.1.2.2.2.1.2.1 x.1.2.2.2.1.2.2 x.1.2.2.2.2 x.2.1⟩
theorem aeQ:S7.OK Tryz.prog 174:=ah (n:=10) (lf:=aC) (ak (l:=[(20,U1),(111,T3),(191,Sk)]) (u:=[]) ⟨k45,k55,aeo,trivial⟩ trivial) (ai (l:=[(n7,2,Ev),(n8,2,DD)]) ⟨⟨by kernel_rfl,fun z=>by kernel_rfl⟩,⟨by kernel_rfl,fun z=>by kernel_rfl⟩,trivial⟩) fun x=>by kernel_rfl
noncomputable def ya:bA:=⟨[eT8,xq],[.own 99 fF,.val .i],fun x=>f115 x.1.1 x.1.2.1 x.1.2.2.1 x.1.2.2.2.1.1 x.1.2.2.2.1.2.1 x.1.2.2.2.1.2.2 x.1.2.2.2.2 x.2.1⟩
theorem V2:ya.OK Tryz.prog 152:=ah (n:=10) (lf:=aC) (ak (l:=[(78,oU),(174,S7)]) (u:=[]) ⟨xw,aeQ,trivial⟩ trivial) (ai (l:=[]) trivial) fun x=>by kernel_rfl
noncomputable def Tg:bA:=⟨[xq,.i,.i,.i],[.own 99 fF,.val .i],fun x=>f72 x.1 x.2.1 x.2.2.1 x.2.2.2.1⟩
theorem k72:Tg.OK Tryz.prog 125:=ah (n:=10) (lf:=aC) (ak (l:=[(152,ya)]) (u:=[]) ⟨V2,trivial⟩ trivial) (ai (l:=[]) trivial) fun x=>by kernel_rfl
noncomputable def Rq:bA:=⟨[xq,.i,.i],[.own 99 fF,.val .i],fun x=>f73 x.1 x.2.1 x.2.2.1⟩
theorem k73:Rq.OK Tryz.prog 126:=ah (n:=10) (lf:=aC) (ak (l:=[(152,ya)]) (u:=[]) ⟨V2,trivial⟩ trivial) (ai (l:=[]) trivial) fun x=>by kernel_rfl
noncomputable def TR:bA:=⟨[xq,.i,.i,.i,(.row .i)],[.own 99 fF,.val .i],fun x=>f74 x.1 x.2.1 x.2.2.1 x.2.2.2.1 x.2.2.2.2.1⟩
theorem k74:TR.OK Tryz.prog 127:=ah (n:=10) (lf:=aC) (ak (l:=[(152,ya)]) (u:=[]) ⟨V2,trivial⟩ trivial) (ai (l:=[]) trivial) fun x=>by kernel_rfl
abbrev abX:aa:=⟨24,[(6,.cont um),(7,.i),(8,.i)],[],[],[⟨.t 3,8294967488,3,.i⟩]⟩
abbrev acX:aa:=⟨24,[],[],[],[⟨.t 3,8294967520,3,.i⟩]⟩
abbrev acB:aa:=⟨24,[],[],[],[]⟩
noncomputable def ada:aL:=⟨9,128,abX,0,acX,acB,HE,false,none,none,[]⟩
noncomputable def Rh:bA:=⟨[Qr],[.own 3 .i],fun x=>f75 x.1⟩
theorem k75:Rh.OK Tryz.prog 128:=ah (n:=10) (lf:=aC) (ak (l:=[(138,NW)]) (u:=[(153,ZH),(154,I3)]) ⟨k98,trivial⟩ ⟨ZT,PE,trivial⟩) (ai (l:=[(qg,3,ada)]) ⟨⟨by kernel_rfl,fun z=>by kernel_rfl⟩,trivial⟩) fun x=>by kernel_rfl
noncomputable def SX:bA:=⟨[xq,.i,.i,(.row .i)],[.own 99 fF,.val .i],fun x=>f76 x.1 x.2.1 x.2.2.1 x.2.2.2.1⟩
theorem k76:SX.OK Tryz.prog 129:=ah (n:=10) (lf:=aC) (ak (l:=[(152,ya)]) (u:=[]) ⟨V2,trivial⟩ trivial) (ai (l:=[]) trivial) fun x=>by kernel_rfl
abbrev aco:aa:=⟨25,[(1,.i),(8,.cont um),(9,.i),(10,.i)],[],[],[⟨.t 5,8294967488,3,.i⟩]⟩
abbrev acT:aa:=⟨25,[],[],[],[⟨.t 5,8294967520,3,.i⟩]⟩
abbrev acH:aa:=⟨25,[],[],[],[]⟩
noncomputable def adx:aL:=⟨9,114,aco,0,acT,acH,Bl,false,none,none,[]⟩
noncomputable def Yn:bA:=⟨[Qr,.i],[.own 3 .i],fun x=>f21 x.1 x.2.1⟩
theorem k21:Yn.OK Tryz.prog 114:=ah (n:=10) (lf:=aC) (ak (l:=[]) (u:=[]) trivial trivial) (ai (l:=[(qg,3,adx)]) ⟨⟨by kernel_rfl,fun z=>by kernel_rfl⟩,trivial⟩) fun x=>by kernel_rfl
noncomputable def ZM:bA:=⟨[xq,.i],[.val .bool],fun x=>f23 x.1 x.2.1⟩
theorem k23:ZM.OK Tryz.prog 115:=ah (n:=10) (lf:=aC) (ak (l:=[(63,Oo)]) (u:=[]) ⟨k20,trivial⟩ trivial) (ai (l:=[]) trivial) fun x=>by kernel_rfl
noncomputable def Dp:bA:=⟨[aR],[.val .bool],fun x=>f144 x.1.1 x.1.2⟩
theorem aa2:Dp.OK Tryz.prog 182:=ah (n:=10) (lf:=aC) (ak (l:=[]) (u:=[]) trivial trivial) (ai (l:=[]) trivial) fun x=>by kernel_rfl
abbrev J8:aa:=⟨26,[(0,.fix (.jZ 4294979584)),(3,.int .u64)],[Z2,iF,(n9,.box 191 [.i,.i]),abY],[],[]⟩
abbrev HJ:aa:=⟨26,[],[Z2,iF,(n9,.box 191 [.i,.i]),abY],[],[]⟩
abbrev HS:aa:=⟨26,[],[Z2,iF,(n9,.box 191 [.i,.i]),(4294979584,.loop 139 3 (.done .ret) [.fix .aq,.fix .aq,.fix (.ptr qM 0),.fix (.lit (.tuple #[])),.fix .aq,.fix .aq,.fix (.lit (.tuple #[])),.fix (.lit (.tuple #[]))])],[],[]⟩
noncomputable def Fs:aL:=⟨8,181,J8,0,HJ,HS,cT,false,none,none,[]⟩
noncomputable def Zp:bA:=⟨[aR],[.val .i],fun x=>f99 x.1.1 x.1.2⟩
theorem k99:Zp.OK Tryz.prog 139:=ah (n:=10) (lf:=aC) (ak (l:=[(182,Dp),(183,ZF)]) (u:=[]) ⟨aa2,adX,trivial⟩ trivial) (ai (l:=[(18446796858857619456,2,Fs)]) ⟨⟨by kernel_rfl,fun z=>by kernel_rfl⟩,trivial⟩) fun x=>by kernel_rfl
noncomputable def RQ:bA:=⟨[.i],[.val aR,.val .bool],fun x=>f121 x.1⟩
theorem adZ:RQ.OK Tryz.prog 161:=ah (n:=10) (lf:=aC) (ak (l:=[(182,Dp)]) (u:=[]) ⟨aa2,trivial⟩ trivial) (ai (l:=[]) trivial) fun x=>by kernel_rfl
noncomputable def Mi:bA:=⟨[aR,.i],[.val .bool],fun x=>f171 x.1.1 x.1.2 x.2.1⟩
theorem ac4:Mi.OK Tryz.prog 206:=ah (n:=10) (lf:=aC) (ak (l:=[(182,Dp)]) (u:=[]) ⟨aa2,trivial⟩ trivial) (ai (l:=[]) trivial) fun x=>by kernel_rfl
noncomputable def Vh:bA:=⟨[aR,.i],[.val .bool],fun x=>f172 x.1.1 x.1.2 x.2.1⟩
theorem aeC:Vh.OK Tryz.prog 207:=ah (n:=10) (lf:=aC) (ak (l:=[(206,Mi)]) (u:=[]) ⟨ac4,trivial⟩ trivial) (ai (l:=[]) trivial) fun x=>by kernel_rfl
noncomputable def RS:bA:=⟨[aR,.i,.bool],[.val aR,.val .bool],fun x=>f146 x.1.1 x.1.2 x.2.1 x.2.2.1⟩
theorem aem:RS.OK Tryz.prog 184:=ah (n:=10) (lf:=aC) (ak (l:=[(206,Mi),(207,Vh)]) (u:=[]) ⟨ac4,aeC,trivial⟩ trivial) (ai (l:=[]) trivial) fun x=>by kernel_rfl
noncomputable def Sd:bA:=⟨[aR,.i],[.val aR,.val .bool],fun x=>f123 x.1.1 x.1.2 x.2.1⟩
theorem aea:Sd.OK Tryz.prog 163:=ah (n:=10) (lf:=aC) (ak (l:=[(184,RS)]) (u:=[]) ⟨aem,trivial⟩ trivial) (ai (l:=[]) trivial) fun x=>by kernel_rfl
abbrev abA:aa:=⟨69,[(2,.cont fF),(3,.i),Qt,PW,(24,.cont um),(25,.i),(26,.i)],[],[Qo,Qe],[⟨.t 11,8294967552,152,aR⟩]⟩
abbrev aba:aa:=⟨69,[(2,.cont fF),(3,.i),Qt,PW],[],[Qo,Qe],[⟨.t 11,8294967584,152,aR⟩]⟩
abbrev aav:aa:=⟨69,[],[],[],[]⟩
noncomputable def abj:aL:=⟨9,140,abA,0,aba,aav,uB,false,none,none,[]⟩
abbrev aa1:aa:=⟨69,[(3,.i),Qt,PW,(37,.cont fF),(38,.i),(39,.i)],[],[Qo,Qe],[⟨.t 11,8294967872,152,aR⟩]⟩
abbrev aaw:aa:=⟨69,[(3,.i),Qt,PW],[],[Qo,Qe],[⟨.t 11,8294967904,152,aR⟩]⟩
abbrev ZQ:aa:=⟨69,[],[],[],[]⟩
noncomputable def aaF:aL:=⟨9,140,aa1,2,aaw,ZQ,uj,false,none,none,[]⟩
abbrev VD:aa:=⟨69,[(3,.i),Qt,PW,(51,.i),(52,.i)],[],[Qo,Qe],[⟨.t 50,8294968192,152,aR⟩]⟩
abbrev V7:aa:=⟨69,[Qt,PW],[],[Qo,Qe],[]⟩
abbrev Xk:aa:=⟨69,[],[],[],[]⟩
noncomputable def VC:aL:=⟨9,140,VD,4,V7,Xk,pH,false,none,none,[]⟩
noncomputable def UD:bA:=⟨[QW,Qr,xq,.i],[.val aR],fun x=>f100 x.1.1.1 x.1.1.2 x.1.2.1.1 x.1.2.1.2 x.1.2.2.1 x.1.2.2.2.1 x.1.2.2.2.2.1 x.1.2.2.2.2.2 x.2.1 x.2.2.1 x.2.2.2.1⟩
theorem ad1:UD.OK Tryz.prog 140:=ah (n:=10) (lf:=aC) (ak (l:=[(109,UN),(138,NW),(161,RQ),(162,Ma),(163,Sd)]) (u:=[]) ⟨k50,k98,adZ,ach,aea,trivial⟩ trivial) (ai (l:=[(qg,4,abj),(qg,9,aaF),(qg,14,VC)]) ⟨⟨by kernel_rfl,fun z=>by kernel_rfl⟩,⟨by kernel_rfl,fun z=>by kernel_rfl⟩,⟨by kernel_rfl,fun z=>by kernel_rfl⟩,trivial⟩) fun x=>by kernel_rfl
noncomputable def Cr:bA:=⟨[aR,aR],[.val .i],fun x=>f132 x.1.1 x.1.2 x.2.1.1 x.2.1.2⟩
theorem abr:Cr.OK Tryz.prog 168:=ah (n:=10) (lf:=aC) (ak (l:=[(186,Kz),(187,Lw)]) (u:=[]) ⟨acp,ab0,trivial⟩ trivial) (ai (l:=[]) trivial) fun x=>by kernel_rfl
abbrev aaK:aa:=⟨72,[Ud,(3,.fix (.mp 4294971392)),(4,.fix (.ptr 4294975536 0)),(12,.cont aR),(13,.i),(14,.i)],[],[gq,(4294971392,.map),(4294975536,.box 170 [.i,.i])],[]⟩
abbrev aai:aa:=⟨72,[Ud],[],[gq],[]⟩
abbrev aaB:aa:=⟨72,[(2,.bool)],[],[],[]⟩
noncomputable def Z6:aL:=⟨9,143,aaK,0,aai,aaB,uq,false,none,none,[]⟩
noncomputable def Fk:bA:=⟨[Zr],[.val .bool],fun x=>f104 x.1.1 x.1.2⟩
theorem aaY:Fk.OK Tryz.prog 143:=ah (n:=10) (lf:=aC) (ak (l:=[(168,Cr)]) (u:=[]) ⟨abr,trivial⟩ trivial) (ai (l:=[(qg,4,Z6)]) ⟨⟨by kernel_rfl,fun z=>by kernel_rfl⟩,trivial⟩) fun x=>by kernel_rfl
noncomputable def ZJ:bA:=⟨[.i],[.val Zr,.val .bool],fun x=>f67 x.1⟩
theorem k67:ZJ.OK Tryz.prog 121:=ah (n:=10) (lf:=aC) (ak (l:=[(143,Fk)]) (u:=[]) ⟨aaY,trivial⟩ trivial) (ai (l:=[]) trivial) fun x=>by kernel_rfl
noncomputable def Lj:bA:=⟨[Zr],[.val Zr],fun x=>f106 x.1.1 x.1.2⟩
theorem adL:Lj.OK Tryz.prog 145:=ah (n:=10) (lf:=aC) (ak (l:=[(169,Ba)]) (u:=[]) ⟨UO,trivial⟩ trivial) (ai (l:=[]) trivial) fun x=>by kernel_rfl
noncomputable def KH:bA:=⟨[.i],[.val .i],fun x=>f135 x.1⟩
theorem adl:KH.OK Tryz.prog 171:=ah (n:=10) (lf:=aC) (ak (l:=[]) (u:=[]) trivial trivial) (ai (l:=[]) trivial) fun x=>by kernel_rfl
noncomputable def LF:bA:=⟨[aR],[.val .bool],fun x=>f136 x.1.1 x.1.2⟩
theorem acD:LF.OK Tryz.prog 172:=ah (n:=10) (lf:=aC) (ak (l:=[]) (u:=[]) trivial trivial) (ai (l:=[]) trivial) fun x=>by kernel_rfl
noncomputable def Ym:bA:=⟨[Pk],[.pair (.val QW) (.pair (.val Uf) (.pair (.val .i) (.pair (.own 99 fF) (.pair (.own 56 um) (.own 84 fF)))))],fun x=>f40 x.1.1.1.1 x.1.1.1.2 x.1.1.2.1.1 x.1.1.2.1.2 x.1.1.2.2.1 x.1.1.2.2.2.1 x.1.1.2.2.2.2.1 x.1.1.2.2.2.2.2 x.1.2.1.1 x.1.2.1.2.1 x.1.2.1.2.2.1 x.1.2.1.2.2.2 x.1.2.2.1 x.1.2.2.2.1 x.1.2.2.2.2.1 x.1.2.2.2.2.2⟩
theorem k40:Ym.OK Tryz.prog 76:=ah (n:=10) (lf:=aC) (ak (l:=[(78,oU),(79,iO),(80,j7)]) (u:=[]) ⟨xw,om,tG,trivial⟩ trivial) (ai (l:=[]) trivial) fun x=>by kernel_rfl
abbrev Jm:aa:=⟨19,[(0,.cont aR),(1,.fix (.fn (.func 144) [] [(.ptr qM 0)])),(7,.i),(8,.i)],[gq,iF,(rP,.box 162 [.i,.fix (.sl 79228767881064622257819297920 0)])],[],[⟨.c rP 1,79228767881064622257819297920,170,aR⟩]⟩
abbrev G8:aa:=⟨19,[],[gq,iF,lI],[],[⟨.c rP 1,n10,170,aR⟩]⟩
abbrev HC:aa:=⟨19,[(4,.i)],[gq,iF,(rP,.box 162 [.i,.fix (.sl 79228767881064622257819297968 0)])],[],[⟨.c rP 1,79228767881064622257819297968,170,aR⟩]⟩
noncomputable def IE:aL:=⟨7,170,Jm,0,G8,HC,fe,false,none,none,[]⟩
abbrev I7:aa:=⟨22,[(3,.fix (.ptr n11 0)),(11,.cont aR),(12,.i),(13,.i)],[gq,iF,lI,mE],[(n11,.box 204 [.i,.fix (.sl 18446955256956528832 0),.fix (.sl 18446955256956528833 0),.fix (.sl 18446955256956528834 0),.fix (.sl 18446955256956528835 0),.fix (.sl 18446955256956528836 0),.fix (.sl 18446955256956528837 0),.fix (.sl 18446955256956528838 0),.fix (.sl 18446955256956528839 0)])],[⟨.c n11 1,18446955256956528832,170,aR⟩,⟨.c n11 2,18446955256956528833,170,aR⟩,⟨.c n11 3,18446955256956528834,170,aR⟩,⟨.c n11 4,18446955256956528835,170,aR⟩,⟨.c n11 5,18446955256956528836,170,aR⟩,⟨.c n11 6,18446955256956528837,170,aR⟩,⟨.c n11 7,18446955256956528838,170,aR⟩,⟨.c n11 8,18446955256956528839,170,aR⟩]⟩
abbrev JS:aa:=⟨22,[(3,.fix (.ptr n11 0))],[gq,iF,lI,mE],[(n11,.box 204 [.i,.fix (.sl n12 0),.fix (.sl n13 0),.fix (.sl n14 0),.fix (.sl n15 0),.fix (.sl n16 0),.fix (.sl n17 0),.fix (.sl n18 0),.fix (.sl n19 0)])],[⟨.c n11 1,n12,170,aR⟩,⟨.c n11 2,n13,170,aR⟩,⟨.c n11 3,n14,170,aR⟩,⟨.c n11 4,n15,170,aR⟩,⟨.c n11 5,n16,170,aR⟩,⟨.c n11 6,n17,170,aR⟩,⟨.c n11 7,n18,170,aR⟩,⟨.c n11 8,n19,170,aR⟩]⟩
abbrev FI:aa:=⟨22,[],[GB,PI,aaT,acw],[],[]⟩
noncomputable def FU:aL:=⟨8,147,I7,0,JS,FI,eU,false,none,none,[]⟩
abbrev Iy:aa:=⟨47,[Kg,qA,QK,Kh,PO,(19,.fix (.sl n12 1)),xd,xu],[gq,iF,lI,mE,acG,qn,qd,qp,qa,qi,p7,p6,qk,qc,qb,(n22,.box 162 [.i,.fix (.sl n23 0)])],[],[Y4,YX,⟨.c n22 1,n23,170,aR⟩]⟩
abbrev JM:aa:=⟨47,[Kg,qA,QK,Kh,PO],[gq,iF,lI,mE,acG,qn,qd,qp,qa,qi,p7,p6,qk,qc,qb,(n22,.box 162 [.i,.fix (.sl n26 0)])],[],[YC,Y1,⟨.c n22 1,n26,170,aR⟩]⟩
abbrev JF:aa:=⟨47,[],YK,[],[]⟩
noncomputable def G6:aL:=⟨7,150,Iy,2,JM,JF,e8,false,none,some (15,0),[]⟩
abbrev FM:aa:=⟨47,[Kg,qA,P3,Kh,O3,(19,.fix (.sl n13 1)),xd,xu],[gq,iF,lI,mE,(n11,.box 204 [.i,.fix (.sl n23 0),.fix (.sl n13 1),.fix (.sl n14 1),.fix (.sl n15 1),.fix (.sl n16 1),.fix (.sl n17 1),.fix (.sl n18 1),.fix (.sl n19 1)]),qn,qd,qp,qa,qi,p7,p6,qk,qc,qb,(n22,.box 162 [.i,.fix (.sl n29 0)])],[],[Y4,YX,Kw,⟨.c n22 1,n29,170,aR⟩]⟩
abbrev Jh:aa:=⟨47,[Kg,qA,P3,Kh,O3],[gq,iF,lI,mE,(n11,.box 204 [.i,.fix (.sl n26 0),.fix (.sl n13 1),.fix (.sl n14 1),.fix (.sl n15 1),.fix (.sl n16 1),.fix (.sl n17 1),.fix (.sl n18 1),.fix (.sl n19 1)]),qn,qd,qp,qa,qi,p7,p6,qk,qc,qb,(n22,.box 162 [.i,.fix (.sl n30 0)])],[],[YC,Y1,Li,⟨.c n22 1,n30,170,aR⟩]⟩
abbrev Ip:aa:=⟨47,[],YK,[],[]⟩
noncomputable def HY:aL:=⟨7,150,FM,2,Jh,Ip,fz,false,none,some (15,1),[]⟩
abbrev H9:aa:=⟨47,[Kg,qA,QJ,Kh,QL,(19,.fix (.sl n14 1)),xd,xu],[gq,iF,lI,mE,(n11,.box 204 [.i,.fix (.sl n23 0),.fix (.sl n29 0),.fix (.sl n14 1),.fix (.sl n15 1),.fix (.sl n16 1),.fix (.sl n17 1),.fix (.sl n18 1),.fix (.sl n19 1)]),qn,qd,qp,qa,qi,p7,p6,qk,qc,qb,(n22,.box 162 [.i,.fix (.sl n31 0)])],[],[Y4,YX,Kw,Pm,⟨.c n22 1,n31,170,aR⟩]⟩
abbrev Fx:aa:=⟨47,[Kg,qA,QJ,Kh,QL],[gq,iF,lI,mE,(n11,.box 204 [.i,.fix (.sl n26 0),.fix (.sl n30 0),.fix (.sl n14 1),.fix (.sl n15 1),.fix (.sl n16 1),.fix (.sl n17 1),.fix (.sl n18 1),.fix (.sl n19 1)]),qn,qd,qp,qa,qi,p7,p6,qk,qc,qb,(n22,.box 162 [.i,.fix (.sl n32 0)])],[],[YC,Y1,Li,Pq,⟨.c n22 1,n32,170,aR⟩]⟩
abbrev Hp:aa:=⟨47,[],YK,[],[]⟩
noncomputable def Ge:aL:=⟨7,150,H9,2,Fx,Hp,e9,false,none,some (15,2),[]⟩
abbrev Gq:aa:=⟨47,[Kg,qA,O0,Kh,Qn,(19,.fix (.sl n15 1)),xd,xu],[gq,iF,lI,mE,(n11,.box 204 [.i,.fix (.sl n23 0),.fix (.sl n29 0),.fix (.sl n31 0),.fix (.sl n15 1),.fix (.sl n16 1),.fix (.sl n17 1),.fix (.sl n18 1),.fix (.sl n19 1)]),qn,qd,qp,qa,qi,p7,p6,qk,qc,qb,(n22,.box 162 [.i,.fix (.sl n33 0)])],[],[Y4,YX,Kw,Pm,Q7,⟨.c n22 1,n33,170,aR⟩]⟩
abbrev Ii:aa:=⟨47,[Kg,qA,O0,Kh,Qn],[gq,iF,lI,mE,(n11,.box 204 [.i,.fix (.sl n26 0),.fix (.sl n30 0),.fix (.sl n32 0),.fix (.sl n15 1),.fix (.sl n16 1),.fix (.sl n17 1),.fix (.sl n18 1),.fix (.sl n19 1)]),qn,qd,qp,qa,qi,p7,p6,qk,qc,qb,(n22,.box 162 [.i,.fix (.sl n34 0)])],[],[YC,Y1,Li,Pq,Sb,⟨.c n22 1,n34,170,aR⟩]⟩
abbrev Ft:aa:=⟨47,[],YK,[],[]⟩
noncomputable def Gf:aL:=⟨7,150,Gq,2,Ii,Ft,eW,false,none,some (15,3),[]⟩
abbrev Gw:aa:=⟨47,[Kg,qA,PU,Kh,PX,(19,.fix (.sl n16 1)),xd,xu],[gq,iF,lI,mE,(n11,.box 204 [.i,.fix (.sl n23 0),.fix (.sl n29 0),.fix (.sl n31 0),.fix (.sl n33 0),.fix (.sl n16 1),.fix (.sl n17 1),.fix (.sl n18 1),.fix (.sl n19 1)]),qn,qd,qp,qa,qi,p7,p6,qk,qc,qb,(n22,.box 162 [.i,.fix (.sl n35 0)])],[],[Y4,YX,Kw,Pm,Q7,Vw,⟨.c n22 1,n35,170,aR⟩]⟩
abbrev Hu:aa:=⟨47,[Kg,qA,PU,Kh,PX],[gq,iF,lI,mE,(n11,.box 204 [.i,.fix (.sl n26 0),.fix (.sl n30 0),.fix (.sl n32 0),.fix (.sl n34 0),.fix (.sl n16 1),.fix (.sl n17 1),.fix (.sl n18 1),.fix (.sl n19 1)]),qn,qd,qp,qa,qi,p7,p6,qk,qc,qb,(n22,.box 162 [.i,.fix (.sl n36 0)])],[],[YC,Y1,Li,Pq,Sb,Yb,⟨.c n22 1,n36,170,aR⟩]⟩
abbrev HM:aa:=⟨47,[],YK,[],[]⟩
noncomputable def HQ:aL:=⟨7,150,Gw,2,Hu,HM,eY,false,none,some (15,4),[]⟩
abbrev ID:aa:=⟨47,[Kg,qA,OW,Kh,Qg,(19,.fix (.sl n17 1)),xd,xu],[gq,iF,lI,mE,(n11,.box 204 [.i,.fix (.sl n23 0),.fix (.sl n29 0),.fix (.sl n31 0),.fix (.sl n33 0),.fix (.sl n35 0),.fix (.sl n17 1),.fix (.sl n18 1),.fix (.sl n19 1)]),qn,qd,qp,qa,qi,p7,p6,qk,qc,qb,(n22,.box 162 [.i,.fix (.sl n37 0)])],[],[Y4,YX,Kw,Pm,Q7,Vw,aad,⟨.c n22 1,n37,170,aR⟩]⟩
abbrev J1:aa:=⟨47,[Kg,qA,OW,Kh,Qg],[gq,iF,lI,mE,(n11,.box 204 [.i,.fix (.sl n26 0),.fix (.sl n30 0),.fix (.sl n32 0),.fix (.sl n34 0),.fix (.sl n36 0),.fix (.sl n17 1),.fix (.sl n18 1),.fix (.sl n19 1)]),qn,qd,qp,qa,qi,p7,p6,qk,qc,qb,(n22,.box 162 [.i,.fix (.sl n38 0)])],[],[YC,Y1,Li,Pq,Sb,Yb,aa0,⟨.c n22 1,n38,170,aR⟩]⟩
abbrev GG:aa:=⟨47,[],YK,[],[]⟩
noncomputable def FO:aL:=⟨7,150,ID,2,J1,GG,fu,false,none,some (15,5),[]⟩
abbrev Hz:aa:=⟨47,[Kg,qA,OR,Kh,Po,(19,.fix (.sl n18 1)),xd,xu],[gq,iF,lI,mE,(n11,.box 204 [.i,.fix (.sl n23 0),.fix (.sl n29 0),.fix (.sl n31 0),.fix (.sl n33 0),.fix (.sl n35 0),.fix (.sl n37 0),.fix (.sl n18 1),.fix (.sl n19 1)]),qn,qd,qp,qa,qi,p7,p6,qk,qc,qb,(n22,.box 162 [.i,.fix (.sl n39 0)])],[],[Y4,YX,Kw,Pm,Q7,Vw,aad,⟨.c n11 6,n37,170,aR⟩,⟨.c n22 1,n39,170,aR⟩]⟩
abbrev Ia:aa:=⟨47,[Kg,qA,OR,Kh,Po],[gq,iF,lI,mE,(n11,.box 204 [.i,.fix (.sl n26 0),.fix (.sl n30 0),.fix (.sl n32 0),.fix (.sl n34 0),.fix (.sl n36 0),.fix (.sl n38 0),.fix (.sl n18 1),.fix (.sl n19 1)]),qn,qd,qp,qa,qi,p7,p6,qk,qc,qb,(n22,.box 162 [.i,.fix (.sl n40 0)])],[],[YC,Y1,Li,Pq,Sb,Yb,aa0,⟨.c n11 6,n38,170,aR⟩,⟨.c n22 1,n40,170,aR⟩]⟩
abbrev Gi:aa:=⟨47,[],YK,[],[]⟩
noncomputable def J9:aL:=⟨7,150,Hz,2,Ia,Gi,fk,false,none,some (15,6),[]⟩
abbrev GZ:aa:=⟨47,[Kg,qA,Qk,Kh,QA,(19,.fix (.sl n19 1)),xd,xu],[gq,iF,lI,mE,(n11,.box 204 [.i,.fix (.sl n23 0),.fix (.sl n29 0),.fix (.sl n31 0),.fix (.sl n33 0),.fix (.sl n35 0),.fix (.sl n37 0),.fix (.sl n39 0),.fix (.sl n19 1)]),qn,qd,qp,qa,qi,p7,p6,qk,qc,qb,(n22,.box 162 [.i,.fix (.sl 79229220637951167591212591561 0)])],[],[Y4,YX,Kw,Pm,Q7,Vw,aad,⟨.c n11 6,n37,170,aR⟩,⟨.c n11 7,n39,170,aR⟩,⟨.c n22 1,79229220637951167591212591561,170,aR⟩]⟩
abbrev F5:aa:=⟨47,[Kg,qA,Qk,Kh,QA],[gq,iF,lI,mE,(n11,.box 204 [.i,.fix (.sl n26 0),.fix (.sl n30 0),.fix (.sl n32 0),.fix (.sl n34 0),.fix (.sl n36 0),.fix (.sl n38 0),.fix (.sl n40 0),.fix (.sl n19 1)]),qn,qd,qp,qa,qi,p7,p6,qk,qc,qb,(n22,.box 162 [.i,.fix (.sl 79229220637951167591212591593 0)])],[],[YC,Y1,Li,Pq,Sb,Yb,aa0,⟨.c n11 6,n38,170,aR⟩,⟨.c n11 7,n40,170,aR⟩,⟨.c n22 1,79229220637951167591212591593,170,aR⟩]⟩
abbrev GW:aa:=⟨47,[],YK,[],[]⟩
noncomputable def IU:aL:=⟨7,150,GZ,2,F5,GW,fh,false,none,some (15,7),[]⟩
noncomputable def Zj:bA:=⟨[Zr,.i,.i],[.val Zr,.val .i],fun x=>f68 x.1.1 x.1.2 x.2.1 x.2.2.1⟩
theorem k68:Zj.OK Tryz.prog 122:=ah (n:=10) (lf:=aC) (ak (l:=[(143,Fk),(145,Lj),(168,Cr),(171,KH),(172,LF)]) (u:=[(173,Mr)]) ⟨aaY,adL,abr,adl,acD,trivial⟩ ⟨Oh,trivial⟩) (ai (l:=[(79228767881064622253819297792,2,IE),(18446955252956528640,3,FU),(n41,7,G6),(n41,7,HY),(n41,7,Ge),(n41,7,Gf),(n41,7,HQ),(n41,7,FO),(n41,7,J9),(n41,7,IU)]) ⟨⟨by kernel_rfl,fun z=>by kernel_rfl⟩,⟨by kernel_rfl,fun z=>by kernel_rfl⟩,⟨by kernel_rfl,fun z=>by kernel_rfl⟩,⟨by kernel_rfl,fun z=>by kernel_rfl⟩,⟨by kernel_rfl,fun z=>by kernel_rfl⟩,⟨by kernel_rfl,fun z=>by kernel_rfl⟩,⟨by kernel_rfl,fun z=>by kernel_rfl⟩,⟨by kernel_rfl,fun z=>by kernel_rfl⟩,⟨by kernel_rfl,fun z=>by kernel_rfl⟩,⟨by kernel_rfl,fun z=>by kernel_rfl⟩,trivial⟩) fun x=>by kernel_rfl
abbrev FZ:aa:=⟨22,[(3,.fix (.ptr n42 0)),(11,.cont aR),(12,.i),(13,.i)],[gq,(qM,.box 162 [.i,.fix (.sl 18446849703840262336 0)])],[(n42,.box 204 [.i,.fix (.sl 18446849703840262337 0),.fix (.sl 18446849703840262338 0),.fix (.sl 18446849703840262339 0),.fix (.sl 18446849703840262340 0),.fix (.sl 18446849703840262341 0),.fix (.sl 18446849703840262342 0),.fix (.sl 18446849703840262343 0),.fix (.sl 18446849703840262344 0)])],[⟨.c qM 1,18446849703840262336,170,aR⟩,⟨.c n42 1,18446849703840262337,170,aR⟩,⟨.c n42 2,18446849703840262338,170,aR⟩,⟨.c n42 3,18446849703840262339,170,aR⟩,⟨.c n42 4,18446849703840262340,170,aR⟩,⟨.c n42 5,18446849703840262341,170,aR⟩,⟨.c n42 6,18446849703840262342,170,aR⟩,⟨.c n42 7,18446849703840262343,170,aR⟩,⟨.c n42 8,18446849703840262344,170,aR⟩]⟩
abbrev FT:aa:=⟨22,[(3,.fix (.ptr n42 0))],[gq,qw],[ace],[⟨.c qM 1,n43,170,aR⟩,⟨.c n42 1,n44,170,aR⟩,⟨.c n42 2,n45,170,aR⟩,⟨.c n42 3,n46,170,aR⟩,⟨.c n42 4,n47,170,aR⟩,⟨.c n42 5,n48,170,aR⟩,⟨.c n42 6,n49,170,aR⟩,⟨.c n42 7,n50,170,aR⟩,⟨.c n42 8,n51,170,aR⟩]⟩
abbrev Fw:aa:=⟨22,[],[GB,PI],[],[]⟩
noncomputable def Hi:aL:=⟨8,147,FZ,0,FT,Fw,eV,false,none,none,[]⟩
abbrev I6:aa:=⟨47,[qt,Ki,QK,Kl,PO,(19,.fix (.sl n44 0)),xd,xu],kL5,[],[YE,ZE]⟩
abbrev GX:aa:=⟨47,[qt,Ki,QK,Kl,PO],kL5,[],[Yu,Yv]⟩
abbrev FL:aa:=⟨47,[],YG,[],[]⟩
noncomputable def Jl:aL:=⟨8,150,I6,2,GX,FL,fw,false,none,some (15,0),[]⟩
abbrev Gk:aa:=⟨47,[qt,Ki,P3,Kl,O3,(19,.fix (.sl n45 0)),xd,xu],[gq,qw,(n42,.box 204 [.i,.fix (.sl n56 0),.fix (.sl n45 0),.fix (.sl n46 0),.fix (.sl n47 0),.fix (.sl n48 0),.fix (.sl n49 0),.fix (.sl n50 0),.fix (.sl n51 0)]),rI,rM,rR,rL,rq,qJ,qL,qF,eC],[],[YE,ZE,Me]⟩
abbrev IG:aa:=⟨47,[qt,Ki,P3,Kl,O3],[gq,qw,(n42,.box 204 [.i,.fix (.sl n57 0),.fix (.sl n45 0),.fix (.sl n46 0),.fix (.sl n47 0),.fix (.sl n48 0),.fix (.sl n49 0),.fix (.sl n50 0),.fix (.sl n51 0)]),rI,rM,rR,rL,rq,qJ,qL,qF,eC],[],[Yu,Yv,L8]⟩
abbrev JH:aa:=⟨47,[],YG,[],[]⟩
noncomputable def F7:aL:=⟨8,150,Gk,2,IG,JH,fC,false,none,some (15,1),[]⟩
abbrev HV:aa:=⟨47,[qt,Ki,QJ,Kl,QL,(19,.fix (.sl n46 0)),xd,xu],[gq,qw,(n42,.box 204 [.i,.fix (.sl n56 0),.fix (.sl n58 0),.fix (.sl n46 0),.fix (.sl n47 0),.fix (.sl n48 0),.fix (.sl n49 0),.fix (.sl n50 0),.fix (.sl n51 0)]),rI,rM,rR,rL,rq,qJ,qL,qF,eC],[],[YE,ZE,Me,QB]⟩
abbrev GH:aa:=⟨47,[qt,Ki,QJ,Kl,QL],[gq,qw,(n42,.box 204 [.i,.fix (.sl n57 0),.fix (.sl n59 0),.fix (.sl n46 0),.fix (.sl n47 0),.fix (.sl n48 0),.fix (.sl n49 0),.fix (.sl n50 0),.fix (.sl n51 0)]),rI,rM,rR,rL,rq,qJ,qL,qF,eC],[],[Yu,Yv,L8,Pt]⟩
abbrev Ju:aa:=⟨47,[],YG,[],[]⟩
noncomputable def Im:aL:=⟨8,150,HV,2,GH,Ju,fp,false,none,some (15,2),[]⟩
abbrev GF:aa:=⟨47,[qt,Ki,O0,Kl,Qn,(19,.fix (.sl n47 0)),xd,xu],[gq,qw,(n42,.box 204 [.i,.fix (.sl n56 0),.fix (.sl n58 0),.fix (.sl n60 0),.fix (.sl n47 0),.fix (.sl n48 0),.fix (.sl n49 0),.fix (.sl n50 0),.fix (.sl n51 0)]),rI,rM,rR,rL,rq,qJ,qL,qF,eC],[],[YE,ZE,Me,QB,Vb]⟩
abbrev Iw:aa:=⟨47,[qt,Ki,O0,Kl,Qn],[gq,qw,(n42,.box 204 [.i,.fix (.sl n57 0),.fix (.sl n59 0),.fix (.sl n61 0),.fix (.sl n47 0),.fix (.sl n48 0),.fix (.sl n49 0),.fix (.sl n50 0),.fix (.sl n51 0)]),rI,rM,rR,rL,rq,qJ,qL,qF,eC],[],[Yu,Yv,L8,Pt,Sv]⟩
abbrev Gj:aa:=⟨47,[],YG,[],[]⟩
noncomputable def F0:aL:=⟨8,150,GF,2,Iw,Gj,eM,false,none,some (15,3),[]⟩
abbrev HO:aa:=⟨47,[qt,Ki,PU,Kl,PX,(19,.fix (.sl n48 0)),xd,xu],[gq,qw,(n42,.box 204 [.i,.fix (.sl n56 0),.fix (.sl n58 0),.fix (.sl n60 0),.fix (.sl n62 0),.fix (.sl n48 0),.fix (.sl n49 0),.fix (.sl n50 0),.fix (.sl n51 0)]),rI,rM,rR,rL,rq,qJ,qL,qF,eC],[],[YE,ZE,Me,QB,Vb,Wq]⟩
abbrev IR:aa:=⟨47,[qt,Ki,PU,Kl,PX],[gq,qw,(n42,.box 204 [.i,.fix (.sl n57 0),.fix (.sl n59 0),.fix (.sl n61 0),.fix (.sl n63 0),.fix (.sl n48 0),.fix (.sl n49 0),.fix (.sl n50 0),.fix (.sl n51 0)]),rI,rM,rR,rL,rq,qJ,qL,qF,eC],[],[Yu,Yv,L8,Pt,Sv,XC]⟩
abbrev Gc:aa:=⟨47,[],YG,[],[]⟩
noncomputable def Jg:aL:=⟨8,150,HO,2,IR,Gc,eX,false,none,some (15,4),[]⟩
abbrev It:aa:=⟨47,[qt,Ki,OW,Kl,Qg,(19,.fix (.sl n49 0)),xd,xu],[gq,qw,(n42,.box 204 [.i,.fix (.sl n56 0),.fix (.sl n58 0),.fix (.sl n60 0),.fix (.sl n62 0),.fix (.sl n64 0),.fix (.sl n49 0),.fix (.sl n50 0),.fix (.sl n51 0)]),rI,rM,rR,rL,rq,qJ,qL,qF,eC],[],[YE,ZE,Me,QB,Vb,Wq,abf]⟩
abbrev Iz:aa:=⟨47,[qt,Ki,OW,Kl,Qg],[gq,qw,(n42,.box 204 [.i,.fix (.sl n57 0),.fix (.sl n59 0),.fix (.sl n61 0),.fix (.sl n63 0),.fix (.sl n65 0),.fix (.sl n49 0),.fix (.sl n50 0),.fix (.sl n51 0)]),rI,rM,rR,rL,rq,qJ,qL,qF,eC],[],[Yu,Yv,L8,Pt,Sv,XC,abu]⟩
abbrev FY:aa:=⟨47,[],YG,[],[]⟩
noncomputable def Hq:aL:=⟨8,150,It,2,Iz,FY,eZ,false,none,some (15,5),[]⟩
abbrev JT:aa:=⟨47,[qt,Ki,OR,Kl,Po,(19,.fix (.sl n50 0)),xd,xu],[gq,qw,(n42,.box 204 [.i,.fix (.sl n56 0),.fix (.sl n58 0),.fix (.sl n60 0),.fix (.sl n62 0),.fix (.sl n64 0),.fix (.sl n66 0),.fix (.sl n50 0),.fix (.sl n51 0)]),rI,rM,rR,rL,rq,qJ,qL,qF,eC],[],[YE,ZE,Me,QB,Vb,Wq,abf,⟨.c n42 6,n66,170,aR⟩]⟩
abbrev Jx:aa:=⟨47,[qt,Ki,OR,Kl,Po],[gq,qw,(n42,.box 204 [.i,.fix (.sl n57 0),.fix (.sl n59 0),.fix (.sl n61 0),.fix (.sl n63 0),.fix (.sl n65 0),.fix (.sl n67 0),.fix (.sl n50 0),.fix (.sl n51 0)]),rI,rM,rR,rL,rq,qJ,qL,qF,eC],[],[Yu,Yv,L8,Pt,Sv,XC,abu,⟨.c n42 6,n67,170,aR⟩]⟩
abbrev HB:aa:=⟨47,[],YG,[],[]⟩
noncomputable def Ht:aL:=⟨8,150,JT,2,Jx,HB,fq,false,none,some (15,6),[]⟩
abbrev Ij:aa:=⟨47,[qt,Ki,Qk,Kl,QA,(19,.fix (.sl n51 0)),xd,xu],[gq,qw,(n42,.box 204 [.i,.fix (.sl n56 0),.fix (.sl n58 0),.fix (.sl n60 0),.fix (.sl n62 0),.fix (.sl n64 0),.fix (.sl n66 0),.fix (.sl 18446885025651304904 0),.fix (.sl n51 0)]),rI,rM,rR,rL,rq,qJ,qL,qF,eC],[],[YE,ZE,Me,QB,Vb,Wq,abf,⟨.c n42 6,n66,170,aR⟩,⟨.c n42 7,18446885025651304904,170,aR⟩]⟩
abbrev Js:aa:=⟨47,[qt,Ki,Qk,Kl,QA],[gq,qw,(n42,.box 204 [.i,.fix (.sl n57 0),.fix (.sl n59 0),.fix (.sl n61 0),.fix (.sl n63 0),.fix (.sl n65 0),.fix (.sl n67 0),.fix (.sl n68 0),.fix (.sl n51 0)]),rI,rM,rR,rL,rq,qJ,qL,qF,eC],[],[Yu,Yv,L8,Pt,Sv,XC,abu,⟨.c n42 6,n67,170,aR⟩,⟨.c n42 7,n68,170,aR⟩]⟩
abbrev JG:aa:=⟨47,[],YG,[],[]⟩
noncomputable def JD:aL:=⟨8,150,Ij,2,Js,JG,fm,false,none,some (15,7),[]⟩
abbrev Fu:aa:=⟨47,[qt,qA,QK,Km,PO,(19,.fix (.sl n57 0)),xd,xu],[gq,qw,abT,rI,rM,rR,rL,rq,qJ,qL,qF,eC,qh,pX,qf,qq,qe,pY,pZ,qj,p9,(n69,.box 162 [.i,.fix (.sl n70 0)])],[],[YV,Y0,⟨.c n69 1,n70,170,aR⟩]⟩
abbrev Jv:aa:=⟨47,[qt,qA,QK,Km,PO],[gq,qw,abT,rI,rM,rR,rL,rq,qJ,qL,qF,eC,qh,pX,qf,qq,qe,pY,pZ,qj,p9,(n69,.box 162 [.i,.fix (.sl Vs 0)])],[],[Gz,G1,⟨.c n69 1,Vs,170,aR⟩]⟩
abbrev Gx:aa:=⟨47,[],Zf,[],[]⟩
noncomputable def Kf:aL:=⟨7,150,Fu,2,Jv,Gx,eS,false,none,some (15,0),[]⟩
abbrev Ja:aa:=⟨47,[qt,qA,P3,Km,O3,(19,.fix (.sl n59 0)),xd,xu],[gq,qw,(n42,.box 204 [.i,.fix (.sl n70 0),.fix (.sl n59 0),.fix (.sl n61 0),.fix (.sl n63 0),.fix (.sl n65 0),.fix (.sl n67 0),.fix (.sl n68 0),.fix (.sl n55 0)]),rI,rM,rR,rL,rq,qJ,qL,qF,eC,qh,pX,qf,qq,qe,pY,pZ,qj,p9,(n69,.box 162 [.i,.fix (.sl XP 0)])],[],[YV,Y0,KR,⟨.c n69 1,XP,170,aR⟩]⟩
abbrev G7:aa:=⟨47,[qt,qA,P3,Km,O3],[gq,qw,(n42,.box 204 [.i,.fix (.sl Vs 0),.fix (.sl n59 0),.fix (.sl n61 0),.fix (.sl n63 0),.fix (.sl n65 0),.fix (.sl n67 0),.fix (.sl n68 0),.fix (.sl n55 0)]),rI,rM,rR,rL,rq,qJ,qL,qF,eC,qh,pX,qf,qq,qe,pY,pZ,qj,p9,(n69,.box 162 [.i,.fix (.sl XG 0)])],[],[Gz,G1,Mw,⟨.c n69 1,XG,170,aR⟩]⟩
abbrev I4:aa:=⟨47,[],Zf,[],[]⟩
noncomputable def HH:aL:=⟨7,150,Ja,2,G7,I4,fA,false,none,some (15,1),[]⟩
abbrev DN:aa:=⟨47,[qt,qA,QJ,Km,QL,(19,.fix (.sl n61 0)),xd,xu],[gq,qw,(n42,.box 204 [.i,.fix (.sl n70 0),.fix (.sl XP 0),.fix (.sl n61 0),.fix (.sl n63 0),.fix (.sl n65 0),.fix (.sl n67 0),.fix (.sl n68 0),.fix (.sl n55 0)]),rI,rM,rR,rL,rq,qJ,qL,qF,eC,qh,pX,qf,qq,qe,pY,pZ,qj,p9,(n69,.box 162 [.i,.fix (.sl Zg 0)])],[],[YV,Y0,KR,PC,⟨.c n69 1,Zg,170,aR⟩]⟩
abbrev DS:aa:=⟨47,[qt,qA,QJ,Km,QL],[gq,qw,(n42,.box 204 [.i,.fix (.sl Vs 0),.fix (.sl XG 0),.fix (.sl n61 0),.fix (.sl n63 0),.fix (.sl n65 0),.fix (.sl n67 0),.fix (.sl n68 0),.fix (.sl n55 0)]),rI,rM,rR,rL,rq,qJ,qL,qF,eC,qh,pX,qf,qq,qe,pY,pZ,qj,p9,(n69,.box 162 [.i,.fix (.sl Y8 0)])],[],[Gz,G1,Mw,PD,⟨.c n69 1,Y8,170,aR⟩]⟩
abbrev DY:aa:=⟨47,[],Zf,[],[]⟩
noncomputable def E5:aL:=⟨7,150,DN,2,DS,DY,dL,false,none,some (15,2),[]⟩
abbrev Ec:aa:=⟨47,[qt,qA,O0,Km,Qn,(19,.fix (.sl n63 0)),xd,xu],[gq,qw,(n42,.box 204 [.i,.fix (.sl n70 0),.fix (.sl XP 0),.fix (.sl Zg 0),.fix (.sl n63 0),.fix (.sl n65 0),.fix (.sl n67 0),.fix (.sl n68 0),.fix (.sl n55 0)]),rI,rM,rR,rL,rq,qJ,qL,qF,eC,qh,pX,qf,qq,qe,pY,pZ,qj,p9,(n69,.box 162 [.i,.fix (.sl n80 0)])],[],[YV,Y0,KR,PC,TB,⟨.c n69 1,n80,170,aR⟩]⟩
abbrev DJ:aa:=⟨47,[qt,qA,O0,Km,Qn],[gq,qw,(n42,.box 204 [.i,.fix (.sl Vs 0),.fix (.sl XG 0),.fix (.sl Y8 0),.fix (.sl n63 0),.fix (.sl n65 0),.fix (.sl n67 0),.fix (.sl n68 0),.fix (.sl n55 0)]),rI,rM,rR,rL,rq,qJ,qL,qF,eC,qh,pX,qf,qq,qe,pY,pZ,qj,p9,(n69,.box 162 [.i,.fix (.sl n81 0)])],[],[Gz,G1,Mw,PD,Vo,⟨.c n69 1,n81,170,aR⟩]⟩
abbrev EC:aa:=⟨47,[],Zf,[],[]⟩
noncomputable def Ez:aL:=⟨7,150,Ec,2,DJ,EC,dW,false,none,some (15,3),[]⟩
abbrev ED:aa:=⟨47,[qt,qA,PU,Km,PX,(19,.fix (.sl n65 0)),xd,xu],[gq,qw,(n42,.box 204 [.i,.fix (.sl n70 0),.fix (.sl XP 0),.fix (.sl Zg 0),.fix (.sl n80 0),.fix (.sl n65 0),.fix (.sl n67 0),.fix (.sl n68 0),.fix (.sl n55 0)]),rI,rM,rR,rL,rq,qJ,qL,qF,eC,qh,pX,qf,qq,qe,pY,pZ,qj,p9,(n69,.box 162 [.i,.fix (.sl n82 0)])],[],[YV,Y0,KR,PC,TB,X5,⟨.c n69 1,n82,170,aR⟩]⟩
abbrev EZ:aa:=⟨47,[qt,qA,PU,Km,PX],[gq,qw,(n42,.box 204 [.i,.fix (.sl Vs 0),.fix (.sl XG 0),.fix (.sl Y8 0),.fix (.sl n81 0),.fix (.sl n65 0),.fix (.sl n67 0),.fix (.sl n68 0),.fix (.sl n55 0)]),rI,rM,rR,rL,rq,qJ,qL,qF,eC,qh,pX,qf,qq,qe,pY,pZ,qj,p9,(n69,.box 162 [.i,.fix (.sl n83 0)])],[],[Gz,G1,Mw,PD,Vo,WG,⟨.c n69 1,n83,170,aR⟩]⟩
abbrev DW:aa:=⟨47,[],Zf,[],[]⟩
noncomputable def Ej:aL:=⟨7,150,ED,2,EZ,DW,dP,false,none,some (15,4),[]⟩
abbrev DH:aa:=⟨47,[qt,qA,OW,Km,Qg,(19,.fix (.sl n67 0)),xd,xu],[gq,qw,(n42,.box 204 [.i,.fix (.sl n70 0),.fix (.sl XP 0),.fix (.sl Zg 0),.fix (.sl n80 0),.fix (.sl n82 0),.fix (.sl n67 0),.fix (.sl n68 0),.fix (.sl n55 0)]),rI,rM,rR,rL,rq,qJ,qL,qF,eC,qh,pX,qf,qq,qe,pY,pZ,qj,p9,(n69,.box 162 [.i,.fix (.sl n84 0)])],[],[YV,Y0,KR,PC,TB,X5,ZS,⟨.c n69 1,n84,170,aR⟩]⟩
abbrev CF:aa:=⟨47,[qt,qA,OW,Km,Qg],[gq,qw,(n42,.box 204 [.i,.fix (.sl Vs 0),.fix (.sl XG 0),.fix (.sl Y8 0),.fix (.sl n81 0),.fix (.sl n83 0),.fix (.sl n67 0),.fix (.sl n68 0),.fix (.sl n55 0)]),rI,rM,rR,rL,rq,qJ,qL,qF,eC,qh,pX,qf,qq,qe,pY,pZ,qj,p9,(n69,.box 162 [.i,.fix (.sl n85 0)])],[],[Gz,G1,Mw,PD,Vo,WG,aby,⟨.c n69 1,n85,170,aR⟩]⟩
abbrev Eg:aa:=⟨47,[],Zf,[],[]⟩
noncomputable def EL:aL:=⟨7,150,DH,2,CF,Eg,dN,false,none,some (15,5),[]⟩
abbrev DA:aa:=⟨47,[qt,qA,OR,Km,Po,(19,.fix (.sl n68 0)),xd,xu],[gq,qw,(n42,.box 204 [.i,.fix (.sl n70 0),.fix (.sl XP 0),.fix (.sl Zg 0),.fix (.sl n80 0),.fix (.sl n82 0),.fix (.sl n84 0),.fix (.sl n68 0),.fix (.sl n55 0)]),rI,rM,rR,rL,rq,qJ,qL,qF,eC,qh,pX,qf,qq,qe,pY,pZ,qj,p9,(n69,.box 162 [.i,.fix (.sl n86 0)])],[],[YV,Y0,KR,PC,TB,X5,ZS,⟨.c n42 6,n84,170,aR⟩,⟨.c n69 1,n86,170,aR⟩]⟩
abbrev E7:aa:=⟨47,[qt,qA,OR,Km,Po],[gq,qw,(n42,.box 204 [.i,.fix (.sl Vs 0),.fix (.sl XG 0),.fix (.sl Y8 0),.fix (.sl n81 0),.fix (.sl n83 0),.fix (.sl n85 0),.fix (.sl n68 0),.fix (.sl n55 0)]),rI,rM,rR,rL,rq,qJ,qL,qF,eC,qh,pX,qf,qq,qe,pY,pZ,qj,p9,(n69,.box 162 [.i,.fix (.sl n87 0)])],[],[Gz,G1,Mw,PD,Vo,WG,aby,⟨.c n42 6,n85,170,aR⟩,⟨.c n69 1,n87,170,aR⟩]⟩
abbrev C8:aa:=⟨47,[],Zf,[],[]⟩
noncomputable def EJ:aL:=⟨7,150,DA,2,E7,C8,dM,false,none,some (15,6),[]⟩
abbrev Ct:aa:=⟨47,[qt,qA,Qk,Km,QA,(19,.fix (.sl n55 0)),xd,xu],[gq,qw,(n42,.box 204 [.i,.fix (.sl n70 0),.fix (.sl XP 0),.fix (.sl Zg 0),.fix (.sl n80 0),.fix (.sl n82 0),.fix (.sl n84 0),.fix (.sl n86 0),.fix (.sl n55 0)]),rI,rM,rR,rL,rq,qJ,qL,qF,eC,qh,pX,qf,qq,qe,pY,pZ,qj,p9,(n69,.box 162 [.i,.fix (.sl 79228842848632538019595495881 0)])],[],[YV,Y0,KR,PC,TB,X5,ZS,⟨.c n42 6,n84,170,aR⟩,⟨.c n42 7,n86,170,aR⟩,⟨.c n69 1,79228842848632538019595495881,170,aR⟩]⟩
abbrev Ee:aa:=⟨47,[qt,qA,Qk,Km,QA],[gq,qw,(n42,.box 204 [.i,.fix (.sl Vs 0),.fix (.sl XG 0),.fix (.sl Y8 0),.fix (.sl n81 0),.fix (.sl n83 0),.fix (.sl n85 0),.fix (.sl n87 0),.fix (.sl n55 0)]),rI,rM,rR,rL,rq,qJ,qL,qF,eC,qh,pX,qf,qq,qe,pY,pZ,qj,p9,(n69,.box 162 [.i,.fix (.sl 79228842848632538019595495913 0)])],[],[Gz,G1,Mw,PD,Vo,WG,aby,⟨.c n42 6,n85,170,aR⟩,⟨.c n42 7,n87,170,aR⟩,⟨.c n69 1,79228842848632538019595495913,170,aR⟩]⟩
abbrev Dv:aa:=⟨47,[],Zf,[],[]⟩
noncomputable def Dn:aL:=⟨7,150,Ct,2,Ee,Dv,dU,false,none,some (15,7),[]⟩
noncomputable def Yq:bA:=⟨[Zr,.i],[.val Zr,.val (.row aR),.val .i],fun x=>f69 x.1.1 x.1.2 x.2.1⟩
theorem k69:Yq.OK Tryz.prog 123:=ah (n:=10) (lf:=aC) (ak (l:=[(143,Fk),(145,Lj),(168,Cr),(171,KH),(172,LF)]) (u:=[(173,Mr)]) ⟨aaY,adL,abr,adl,acD,trivial⟩ ⟨Oh,trivial⟩) (ai (l:=[(18446849699840262144,3,Hi),(Zt,7,Jl),(Zt,7,F7),(Zt,7,Im),(Zt,7,F0),(Zt,7,Jg),(Zt,7,Hq),(Zt,7,Ht),(Zt,7,JD),(Zx,7,Kf),(Zx,7,HH),(Zx,7,E5),(Zx,7,Ez),(Zx,7,Ej),(Zx,7,EL),(Zx,7,EJ),(Zx,7,Dn)]) ⟨⟨by kernel_rfl,fun z=>by kernel_rfl⟩,⟨by kernel_rfl,fun z=>by kernel_rfl⟩,⟨by kernel_rfl,fun z=>by kernel_rfl⟩,⟨by kernel_rfl,fun z=>by kernel_rfl⟩,⟨by kernel_rfl,fun z=>by kernel_rfl⟩,⟨by kernel_rfl,fun z=>by kernel_rfl⟩,⟨by kernel_rfl,fun z=>by kernel_rfl⟩,⟨by kernel_rfl,fun z=>by kernel_rfl⟩,⟨by kernel_rfl,fun z=>by kernel_rfl⟩,⟨by kernel_rfl,fun z=>by kernel_rfl⟩,⟨by kernel_rfl,fun z=>by kernel_rfl⟩,⟨by kernel_rfl,fun z=>by kernel_rfl⟩,⟨by kernel_rfl,fun z=>by kernel_rfl⟩,⟨by kernel_rfl,fun z=>by kernel_rfl⟩,⟨by kernel_rfl,fun z=>by kernel_rfl⟩,⟨by kernel_rfl,fun z=>by kernel_rfl⟩,⟨by kernel_rfl,fun z=>by kernel_rfl⟩,trivial⟩) fun x=>by kernel_rfl
abbrev Mb:aa:=⟨145,[Pv,(4,.i),(5,.i)],[yd,O7,(rP,.box 32 [.i,.i,.i,.i,.i,.i,.i,.i,.i,.i,.i,.bool,.i,.fix (.sl 18446832386532125184 0),.fix (.sl 18446832386532125185 0),.fix (.sl 18446832386532125186 0)]),(P6,.box 36 [.fix (.sl 18446832386532125187 0)]),P5,Qw,Xj,XD,VM,(zk,.box 127 [.i,.i,.i,.i,.i,.i,.i,.i,.i,.i,.i,.bool,.i,.fix (.sl kN6 0),.fix (.sl Yh 0),.fix (.sl kN7 0),.i,.i,.i,.i,.i,.i,.i,.i,.bool,.fix (.sl 18446832386532125188 0),.i,.i,.i])],[],[⟨.c rP 13,18446832386532125184,99,fF⟩,⟨.c rP 14,18446832386532125185,56,um⟩,⟨.c rP 15,18446832386532125186,84,fF⟩,⟨.c P6 0,18446832386532125187,50,CW⟩,⟨.c zk 25,18446832386532125188,50,CW⟩]⟩
abbrev K9:aa:=⟨145,[Pv,(4,.i),(5,.i)],[yd,O7,(rP,.box 32 [.i,.i,.i,.i,.i,.i,.i,.i,.i,.i,.i,.bool,.i,.fix (.sl 18446832386532125216 0),.fix (.sl 18446832386532125217 0),.fix (.sl 18446832386532125218 0)]),(P6,.box 36 [.fix (.sl 18446832386532125219 0)]),P5,Qw,Xj,XD,VM,(zk,.box 127 [.i,.i,.i,.i,.i,.i,.i,.i,.i,.i,.i,.bool,.i,.fix (.sl kN6 0),.fix (.sl Yh 0),.fix (.sl kN7 0),.i,.i,.i,.i,.i,.i,.i,.i,.bool,.fix (.sl 18446832386532125220 0),.i,.i,.i])],[],[⟨.c rP 13,18446832386532125216,99,fF⟩,⟨.c rP 14,18446832386532125217,56,um⟩,⟨.c rP 15,18446832386532125218,84,fF⟩,⟨.c P6 0,18446832386532125219,50,CW⟩,⟨.c zk 25,18446832386532125220,50,CW⟩]⟩
abbrev Mp:aa:=⟨145,[],kL4,[],[]⟩
noncomputable def L4:aL:=⟨8,66,Mb,0,K9,Mp,dH,false,none,none,[]⟩
abbrev Lv:aa:=⟨130,[Pv,(2,.fix (.ptr n90 0)),(27,.fix (.sl Yh 0)),(28,.i),(29,.i)],[yd,O7,(rP,.box 32 [.i,.i,.i,.i,.i,.i,.i,.i,.i,.i,.i,.bool,.i,.fix (.sl 18446832386532124864 0),.fix (.sl 18446832386532124865 0),.fix (.sl 18446832386532124866 0)]),(P6,.box 36 [.fix (.sl 18446832386532124867 0)]),P5,Qw,Xj,XD,VM,(zk,.box 127 [.i,.i,.i,.i,.i,.i,.i,.i,.i,.i,.i,.bool,.i,.fix (.sl kN6 0),.fix (.sl Yh 0),.fix (.sl kN7 0),.i,.i,.i,.i,.i,.i,.i,.i,.bool,.fix (.sl 18446832386532124868 0),.i,.i,.i])],[(n90,.box 162 [.i,.cont aR])],[⟨.c rP 13,18446832386532124864,99,fF⟩,⟨.c rP 14,18446832386532124865,56,um⟩,⟨.c rP 15,18446832386532124866,84,fF⟩,⟨.c P6 0,18446832386532124867,50,CW⟩,⟨.c zk 25,18446832386532124868,50,CW⟩]⟩
abbrev LG:aa:=⟨130,[Pv,(2,.fix (.ptr n90 0))],[yd,O7,(rP,.box 32 [.i,.i,.i,.i,.i,.i,.i,.i,.i,.i,.i,.bool,.i,.fix (.sl 18446832386532124896 0),.fix (.sl 18446832386532124897 0),.fix (.sl 18446832386532124898 0)]),(P6,.box 36 [.fix (.sl 18446832386532124899 0)]),P5,Qw,Xj,XD,VM,(zk,.box 127 [.i,.i,.i,.i,.i,.i,.i,.i,.i,.i,.i,.bool,.i,.fix (.sl kN6 0),.fix (.sl Yh 0),.fix (.sl kN7 0),.i,.i,.i,.i,.i,.i,.i,.i,.bool,.fix (.sl 18446832386532124900 0),.i,.i,.i])],[(n90,.box 162 [.i,.cont aR])],[⟨.c rP 13,18446832386532124896,99,fF⟩,⟨.c rP 14,18446832386532124897,56,um⟩,⟨.c rP 15,18446832386532124898,84,fF⟩,⟨.c P6 0,18446832386532124899,50,CW⟩,⟨.c zk 25,18446832386532124900,50,CW⟩]⟩
abbrev L6:aa:=⟨130,[],kL4,[],[]⟩
noncomputable def KT:aL:=⟨8,69,Lv,0,LG,L6,gD,false,none,none,[]⟩
abbrev Fz:aa:=⟨130,[Pv,(7,.cont aR),(69,.cont aR),(70,.i),(71,.i)],[yd,O7,(rP,.box 32 [.i,.i,.i,.i,.i,.i,.i,.i,.i,.i,.i,.bool,.i,.fix (.sl 18446832386532125312 0),.fix (.sl 18446832386532125313 0),.fix (.sl 18446832386532125314 0)]),(P6,.box 36 [.fix (.sl 18446832386532125315 0)]),P5,Qw,adD,adz,acP,(zk,.box 127 [.i,.i,.i,.i,.i,.i,.i,.i,.i,.i,.i,.bool,.i,.fix (.sl 18446832386532125316 0),.fix (.sl 18446832386532125317 0),.fix (.sl 18446832386532125318 0),.i,.i,.i,.i,.i,.i,.i,.i,.bool,.fix (.sl 18446832386532125319 0),.i,.i,.i])],[],[⟨.c rP 13,18446832386532125312,99,fF⟩,⟨.c rP 14,18446832386532125313,56,um⟩,⟨.c rP 15,18446832386532125314,84,fF⟩,⟨.c P6 0,18446832386532125315,50,CW⟩,⟨.c zk 13,18446832386532125316,99,fF⟩,⟨.c zk 14,18446832386532125317,56,um⟩,⟨.c zk 15,18446832386532125318,84,fF⟩,⟨.c zk 25,18446832386532125319,50,CW⟩]⟩
abbrev IZ:aa:=⟨130,[Pv,(7,.cont aR)],[yd,O7,(rP,.box 32 [.i,.i,.i,.i,.i,.i,.i,.i,.i,.i,.i,.bool,.i,.fix (.sl 18446832386532125344 0),.fix (.sl 18446832386532125345 0),.fix (.sl 18446832386532125346 0)]),(P6,.box 36 [.fix (.sl 18446832386532125347 0)]),P5,Qw,adD,adz,acP,(zk,.box 127 [.i,.i,.i,.i,.i,.i,.i,.i,.i,.i,.i,.bool,.i,.fix (.sl 18446832386532125348 0),.fix (.sl 18446832386532125349 0),.fix (.sl 18446832386532125350 0),.i,.i,.i,.i,.i,.i,.i,.i,.bool,.fix (.sl 18446832386532125351 0),.i,.i,.i])],[],[⟨.c rP 13,18446832386532125344,99,fF⟩,⟨.c rP 14,18446832386532125345,56,um⟩,⟨.c rP 15,18446832386532125346,84,fF⟩,⟨.c P6 0,18446832386532125347,50,CW⟩,⟨.c zk 13,18446832386532125348,99,fF⟩,⟨.c zk 14,18446832386532125349,56,um⟩,⟨.c zk 15,18446832386532125350,84,fF⟩,⟨.c zk 25,18446832386532125351,50,CW⟩]⟩
abbrev F4:aa:=⟨130,[],kL4,[],[]⟩
noncomputable def FW:aL:=⟨8,69,Fz,2,IZ,F4,e6,false,none,none,[(zk,13,18446832386532125336),(zk,14,18446832386532125337),(zk,15,18446832386532125338)]⟩
noncomputable def YT:bA:=⟨[Pk,CW],[.val Pk,.val (.row CW),.val fF],fun x=>f13 x.1.1.1.1 x.1.1.1.2 x.1.1.2.1.1 x.1.1.2.1.2 x.1.1.2.2.1 x.1.1.2.2.2.1 x.1.1.2.2.2.2.1 x.1.1.2.2.2.2.2 x.1.2.1.1 x.1.2.1.2.1 x.1.2.1.2.2.1 x.1.2.1.2.2.2 x.1.2.2.1 x.1.2.2.2.1 x.1.2.2.2.2.1 x.1.2.2.2.2.2 x.2.1.1 x.2.1.2.1 x.2.1.2.2.1 x.2.1.2.2.2.1 x.2.1.2.2.2.2.1 x.2.1.2.2.2.2.2.1 x.2.1.2.2.2.2.2.2.1 x.2.1.2.2.2.2.2.2.2.1 x.2.1.2.2.2.2.2.2.2.2⟩
theorem k13:YT.OK Tryz.prog 24:=Pw (n:=9) (lf:=aC) (ak (l:=[(6,vM),(18,NV),(21,Uo),(26,SP),(61,U9),(63,Oo),(65,Bj),(76,Ym),(114,Yn),(115,ZM),(117,Tn),(121,ZJ),(122,Zj),(123,Yq),(125,Tg),(126,Rq),(127,TR),(128,Rh),(129,SX),(131,UL),(132,Mn),(139,Zp),(140,UD)]) (u:=[]) ⟨k15,k28,k46,k70,k19,k20,k22,k40,k21,k23,k63,k67,k68,k69,k72,k73,k74,k75,k76,k24,acV,k99,ad1,trivial⟩ trivial) (ai (l:=[(n91,8,L4),(n91,3,KT),(n91,10,FW)]) ⟨⟨by kernel_rfl,fun z=>by kernel_rfl⟩,⟨by kernel_rfl,fun z=>by kernel_rfl⟩,⟨by kernel_rfl,fun z=>by kernel_rfl⟩,trivial⟩) fun x=>by kernel_rfl
noncomputable def Zm:bA:=⟨[Qr,xq],[.val .bool],fun x=>f29 x.1 x.2.1⟩
theorem k29:Zm.OK Tryz.prog 16:=ah (n:=10) (lf:=aC) (ak (l:=[]) (u:=[]) trivial trivial) (ai (l:=[]) trivial) fun x=>by kernel_rfl
noncomputable def YY:bA:=⟨[Pk],[.val .bool],fun x=>f12 x.1.1.1.1 x.1.1.1.2 x.1.1.2.1.1 x.1.1.2.1.2 x.1.1.2.2.1 x.1.1.2.2.2.1 x.1.1.2.2.2.2.1 x.1.1.2.2.2.2.2 x.1.2.1.1 x.1.2.1.2.1 x.1.2.1.2.2.1 x.1.2.1.2.2.2 x.1.2.2.1 x.1.2.2.2.1 x.1.2.2.2.2.1 x.1.2.2.2.2.2⟩
theorem k12:YY.OK Tryz.prog 5:=ah (n:=10) (lf:=aC) (ak (l:=[(16,Zm)]) (u:=[]) ⟨k29,trivial⟩ trivial) (ai (l:=[]) trivial) fun x=>by kernel_rfl
abbrev acY:aa:=⟨33,[(1,.cont CW),(2,.fix (.ptr qg 0)),(4,.fix (.ptr qM 0)),(7,.i)],[],[yd,(qM,.box 32 [.i,.i,.i,.i,.i,.i,.i,.i,.i,.i,.i,.bool,.i,.fix (.sl 8294967489 0),.fix (.sl 8294967490 0),.fix (.sl 8294967491 0)])],[⟨.t 6,8294967488,50,CW⟩,⟨.c qM 13,8294967489,99,fF⟩,⟨.c qM 14,8294967490,56,um⟩,⟨.c qM 15,8294967491,84,fF⟩]⟩
abbrev ac6:aa:=⟨33,[(2,.fix (.ptr qg 0)),(4,.fix (.ptr qM 0))],[],[yd,(qM,.box 32 [.i,.i,.i,.i,.i,.i,.i,.i,.i,.i,.i,.bool,.i,.fix (.sl 8294967521 0),.fix (.sl 8294967522 0),.fix (.sl 8294967523 0)])],[⟨.t 6,8294967520,50,CW⟩,⟨.c qM 13,8294967521,99,fF⟩,⟨.c qM 14,8294967522,56,um⟩,⟨.c qM 15,8294967523,84,fF⟩]⟩
abbrev abP:aa:=⟨33,[],[],[],[]⟩
noncomputable def adn:aL:=⟨9,7,acY,0,ac6,abP,BG,false,none,none,[]⟩
noncomputable def YP:bA:=⟨[Pk,(.row CW)],[.val Pk,.val (.row CW)],fun x=>f17 x.1.1.1.1 x.1.1.1.2 x.1.1.2.1.1 x.1.1.2.1.2 x.1.1.2.2.1 x.1.1.2.2.2.1 x.1.1.2.2.2.2.1 x.1.1.2.2.2.2.2 x.1.2.1.1 x.1.2.1.2.1 x.1.2.1.2.2.1 x.1.2.1.2.2.2 x.1.2.2.1 x.1.2.2.2.1 x.1.2.2.2.2.1 x.1.2.2.2.2.2 x.2.1⟩
theorem k17:YP.OK Tryz.prog 7:=ah (n:=10) (lf:=aC) (ak (l:=[(24,YT)]) (u:=[]) ⟨k13,trivial⟩ trivial) (ai (l:=[(qg,3,adn)]) ⟨⟨by kernel_rfl,fun z=>by kernel_rfl⟩,trivial⟩) fun x=>by kernel_rfl
end Go.Proofs.Zz
