/- P13f, P13k, P13w0, P13w, P13v. -/
import Derived.Test.YtlhbhlngoecdcaaGreatDoorPA
import Derived.Test.YtlhbhlngoecdcaaGreatDoorPU
import Derived.KernelRfl
import Derived.Test.YtlhbhlngoecdcaaGreatDoorFI
import Derived.Test.YtlhbhlngoecdcaaGreatDoorFE
namespace Go.Proofs.Zz
open Go Go.Sy
set_option linter.unusedSimpArgs false
set_option linter.unusedVariables false
set_option maxRecDepth 100000
def Xy (s:ST):Prop:=s.2.2.2.2.1.length≤40∧s.2.2.2.2.2.length≤40∧s.2.2.2.1.length≤6
instance (s:ST):Decidable (Xy s):=by unfold Xy;infer_instance
theorem Xy.sm {s:ST}(h:Xy s):Sm s:=⟨by have:=h.2.2;omega,by have:=h.1;omega,by have:=h.2.1;omega⟩
theorem Z8 (s:ST) :
  f12 s.1.1.1 s.1.1.2 s.1.2.1.1 s.1.2.1.2 s.1.2.2.1 s.1.2.2.2.1 s.1.2.2.2.2.1 s.1.2.2.2.2.2 s.2.1.1 s.2.1.2.1 s.2.1.2.2.1 s.2.1.2.2.2 s.2.2.1 s.2.2.2.1 s.2.2.2.2.1 s.2.2.2.2.2=some (decide (Xy s),()):=by
 unfold f12 f29 Xy
 by_cases h1:s.2.2.2.2.1.length≤40
 ·by_cases h2:s.2.2.2.2.2.length≤40
  ·by_cases h3:s.2.2.2.1.length≤6
   ·have h1':((s.2.2.2.2.1.length:Nat):Int)≤40:=by omega
    have h2':((s.2.2.2.2.2.length:Nat):Int)≤40:=by omega
    have h3':((s.2.2.2.1.length:Nat):Int)≤6:=by omega
    simp[h1,h2,h3,h1',h2',h3']
   ·have h1':((s.2.2.2.2.1.length:Nat):Int)≤40:=by omega
    have h2':((s.2.2.2.2.2.length:Nat):Int)≤40:=by omega
    have h3':¬ ((s.2.2.2.1.length:Nat):Int)≤6:=by omega
    simp[h1,h2,h3,h1',h2',h3']
  ·have h1':((s.2.2.2.2.1.length:Nat):Int)≤40:=by omega
   have h2':¬ ((s.2.2.2.2.2.length:Nat):Int)≤40:=by omega
   simp[h1,h2,h1',h2']
 ·have h1':¬ ((s.2.2.2.2.1.length:Nat):Int)≤40:=by omega
  simp[h1,h1']
theorem toN (n:Nat):Int.toNat ((n:Nat):Int)=n:=rfl
theorem fE {l:List (Int×Int)}{j:Nat}(h:j<l.length):rd (.pair (.int .i64) (.int .i64)) l j=l[j]:=mC h
theorem Pn {n:Nat}(at':Int)(U:Nat)(l:List (Int×Int)){j:Nat}(h:j<l.length):mH n at' U (l.take (j+1))=(if l[j].1=at' then iQ n (mH n at' U (l.take j)) l[j].2 else mH n at' U (l.take j)):=by
 unfold mH
 rw[List.take_succ_eq_append_getElem h,List.foldl_append]
 rfl
theorem CU {n U:Nat}(hn:n≤8)(hU:U<2 ^ n):f144 (n:Int) (U:Int)=some (true,()):=by
 unfold f144
 rw[decide_eq_true (show (0:Int)≤(n:Int) by omega),decide_eq_true (show (n:Int)≤8 by omega),decide_eq_true (show (0:Int)≤(U:Int) by omega),decide_eq_false (show ¬ (n:Int)<0 by omega)]
 simp only[cond_true,Bool.not_false,toN,Nat.min_eq_left (show n≤64 by omega),fdiv_pow,Nat.div_eq_of_lt hU]
 rfl
theorem Xe {n:Nat}(hn:n≤8):f121 (n:Int)=some (((n:Int),((0:Nat):Int)),true,()):=by
 unfold f121
 have:=CU (n:=n) (U:=0) hn (Nat.two_pow_pos _)
 rw[show ((0:Nat):Int)=0 from rfl] at this ⊢
 rw[this];rfl
theorem MQ {n U:Nat}(hn:n≤8)(hU:U<2 ^ n)(i:Int):f171 (n:Int) (U:Int) i=some (decide (0≤i)&&decide (i<(n:Int)),()):=by
 unfold f171
 rw[CU hn hU]
 simp only[Option.bind_some,cond_true]
 cases decide (0≤i)<;>rfl
theorem V0 {n U:Nat}(hn:n≤8)(hU:U<2 ^ n){i:Nat}(hi:i<n):f172 (n:Int) (U:Int) (i:Int)=some (U.testBit i,()):=by
 have hl:=XW hn hU
 unfold f172
 rw[MQ hn hU,decide_eq_true (show (0:Int)≤(i:Int) by omega),decide_eq_true (show (i:Int)<(n:Int) by omega)]
 simp only[Option.bind_some,Bool.and_self,cond_true]
 rw[decide_eq_false (show ¬ (i:Int)<0 by omega)]
 simp only[Bool.not_false,cond_true,toN,Nat.min_eq_left (show i≤64 by omega),fdiv_pow]
 have h1:U / 2 ^ i<2 ^ 63:=Nat.lt_of_le_of_lt (Nat.div_le_self _ _) (by omega)
 have:=Rv (a:=U / 2 ^ i) (b:=1) h1 (by decide)
 rw[show (((1:Nat):Int))=1 from rfl] at this
 rw[this,Nat.and_one_is_mod,Nat.testBit_eq_decide_div_mod_eq]
 congr 2
 rw[decide_eq_decide]
 omega
theorem WL {n U:Nat}(hn:n≤8)(hU:U<2 ^ n)(i:Int):∃ b,f123 (n:Int) (U:Int) i=some (((n:Int),((iQ n U i:Nat):Int)),b,()):=by
 have hl:=XW hn hU
 unfold f123 f146
 rw[MQ hn hU]
 simp only[Option.bind_some]
 by_cases h0:0≤i∧i<(n:Int)
 ·rw[decide_eq_true h0.1,decide_eq_true h0.2]
  simp only[Bool.and_self,Bool.not_true,cond_false]
  have e:i=((i.toNat:Nat):Int):=by omega
  have hi:i.toNat<n:=by omega
  have h9:=V0 hn hU hi
  rw[← e] at h9
  rw[h9]
  simp only[Option.bind_some]
  cases hb:U.testBit i.toNat with
  | true=>
   have:iQ n U i=U:=by unfold iQ;rw[if_neg (by rw[hb];simp)]
   rw[this]
   exact⟨_,rfl⟩
  | false=>
   have:iQ n U i=U ^^^ 2 ^ i.toNat:=by unfold iQ;rw[if_pos ⟨h0.1,h0.2,hb⟩]
   rw[this,decide_eq_false (show ¬ i<0 by omega)]
   have hp:2 ^ i.toNat≤2 ^ 8:=Nat.pow_le_pow_right (by decide) (by omega)
   have hx:=YS (a:=U) (b:=2 ^ i.toNat) (by omega) (by omega)
   have e2:IntKind.wrap .i64 (1 * ((2:Int) ^ ((min (Int.toNat i) 64):Nat)))=((2 ^ i.toNat:Nat):Int):=by
    rw[Nat.min_eq_left (show i.toNat≤64 by omega),Int.one_mul,show ((2:Int) ^ i.toNat)=((2 ^ i.toNat:Nat):Int) by simp]
    have hq:2 ^ i.toNat≤256:=hp
    generalize 2 ^ i.toNat=q at hq ⊢
    exact iq (by omega) (by omega)
   simp only[e2,hx]
   exact⟨_,rfl⟩
 ·have:(decide (0≤i)&&decide (i<(n:Int)))=false:=by
   rw[Bool.and_eq_false_iff,decide_eq_false_iff_not,decide_eq_false_iff_not]
   omega
  rw[this]
  have:iQ n U i=U:=by unfold iQ;rw[if_neg (by omega)]
  rw[this]
  exact⟨_,rfl⟩
theorem O5:∀ n:Fin 9,∀ U:Fin 256,U.val<2 ^ n.val→bG .andNot .u64 (IntKind.wrap .u64 ((IntKind.wrap .u64 (1 * ((2:Int) ^ ((min (Int.toNat (n.val:Int)) 64):Nat))))-1)) (IntKind.wrap .u64 (U.val:Int))=((2 ^ n.val-1-U.val:Nat):Int):=by decide +kernel
theorem Q4 {n U:Nat}(hn:n≤8)(hU:U<2 ^ n):f99 (n:Int) (U:Int)=some (je n U,()):=by
 have hl:=XW hn hU
 have e1:=O5 ⟨n,by omega⟩ ⟨U,hl⟩ hU
 have e2:=yY ⟨n,by omega⟩ ⟨U,hl⟩ hU
 simp only at e1 e2
 unfold f99
 rw[CU hn hU]
 simp only[Option.bind_some,Bool.not_true,cond_false]
 rw[decide_eq_false (show ¬ (n:Int)<0 by omega)]
 simp only[Bool.not_false,cond_true,e1]
 by_cases h0:0<2 ^ n-1-U
 ·rw[show je n U=((Lib.ctz 64 (2 ^ n-1-U):Nat):Int) from if_pos h0]
  obtain⟨h1,h2⟩:=e2 h0
  have hlt:2 ^ n-1-U<256:=by
   have:2 ^ n≤2 ^ 8:=Nat.pow_le_pow_right (by decide) hn
   omega
  have hf:fTz (((2 ^ n-1-U:Nat):Int))=some (((Lib.ctz 64 (2 ^ n-1-U):Nat):Int),()):=by
   unfold fTz tzI
   rw[decide_eq_true (by omega),decide_eq_true (by omega),toN];rfl
  have hs:cT (((),((2 ^ n-1-U:Nat):Int),()),(((n:Int),(U:Int),()),(0,()),((n:Int),(U:Int),()),((),(),(),(),(),(),(),(),()),()),()) =
    some (.ret ((),(((n:Int),(U:Int),()),(((Lib.ctz 64 (2 ^ n-1-U):Nat):Int),()),((n:Int),(U:Int),()),((),(),(),(),(),(),(),(),()),()),())):=by
   simp only[cT,nY]
   rw[decide_eq_true (show (0:Int)<((2 ^ n-1-U:Nat):Int) by omega),hf]
   rfl
  have hit:iter aC cT (((),((2 ^ n-1-U:Nat):Int),()),(((n:Int),(U:Int),()),(0,()),((n:Int),(U:Int),()),((),(),(),(),(),(),(),(),()),()),())=_:=
   lg (k:=1) (by unfold aC;omega) (Dg (n:=0) hs)
  rw[hit]
  rfl
 ·have hz:2 ^ n-1-U=0:=by omega
  rw[show je n U = -1 from if_neg h0,hz]
  have hs:cT (((),((0:Nat):Int),()),(((n:Int),(U:Int),()),(0,()),((n:Int),(U:Int),()),((),(),(),(),(),(),(),(),()),()),()) =
    some (.out ((),(((n:Int),(U:Int),()),(0,()),((n:Int),(U:Int),()),((),(),(),(),(),(),(),(),()),()),())):=by
   simp only[cT,nY]
   rw[decide_eq_false (show ¬ (0:Int)<((0:Nat):Int) by omega)]
   rfl
  have hit:iter aC cT (((),((0:Nat):Int),()),(((n:Int),(U:Int),()),(0,()),((n:Int),(U:Int),()),((),(),(),(),(),(),(),(),()),()),())=_:=
   lg (k:=1) (by unfold aC;omega) (jQ (n:=0) hs)
  rw[hit]
  rfl
theorem MR {D:DT}(F:iW D)(l:List LT)(h:List HT)(hl:l.length≤40)(hh:h.length≤40)(at':Int) :
  f100 D.1.1 D.1.2 D.2.1.1 D.2.1.2 D.2.2.1 D.2.2.2.1 D.2.2.2.2.1 D.2.2.2.2.2 l h at'=some (((((dm D).toNat:Nat):Int),((mH (dm D).toNat at' 0 (l.map kL++h.map kH):Nat):Int)),()):=by
 have hb0:0≤dm D:=Int.ediv_nonneg F.g1 (by have:=F.h1;omega)
 have hb8:=F.blk
 have hn:(dm D).toNat≤8:=by omega
 unfold f100
 rw[Q8,if_pos F,show dm D=(((dm D).toNat:Nat):Int) by omega]
 simp only[Option.bind_some,Xe hn]
 rw[show ((((dm D).toNat:Nat):Int)).toNat=(dm D).toNat from rfl]
 generalize (dm D).toNat=n at hn ⊢
 have cap:∀ m:Nat,m≤100→(decide ((m+1) * 16≤140737488355328)&&decide (m+1≤9223372036854775807))=true:=fun m hm=>by
  rw[decide_eq_true (by omega),decide_eq_true (by omega)];rfl
 have z0:(0:Int)=((0:Nat):Int):=rfl
 have e1:iter aC uB ((h,at',(),(),l,((l.length:Nat):Int),0,()),((0,0,()),((n:Int),(((0:Nat):Int)),()),()),[],())=some (.inl ((h,at',(),(),()),((0,0,()),((n:Int),(((0:Nat):Int)),()),()),l.map kL,())):=by
  have:=eA (u:=uB) (fun j=>((h,at',(),(),l,((l.length:Nat):Int),((j:Nat):Int),()),((0,0,()),((n:Int),(((0:Nat):Int)),()),()),(l.take j).map kL,())) (n:=l.length)
   (y:=((h,at',(),(),()),((0,0,()),((n:Int),(((0:Nat):Int)),()),()),l.map kL,()))
   (fun j hj=>by
    have hc:=cap ((l.take j).map kL).length (by simp;omega)
    simp only[uB,KY,dB hj,dx,cond_true,Bool.and_self,Int.toNat_natCast,Qj hj,f57,Option.bind_some,hc,nx hj (show l.length≤9223372036854775807 by omega)]
    rw[List.take_succ_eq_append_getElem hj,List.map_append]
    rfl)
   (by simp only[uB,KY,gr,cond_false,List.take_length])
   0 aC (Nat.zero_le _) (by unfold aC;omega)
  exact this
 have e2:iter aC uj ((at',(),(),h,((h.length:Nat):Int),0,()),((0,0,()),((n:Int),(((0:Nat):Int)),()),()),l.map kL,())=some (.inl ((at',(),(),()),((0,0,()),((n:Int),(((0:Nat):Int)),()),()),l.map kL++h.map kH,())):=by
  have:=eA (u:=uj) (fun j=>((at',(),(),h,((h.length:Nat):Int),((j:Nat):Int),()),((0,0,()),((n:Int),(((0:Nat):Int)),()),()),l.map kL++(h.take j).map kH,())) (n:=h.length)
   (y:=((at',(),(),()),((0,0,()),((n:Int),(((0:Nat):Int)),()),()),l.map kL++h.map kH,()))
   (fun j hj=>by
    have hc:=cap (l.map kL++(h.take j).map kH).length (by simp;omega)
    simp only[uj,LS,dB hj,dx,cond_true,Bool.and_self,Int.toNat_natCast,Ko hj,f129,Option.bind_some,hc,nx hj (show h.length≤9223372036854775807 by omega)]
    rw[List.take_succ_eq_append_getElem hj,List.map_append,← List.append_assoc]
    rfl)
   (by simp only[uj,LS,gr,cond_false,List.take_length])
   0 aC (Nat.zero_le _) (by unfold aC;omega)
  simp only[List.take_zero,List.map_nil,List.append_nil] at this
  exact this
 have e3:∀ m:List (Int×Int),m.length≤100→iter aC pH ((at',(),(),((m.length:Nat):Int),0,()),((0,0,()),((n:Int),(((0:Nat):Int)),()),()),m,()) =
   some (.inl (((),(),()),((0,0,()),((n:Int),((mH n at' 0 m:Nat):Int),()),()),())):=by
  intro m hm
  have:=eA (u:=pH) (fun j=>((at',(),(),((m.length:Nat):Int),((j:Nat):Int),()),((0,0,()),((n:Int),((mH n at' 0 (m.take j):Nat):Int),()),()),m,())) (n:=m.length)
   (y:=(((),(),()),((0,0,()),((n:Int),((mH n at' 0 m:Nat):Int),()),()),()))
   (fun j hj=>by
    obtain⟨b,hb⟩:=WL hn (rZ at' (m.take j) (Nat.two_pow_pos n)) m[j].2
    simp only[pH,CG,dB hj,dx,cond_true,Bool.and_self,Int.toNat_natCast,fE hj,decide_eq_true hj,nx hj (show m.length≤9223372036854775807 by omega),hb,Option.bind_some]
    rw[Pn at' 0 m hj]
    by_cases he:m[j].1=at'
    ·rw[if_pos he,decide_eq_true he];rfl
    ·rw[if_neg he,decide_eq_false he];rfl)
   (by simp only[pH,CG,gr,cond_false,List.take_length])
   0 aC (Nat.zero_le _) (by unfold aC;omega)
  exact this
 rw[e1]
 simp only[Option.bind_some]
 rw[e2]
 simp only[Option.bind_some]
 rw[e3 _ (by simp;omega)]
 rfl
abbrev TT:=Int×Int
theorem RU (x y:TT):ltOf xk x y=ow x y:=by rw[zm];rfl
def iz (l:List TT):List TT:=l.mergeSort fun x y=>!ow y x
theorem qE {x y:TT}:(!ow y x)=true↔(x.2<y.2∨(x.2=y.2∧x.1≤y.1)):=by
 unfold ow
 simp only[Bool.not_eq_true',decide_eq_false_iff_not]
 omega
theorem tF (l:List TT):(iz l).Pairwise fun x y=>(!ow y x)=true:=by
 refine List.pairwise_mergeSort (fun a b c h1 h2=>?_) (fun a b=>?_) l
 ·rw[qE] at *;omega
 ·rw[Bool.or_eq_true,qE,qE];omega
theorem i7 (l:List TT):(iz l).Perm l:=List.mergeSort_perm _ _
theorem uZ {l m:List TT}(hl:l.Pairwise fun x y=>(!ow y x)=true)(hm:m.Pairwise fun x y=>(!ow y x)=true)(hp:l.Perm m):l=m:=by
 refine List.Perm.eq_of_pairwise (le:=fun x y=>(!ow y x)=true) (fun a b _ _ h1 h2=>?_) hl hm hp
 rw[qE] at h1 h2
 obtain⟨a1,a2⟩:=a
 obtain⟨b1,b2⟩:=b
 simp only[Prod.mk.injEq] at *
 omega
theorem Vj {l m:List TT}(h:l.Perm m):iz l=iz m:=
 uZ (tF l) (tF m) ((i7 l).trans (h.trans (i7 m).symm))
theorem IJ {l m:List TT}(hm:m.Pairwise fun x y=>ow x y=true)(h:l.Perm m):iz l=m:=by
 refine uZ (tF l) (hm.imp fun {x y} hxy=>?_) ((i7 l).trans h)
 rw[qE]
 unfold ow at hxy
 simp only[decide_eq_true_eq] at hxy
 omega
def sl (m:Int)(l:List TT):List TT:=l.filter fun x=>decide (x.2 % 8=m)
theorem D5 (m:Int)(l:List TT)(x:TT):sl m (l++[x])=if x.2 % 8=m then sl m l++[x] else sl m l:=by
 unfold sl
 rw[List.filter_append]
 by_cases h:x.2 % 8=m
 ·rw[if_pos h,List.filter_cons_of_pos (by exact decide_eq_true h),List.filter_nil]
 ·rw[if_neg h,List.filter_cons_of_neg (by rw[decide_eq_false h];simp),List.filter_nil,List.append_nil]
theorem El (m:Int)(l:List TT):(sl m l).length≤l.length:=List.length_filter_le _ _
abbrev slots (f:Int→List TT):List TT:=f 0++f 1++f 2++f 3++f 4++f 5++f 6++f 7
theorem rj (l:List TT)(p:TT→Bool):(slots fun m=>(sl m l).filter p).Perm (l.filter p):=by
 rw[List.perm_iff_count]
 intro x
 unfold slots sl
 simp only[List.count_append]
 have hc:∀ m:Int,List.count x ((l.filter fun x=>decide (x.2 % 8=m)).filter p)=if x.2 % 8=m then List.count x (l.filter p) else 0:=by
  intro m
  rw[List.filter_filter]
  by_cases h:x.2 % 8=m
  ·rw[if_pos h]
   have e:(l.filter fun a=>p a&&decide (a.2 % 8=m))=(l.filter p).filter fun a=>decide (a.2 % 8=m):=by
    rw[List.filter_filter]
    exact List.filter_congr fun y _=>Bool.and_comm _ _
   rw[e,List.count_filter (by exact decide_eq_true h)]
  ·rw[if_neg h,List.count_eq_zero]
   intro hm
   have:=(List.mem_filter.1 hm).2
   rw[decide_eq_false h] at this
   simp at this
 simp only[hc]
 have h8:x.2 % 8=0∨x.2 % 8=1∨x.2 % 8=2∨x.2 % 8=3∨x.2 % 8=4∨x.2 % 8=5∨x.2 % 8=6∨x.2 % 8=7:=by omega
 rcases h8 with h|h|h|h|h|h|h|h<;>simp[h]
theorem H8 (l:List TT):(slots fun m=>sl m l).Perm l:=by
 have e:∀ m:List TT,m.filter (fun _=>true)=m:=fun m=>List.filter_eq_self.2 (fun _ _=>rfl)
 have:=rj l (fun _=>true)
 simp only[e] at this
 exact this
theorem D6 {v:Int}(h0:0≤v)(h1:v≤1073741824):f135 v=some (v % 8,()):=by
 unfold f135
 have e:v=((v.toNat:Nat):Int):=by omega
 have:=Rv (a:=v.toNat) (b:=7) (by omega) (by omega)
 rw[← e] at this
 rw[show (7:Int)=((7:Nat):Int) from rfl,this,show (7:Nat)=2 ^ 3-1 from rfl,Nat.and_two_pow_sub_one_eq_mod]
 congr 2
 omega
theorem fCT (l:List TT)(hl:l.length≤1000):jI l=some (l,()):=by
 unfold jI jU
 rw[Nat.ble_eq_true_of_le (show l.length * 16≤140737488355328 by omega)];rfl
theorem xF (now:Int)(l:List TT)(hl:l.length≤1000):f106 now l=some ((now,l),()):=by unfold f106;rw[fCT l hl];rfl
theorem uy (l:List TT)(hl:l.length≤1000):uV l=some (iz l):=by
 unfold uV KL iz
 rw[Ab (by omega)]
 simp only[cond_true,Option.some.injEq]
 congr 1
 funext x y
 rw[RU]
theorem Xo (a b c d:Int):f132 a b c d=some (xk (a,b) (c,d),()):=by
 unfold f132
 rw[xN,xN]
 simp only[Option.bind_some,MX]
 rfl
theorem cD (a b:Int):f136 a b=some (true,()):=rfl
theorem bD {α β γ:Type}{u:α→Option (R3 α β γ)}(l:List TT)(p:TT→Bool)(st:Nat→List TT→List TT→α)(fin:List TT→List TT→β)
  (hs:∀ j (hj:j<l.length) o r,o.length≤1000→r.length≤1000→u (st j o r)=cond (p l[j]) (some (.next (st (j+1) (o++[l[j]]) r))) (some (.next (st (j+1) o (r++[l[j]])))))
  (he:∀ o r,u (st l.length o r)=some (.out (fin o r))) (hl:l.length≤200) {o r:List TT} (ho:o.length≤700) (hr:r.length≤700) :
  iter aC u (st 0 o r)=some (.inl (fin (o++l.filter p) (r++l.filter fun x=>!p x))):=by
 have go:∀ (d j:Nat) (o r:List TT),j+d=l.length→o.length≤700+j→r.length≤700+j→iter (d+1) u (st j o r)=some (.inl (fin (o++(l.drop j).filter p) (r++(l.drop j).filter fun x=>!p x))):=by
  intro d
  induction d with
  | zero=>
   intro j o r hj _ _
   have e:j=l.length:=by omega
   subst e
   rw[jQ (he o r),List.drop_length]
   simp
  | succ d ih=>
   intro j o r hj ho hr
   have hlt:j<l.length:=by omega
   have h1:=hs j hlt o r (by omega) (by omega)
   rw[List.drop_eq_getElem_cons hlt]
   cases hp:p l[j] with
   | true=>
    rw[hp] at h1
    rw[fJ h1,ih (j+1) _ r (by omega) (by simp;omega) (by omega),List.filter_cons_of_pos hp,List.filter_cons_of_neg (by rw[hp];simp)]
    simp
   | false=>
    rw[hp] at h1
    rw[fJ h1,ih (j+1) o _ (by omega) (by omega) (by simp;omega),List.filter_cons_of_neg (by rw[hp];simp),List.filter_cons_of_pos (by rw[hp];rfl)]
    simp
 have:=go l.length 0 o r (by omega) (by omega) (by omega)
 rw[List.drop_zero] at this
 exact lg (by unfold aC;omega) this
structure WhP (now:Int)(T:List TT):Prop where
 jX:0≤now
 nV:now≤1073741824
 each:∀ x∈T,now<x.2∧x.2≤1073741824∧0≤x.1
 ji:T.Pairwise fun x y=>ow x y=true
 ids:T.Pairwise fun x y=>x.1≠y.1
 len:T.length≤64
set_option maxRecDepth 10000
set_option maxHeartbeats 1000000
theorem bf {n:Nat}(h:n≤1000):(decide ((n+1) * 16≤140737488355328)&&decide (n+1≤9223372036854775807))=true:=by
 rw[decide_eq_true (by omega),decide_eq_true (by omega)];rfl
theorem gO (x:TT):(x.1,x.2)=x:=rfl
section
variable (v3:Int)(v4:(List (Int×Int)))(v5 v6:Int)(v7:(List (Int×Int)))(v8:Int)(v9 v10 v11 v12 v13 v14 v15 v16:(List (Int×Int)))(v17 v18:Int)(v19:(List (Int×Int)))(v20:Int)(v23 v24 v25 v26 v27 v28 v29 v30:(List (Int×Int)))(o r:List TT)
theorem IX (hl:v9.length≤200)(ho:o.length≤700)(hr:r.length≤700) :
  iter aC e8 (((),(),(),(),(),(),((v9.length:Nat):Int),0,()),((v3,v4,()),(v5,()),(v6,(),()),v7,(v8,(),(),(),(),(),(),(),(),()),v9,v10,v11,v12,v13,v14,v15,v16,(v17,v18,()),v19,(v20,(),()),()),o,r,v23,())=some (.inl (((),(),(),(),(),()),((v3,v4,()),(v5,()),(v6,(),()),v7,(v8,(),(),(),(),(),(),(),(),()),v9,v10,v11,v12,v13,v14,v15,v16,(v17,v18,()),v19,(v20,(),()),()),(o++v9.filter (fun _=>true)),(r++v9.filter (fun x=>!(fun _=>true) x)),v23,())):=
 bD (u:=e8) v9 (fun _=>true) (fun j o r=>(((),(),(),(),(),(),((v9.length:Nat):Int),((j:Nat):Int),()),((v3,v4,()),(v5,()),(v6,(),()),v7,(v8,(),(),(),(),(),(),(),(),()),v9,v10,v11,v12,v13,v14,v15,v16,(v17,v18,()),v19,(v20,(),()),()),o,r,v23,())) (fun o r=>(((),(),(),(),(),()),((v3,v4,()),(v5,()),(v6,(),()),v7,(v8,(),(),(),(),(),(),(),(),()),v9,v10,v11,v12,v13,v14,v15,v16,(v17,v18,()),v19,(v20,(),()),()),o,r,v23,()))
  (fun j hj o r ho hr=>by
   simp only[e8,oP,dB hj,dx,cond_true,Bool.and_self,Int.toNat_natCast,fE hj,decide_eq_true hj,bf ho,bf hr,gO,cD,Option.bind_some,nx hj (show v9.length≤9223372036854775807 by omega)])
  (fun o r=>by simp only[e8,oP,gr,cond_false]) hl ho hr
theorem FA (hl:v10.length≤200)(ho:o.length≤700)(hr:r.length≤700) :
  iter aC fz (((),(),(),(),(),(),((v10.length:Nat):Int),0,()),((v3,v4,()),(v5,()),(v6,(),()),v7,(v8,(),(),(),(),(),(),(),(),()),v9,v10,v11,v12,v13,v14,v15,v16,(v17,v18,()),v19,(v20,(),()),()),o,r,v23,v24,())=some (.inl (((),(),(),(),(),()),((v3,v4,()),(v5,()),(v6,(),()),v7,(v8,(),(),(),(),(),(),(),(),()),v9,v10,v11,v12,v13,v14,v15,v16,(v17,v18,()),v19,(v20,(),()),()),(o++v10.filter (fun _=>true)),(r++v10.filter (fun x=>!(fun _=>true) x)),v23,v24,())):=
 bD (u:=fz) v10 (fun _=>true) (fun j o r=>(((),(),(),(),(),(),((v10.length:Nat):Int),((j:Nat):Int),()),((v3,v4,()),(v5,()),(v6,(),()),v7,(v8,(),(),(),(),(),(),(),(),()),v9,v10,v11,v12,v13,v14,v15,v16,(v17,v18,()),v19,(v20,(),()),()),o,r,v23,v24,())) (fun o r=>(((),(),(),(),(),()),((v3,v4,()),(v5,()),(v6,(),()),v7,(v8,(),(),(),(),(),(),(),(),()),v9,v10,v11,v12,v13,v14,v15,v16,(v17,v18,()),v19,(v20,(),()),()),o,r,v23,v24,()))
  (fun j hj o r ho hr=>by
   simp only[fz,oT,dB hj,dx,cond_true,Bool.and_self,Int.toNat_natCast,fE hj,decide_eq_true hj,bf ho,bf hr,gO,cD,Option.bind_some,nx hj (show v10.length≤9223372036854775807 by omega)])
  (fun o r=>by simp only[fz,oT,gr,cond_false]) hl ho hr
theorem Hg (hl:v11.length≤200)(ho:o.length≤700)(hr:r.length≤700) :
  iter aC e9 (((),(),(),(),(),(),((v11.length:Nat):Int),0,()),((v3,v4,()),(v5,()),(v6,(),()),v7,(v8,(),(),(),(),(),(),(),(),()),v9,v10,v11,v12,v13,v14,v15,v16,(v17,v18,()),v19,(v20,(),()),()),o,r,v23,v24,v25,())=some (.inl (((),(),(),(),(),()),((v3,v4,()),(v5,()),(v6,(),()),v7,(v8,(),(),(),(),(),(),(),(),()),v9,v10,v11,v12,v13,v14,v15,v16,(v17,v18,()),v19,(v20,(),()),()),(o++v11.filter (fun _=>true)),(r++v11.filter (fun x=>!(fun _=>true) x)),v23,v24,v25,())):=
 bD (u:=e9) v11 (fun _=>true) (fun j o r=>(((),(),(),(),(),(),((v11.length:Nat):Int),((j:Nat):Int),()),((v3,v4,()),(v5,()),(v6,(),()),v7,(v8,(),(),(),(),(),(),(),(),()),v9,v10,v11,v12,v13,v14,v15,v16,(v17,v18,()),v19,(v20,(),()),()),o,r,v23,v24,v25,())) (fun o r=>(((),(),(),(),(),()),((v3,v4,()),(v5,()),(v6,(),()),v7,(v8,(),(),(),(),(),(),(),(),()),v9,v10,v11,v12,v13,v14,v15,v16,(v17,v18,()),v19,(v20,(),()),()),o,r,v23,v24,v25,()))
  (fun j hj o r ho hr=>by
   simp only[e9,nS,dB hj,dx,cond_true,Bool.and_self,Int.toNat_natCast,fE hj,decide_eq_true hj,bf ho,bf hr,gO,cD,Option.bind_some,nx hj (show v11.length≤9223372036854775807 by omega)])
  (fun o r=>by simp only[e9,nS,gr,cond_false]) hl ho hr
theorem G9 (hl:v12.length≤200)(ho:o.length≤700)(hr:r.length≤700) :
  iter aC eW (((),(),(),(),(),(),((v12.length:Nat):Int),0,()),((v3,v4,()),(v5,()),(v6,(),()),v7,(v8,(),(),(),(),(),(),(),(),()),v9,v10,v11,v12,v13,v14,v15,v16,(v17,v18,()),v19,(v20,(),()),()),o,r,v23,v24,v25,v26,())=some (.inl (((),(),(),(),(),()),((v3,v4,()),(v5,()),(v6,(),()),v7,(v8,(),(),(),(),(),(),(),(),()),v9,v10,v11,v12,v13,v14,v15,v16,(v17,v18,()),v19,(v20,(),()),()),(o++v12.filter (fun _=>true)),(r++v12.filter (fun x=>!(fun _=>true) x)),v23,v24,v25,v26,())):=
 bD (u:=eW) v12 (fun _=>true) (fun j o r=>(((),(),(),(),(),(),((v12.length:Nat):Int),((j:Nat):Int),()),((v3,v4,()),(v5,()),(v6,(),()),v7,(v8,(),(),(),(),(),(),(),(),()),v9,v10,v11,v12,v13,v14,v15,v16,(v17,v18,()),v19,(v20,(),()),()),o,r,v23,v24,v25,v26,())) (fun o r=>(((),(),(),(),(),()),((v3,v4,()),(v5,()),(v6,(),()),v7,(v8,(),(),(),(),(),(),(),(),()),v9,v10,v11,v12,v13,v14,v15,v16,(v17,v18,()),v19,(v20,(),()),()),o,r,v23,v24,v25,v26,()))
  (fun j hj o r ho hr=>by
   simp only[eW,pu,dB hj,dx,cond_true,Bool.and_self,Int.toNat_natCast,fE hj,decide_eq_true hj,bf ho,bf hr,gO,cD,Option.bind_some,nx hj (show v12.length≤9223372036854775807 by omega)])
  (fun o r=>by simp only[eW,pu,gr,cond_false]) hl ho hr
theorem Ga (hl:v13.length≤200)(ho:o.length≤700)(hr:r.length≤700) :
  iter aC eY (((),(),(),(),(),(),((v13.length:Nat):Int),0,()),((v3,v4,()),(v5,()),(v6,(),()),v7,(v8,(),(),(),(),(),(),(),(),()),v9,v10,v11,v12,v13,v14,v15,v16,(v17,v18,()),v19,(v20,(),()),()),o,r,v23,v24,v25,v26,v27,())=some (.inl (((),(),(),(),(),()),((v3,v4,()),(v5,()),(v6,(),()),v7,(v8,(),(),(),(),(),(),(),(),()),v9,v10,v11,v12,v13,v14,v15,v16,(v17,v18,()),v19,(v20,(),()),()),(o++v13.filter (fun _=>true)),(r++v13.filter (fun x=>!(fun _=>true) x)),v23,v24,v25,v26,v27,())):=
 bD (u:=eY) v13 (fun _=>true) (fun j o r=>(((),(),(),(),(),(),((v13.length:Nat):Int),((j:Nat):Int),()),((v3,v4,()),(v5,()),(v6,(),()),v7,(v8,(),(),(),(),(),(),(),(),()),v9,v10,v11,v12,v13,v14,v15,v16,(v17,v18,()),v19,(v20,(),()),()),o,r,v23,v24,v25,v26,v27,())) (fun o r=>(((),(),(),(),(),()),((v3,v4,()),(v5,()),(v6,(),()),v7,(v8,(),(),(),(),(),(),(),(),()),v9,v10,v11,v12,v13,v14,v15,v16,(v17,v18,()),v19,(v20,(),()),()),o,r,v23,v24,v25,v26,v27,()))
  (fun j hj o r ho hr=>by
   simp only[eY,o7,dB hj,dx,cond_true,Bool.and_self,Int.toNat_natCast,fE hj,decide_eq_true hj,bf ho,bf hr,gO,cD,Option.bind_some,nx hj (show v13.length≤9223372036854775807 by omega)])
  (fun o r=>by simp only[eY,o7,gr,cond_false]) hl ho hr
theorem Je (hl:v14.length≤200)(ho:o.length≤700)(hr:r.length≤700) :
  iter aC fu (((),(),(),(),(),(),((v14.length:Nat):Int),0,()),((v3,v4,()),(v5,()),(v6,(),()),v7,(v8,(),(),(),(),(),(),(),(),()),v9,v10,v11,v12,v13,v14,v15,v16,(v17,v18,()),v19,(v20,(),()),()),o,r,v23,v24,v25,v26,v27,v28,())=some (.inl (((),(),(),(),(),()),((v3,v4,()),(v5,()),(v6,(),()),v7,(v8,(),(),(),(),(),(),(),(),()),v9,v10,v11,v12,v13,v14,v15,v16,(v17,v18,()),v19,(v20,(),()),()),(o++v14.filter (fun _=>true)),(r++v14.filter (fun x=>!(fun _=>true) x)),v23,v24,v25,v26,v27,v28,())):=
 bD (u:=fu) v14 (fun _=>true) (fun j o r=>(((),(),(),(),(),(),((v14.length:Nat):Int),((j:Nat):Int),()),((v3,v4,()),(v5,()),(v6,(),()),v7,(v8,(),(),(),(),(),(),(),(),()),v9,v10,v11,v12,v13,v14,v15,v16,(v17,v18,()),v19,(v20,(),()),()),o,r,v23,v24,v25,v26,v27,v28,())) (fun o r=>(((),(),(),(),(),()),((v3,v4,()),(v5,()),(v6,(),()),v7,(v8,(),(),(),(),(),(),(),(),()),v9,v10,v11,v12,v13,v14,v15,v16,(v17,v18,()),v19,(v20,(),()),()),o,r,v23,v24,v25,v26,v27,v28,()))
  (fun j hj o r ho hr=>by
   simp only[fu,nM,dB hj,dx,cond_true,Bool.and_self,Int.toNat_natCast,fE hj,decide_eq_true hj,bf ho,bf hr,gO,cD,Option.bind_some,nx hj (show v14.length≤9223372036854775807 by omega)])
  (fun o r=>by simp only[fu,nM,gr,cond_false]) hl ho hr
theorem JK (hl:v15.length≤200)(ho:o.length≤700)(hr:r.length≤700) :
  iter aC fk (((),(),(),(),(),(),((v15.length:Nat):Int),0,()),((v3,v4,()),(v5,()),(v6,(),()),v7,(v8,(),(),(),(),(),(),(),(),()),v9,v10,v11,v12,v13,v14,v15,v16,(v17,v18,()),v19,(v20,(),()),()),o,r,v23,v24,v25,v26,v27,v28,v29,())=some (.inl (((),(),(),(),(),()),((v3,v4,()),(v5,()),(v6,(),()),v7,(v8,(),(),(),(),(),(),(),(),()),v9,v10,v11,v12,v13,v14,v15,v16,(v17,v18,()),v19,(v20,(),()),()),(o++v15.filter (fun _=>true)),(r++v15.filter (fun x=>!(fun _=>true) x)),v23,v24,v25,v26,v27,v28,v29,())):=
 bD (u:=fk) v15 (fun _=>true) (fun j o r=>(((),(),(),(),(),(),((v15.length:Nat):Int),((j:Nat):Int),()),((v3,v4,()),(v5,()),(v6,(),()),v7,(v8,(),(),(),(),(),(),(),(),()),v9,v10,v11,v12,v13,v14,v15,v16,(v17,v18,()),v19,(v20,(),()),()),o,r,v23,v24,v25,v26,v27,v28,v29,())) (fun o r=>(((),(),(),(),(),()),((v3,v4,()),(v5,()),(v6,(),()),v7,(v8,(),(),(),(),(),(),(),(),()),v9,v10,v11,v12,v13,v14,v15,v16,(v17,v18,()),v19,(v20,(),()),()),o,r,v23,v24,v25,v26,v27,v28,v29,()))
  (fun j hj o r ho hr=>by
   simp only[fk,oo,dB hj,dx,cond_true,Bool.and_self,Int.toNat_natCast,fE hj,decide_eq_true hj,bf ho,bf hr,gO,cD,Option.bind_some,nx hj (show v15.length≤9223372036854775807 by omega)])
  (fun o r=>by simp only[fk,oo,gr,cond_false]) hl ho hr
theorem I5 (hl:v16.length≤200)(ho:o.length≤700)(hr:r.length≤700) :
  iter aC fh (((),(),(),(),(),(),((v16.length:Nat):Int),0,()),((v3,v4,()),(v5,()),(v6,(),()),v7,(v8,(),(),(),(),(),(),(),(),()),v9,v10,v11,v12,v13,v14,v15,v16,(v17,v18,()),v19,(v20,(),()),()),o,r,v23,v24,v25,v26,v27,v28,v29,v30,())=some (.inl (((),(),(),(),(),()),((v3,v4,()),(v5,()),(v6,(),()),v7,(v8,(),(),(),(),(),(),(),(),()),v9,v10,v11,v12,v13,v14,v15,v16,(v17,v18,()),v19,(v20,(),()),()),(o++v16.filter (fun _=>true)),(r++v16.filter (fun x=>!(fun _=>true) x)),v23,v24,v25,v26,v27,v28,v29,v30,())):=
 bD (u:=fh) v16 (fun _=>true) (fun j o r=>(((),(),(),(),(),(),((v16.length:Nat):Int),((j:Nat):Int),()),((v3,v4,()),(v5,()),(v6,(),()),v7,(v8,(),(),(),(),(),(),(),(),()),v9,v10,v11,v12,v13,v14,v15,v16,(v17,v18,()),v19,(v20,(),()),()),o,r,v23,v24,v25,v26,v27,v28,v29,v30,())) (fun o r=>(((),(),(),(),(),()),((v3,v4,()),(v5,()),(v6,(),()),v7,(v8,(),(),(),(),(),(),(),(),()),v9,v10,v11,v12,v13,v14,v15,v16,(v17,v18,()),v19,(v20,(),()),()),o,r,v23,v24,v25,v26,v27,v28,v29,v30,()))
  (fun j hj o r ho hr=>by
   simp only[fh,ng,dB hj,dx,cond_true,Bool.and_self,Int.toNat_natCast,fE hj,decide_eq_true hj,bf ho,bf hr,gO,cD,Option.bind_some,nx hj (show v16.length≤9223372036854775807 by omega)])
  (fun o r=>by simp only[fh,ng,gr,cond_false]) hl ho hr
end
section
variable (v3:Int)(v4:(List (Int×Int)))(v5 v6:Int)(v7 v8 v9 v10 v11 v12 v13 v14 v15 v16 v17 v18 v19 v20 v21 v22 v23 v24:(List (Int×Int)))(v25:Int)(v28 v29 v30 v31 v32 v33 v34 v35:(List (Int×Int)))(o r:List TT)
theorem Jk (hl:v8.length≤200)(ho:o.length≤700)(hr:r.length≤700) :
  iter aC fw (((),(),(),(),(),(),((v8.length:Nat):Int),0,()),((v3,v4,()),(v5,(),()),(v6,(),(),(),(),(),(),(),(),()),v7,v8,v9,v10,v11,v12,v13,v14,v15,()),o,r,())=some (.inl (((),(),(),(),(),()),((v3,v4,()),(v5,(),()),(v6,(),(),(),(),(),(),(),(),()),v7,v8,v9,v10,v11,v12,v13,v14,v15,()),(o++v8.filter (fun x=>decide (x.2≤v6))),(r++v8.filter (fun x=>!(fun x=>decide (x.2≤v6)) x)),())):=
 bD (u:=fw) v8 (fun x=>decide (x.2≤v6)) (fun j o r=>(((),(),(),(),(),(),((v8.length:Nat):Int),((j:Nat):Int),()),((v3,v4,()),(v5,(),()),(v6,(),(),(),(),(),(),(),(),()),v7,v8,v9,v10,v11,v12,v13,v14,v15,()),o,r,())) (fun o r=>(((),(),(),(),(),()),((v3,v4,()),(v5,(),()),(v6,(),(),(),(),(),(),(),(),()),v7,v8,v9,v10,v11,v12,v13,v14,v15,()),o,r,()))
  (fun j hj o r ho hr=>by
   simp only[fw,pq,dB hj,dx,cond_true,Bool.and_self,Int.toNat_natCast,fE hj,decide_eq_true hj,bf ho,bf hr,gO,nx hj (show v8.length≤9223372036854775807 by omega)])
  (fun o r=>by simp only[fw,pq,gr,cond_false]) hl ho hr
theorem FJ (hl:v9.length≤200)(ho:o.length≤700)(hr:r.length≤700) :
  iter aC fC (((),(),(),(),(),(),((v9.length:Nat):Int),0,()),((v3,v4,()),(v5,(),()),(v6,(),(),(),(),(),(),(),(),()),v7,v8,v9,v10,v11,v12,v13,v14,v15,()),o,r,v18,())=some (.inl (((),(),(),(),(),()),((v3,v4,()),(v5,(),()),(v6,(),(),(),(),(),(),(),(),()),v7,v8,v9,v10,v11,v12,v13,v14,v15,()),(o++v9.filter (fun x=>decide (x.2≤v6))),(r++v9.filter (fun x=>!(fun x=>decide (x.2≤v6)) x)),v18,())):=
 bD (u:=fC) v9 (fun x=>decide (x.2≤v6)) (fun j o r=>(((),(),(),(),(),(),((v9.length:Nat):Int),((j:Nat):Int),()),((v3,v4,()),(v5,(),()),(v6,(),(),(),(),(),(),(),(),()),v7,v8,v9,v10,v11,v12,v13,v14,v15,()),o,r,v18,())) (fun o r=>(((),(),(),(),(),()),((v3,v4,()),(v5,(),()),(v6,(),(),(),(),(),(),(),(),()),v7,v8,v9,v10,v11,v12,v13,v14,v15,()),o,r,v18,()))
  (fun j hj o r ho hr=>by
   simp only[fC,nJ,dB hj,dx,cond_true,Bool.and_self,Int.toNat_natCast,fE hj,decide_eq_true hj,bf ho,bf hr,gO,nx hj (show v9.length≤9223372036854775807 by omega)])
  (fun o r=>by simp only[fC,nJ,gr,cond_false]) hl ho hr
theorem F8 (hl:v10.length≤200)(ho:o.length≤700)(hr:r.length≤700) :
  iter aC fp (((),(),(),(),(),(),((v10.length:Nat):Int),0,()),((v3,v4,()),(v5,(),()),(v6,(),(),(),(),(),(),(),(),()),v7,v8,v9,v10,v11,v12,v13,v14,v15,()),o,r,v18,v19,())=some (.inl (((),(),(),(),(),()),((v3,v4,()),(v5,(),()),(v6,(),(),(),(),(),(),(),(),()),v7,v8,v9,v10,v11,v12,v13,v14,v15,()),(o++v10.filter (fun x=>decide (x.2≤v6))),(r++v10.filter (fun x=>!(fun x=>decide (x.2≤v6)) x)),v18,v19,())):=
 bD (u:=fp) v10 (fun x=>decide (x.2≤v6)) (fun j o r=>(((),(),(),(),(),(),((v10.length:Nat):Int),((j:Nat):Int),()),((v3,v4,()),(v5,(),()),(v6,(),(),(),(),(),(),(),(),()),v7,v8,v9,v10,v11,v12,v13,v14,v15,()),o,r,v18,v19,())) (fun o r=>(((),(),(),(),(),()),((v3,v4,()),(v5,(),()),(v6,(),(),(),(),(),(),(),(),()),v7,v8,v9,v10,v11,v12,v13,v14,v15,()),o,r,v18,v19,()))
  (fun j hj o r ho hr=>by
   simp only[fp,mX,dB hj,dx,cond_true,Bool.and_self,Int.toNat_natCast,fE hj,decide_eq_true hj,bf ho,bf hr,gO,nx hj (show v10.length≤9223372036854775807 by omega)])
  (fun o r=>by simp only[fp,mX,gr,cond_false]) hl ho hr
theorem J3 (hl:v11.length≤200)(ho:o.length≤700)(hr:r.length≤700) :
  iter aC eM (((),(),(),(),(),(),((v11.length:Nat):Int),0,()),((v3,v4,()),(v5,(),()),(v6,(),(),(),(),(),(),(),(),()),v7,v8,v9,v10,v11,v12,v13,v14,v15,()),o,r,v18,v19,v20,())=some (.inl (((),(),(),(),(),()),((v3,v4,()),(v5,(),()),(v6,(),(),(),(),(),(),(),(),()),v7,v8,v9,v10,v11,v12,v13,v14,v15,()),(o++v11.filter (fun x=>decide (x.2≤v6))),(r++v11.filter (fun x=>!(fun x=>decide (x.2≤v6)) x)),v18,v19,v20,())):=
 bD (u:=eM) v11 (fun x=>decide (x.2≤v6)) (fun j o r=>(((),(),(),(),(),(),((v11.length:Nat):Int),((j:Nat):Int),()),((v3,v4,()),(v5,(),()),(v6,(),(),(),(),(),(),(),(),()),v7,v8,v9,v10,v11,v12,v13,v14,v15,()),o,r,v18,v19,v20,())) (fun o r=>(((),(),(),(),(),()),((v3,v4,()),(v5,(),()),(v6,(),(),(),(),(),(),(),(),()),v7,v8,v9,v10,v11,v12,v13,v14,v15,()),o,r,v18,v19,v20,()))
  (fun j hj o r ho hr=>by
   simp only[eM,nN,dB hj,dx,cond_true,Bool.and_self,Int.toNat_natCast,fE hj,decide_eq_true hj,bf ho,bf hr,gO,nx hj (show v11.length≤9223372036854775807 by omega)])
  (fun o r=>by simp only[eM,nN,gr,cond_false]) hl ho hr
theorem I2 (hl:v12.length≤200)(ho:o.length≤700)(hr:r.length≤700) :
  iter aC eX (((),(),(),(),(),(),((v12.length:Nat):Int),0,()),((v3,v4,()),(v5,(),()),(v6,(),(),(),(),(),(),(),(),()),v7,v8,v9,v10,v11,v12,v13,v14,v15,()),o,r,v18,v19,v20,v21,())=some (.inl (((),(),(),(),(),()),((v3,v4,()),(v5,(),()),(v6,(),(),(),(),(),(),(),(),()),v7,v8,v9,v10,v11,v12,v13,v14,v15,()),(o++v12.filter (fun x=>decide (x.2≤v6))),(r++v12.filter (fun x=>!(fun x=>decide (x.2≤v6)) x)),v18,v19,v20,v21,())):=
 bD (u:=eX) v12 (fun x=>decide (x.2≤v6)) (fun j o r=>(((),(),(),(),(),(),((v12.length:Nat):Int),((j:Nat):Int),()),((v3,v4,()),(v5,(),()),(v6,(),(),(),(),(),(),(),(),()),v7,v8,v9,v10,v11,v12,v13,v14,v15,()),o,r,v18,v19,v20,v21,())) (fun o r=>(((),(),(),(),(),()),((v3,v4,()),(v5,(),()),(v6,(),(),(),(),(),(),(),(),()),v7,v8,v9,v10,v11,v12,v13,v14,v15,()),o,r,v18,v19,v20,v21,()))
  (fun j hj o r ho hr=>by
   simp only[eX,nH,dB hj,dx,cond_true,Bool.and_self,Int.toNat_natCast,fE hj,decide_eq_true hj,bf ho,bf hr,gO,nx hj (show v12.length≤9223372036854775807 by omega)])
  (fun o r=>by simp only[eX,nH,gr,cond_false]) hl ho hr
theorem FD (hl:v13.length≤200)(ho:o.length≤700)(hr:r.length≤700) :
  iter aC eZ (((),(),(),(),(),(),((v13.length:Nat):Int),0,()),((v3,v4,()),(v5,(),()),(v6,(),(),(),(),(),(),(),(),()),v7,v8,v9,v10,v11,v12,v13,v14,v15,()),o,r,v18,v19,v20,v21,v22,())=some (.inl (((),(),(),(),(),()),((v3,v4,()),(v5,(),()),(v6,(),(),(),(),(),(),(),(),()),v7,v8,v9,v10,v11,v12,v13,v14,v15,()),(o++v13.filter (fun x=>decide (x.2≤v6))),(r++v13.filter (fun x=>!(fun x=>decide (x.2≤v6)) x)),v18,v19,v20,v21,v22,())):=
 bD (u:=eZ) v13 (fun x=>decide (x.2≤v6)) (fun j o r=>(((),(),(),(),(),(),((v13.length:Nat):Int),((j:Nat):Int),()),((v3,v4,()),(v5,(),()),(v6,(),(),(),(),(),(),(),(),()),v7,v8,v9,v10,v11,v12,v13,v14,v15,()),o,r,v18,v19,v20,v21,v22,())) (fun o r=>(((),(),(),(),(),()),((v3,v4,()),(v5,(),()),(v6,(),(),(),(),(),(),(),(),()),v7,v8,v9,v10,v11,v12,v13,v14,v15,()),o,r,v18,v19,v20,v21,v22,()))
  (fun j hj o r ho hr=>by
   simp only[eZ,o6,dB hj,dx,cond_true,Bool.and_self,Int.toNat_natCast,fE hj,decide_eq_true hj,bf ho,bf hr,gO,nx hj (show v13.length≤9223372036854775807 by omega)])
  (fun o r=>by simp only[eZ,o6,gr,cond_false]) hl ho hr
theorem GQ (hl:v14.length≤200)(ho:o.length≤700)(hr:r.length≤700) :
  iter aC fq (((),(),(),(),(),(),((v14.length:Nat):Int),0,()),((v3,v4,()),(v5,(),()),(v6,(),(),(),(),(),(),(),(),()),v7,v8,v9,v10,v11,v12,v13,v14,v15,()),o,r,v18,v19,v20,v21,v22,v23,())=some (.inl (((),(),(),(),(),()),((v3,v4,()),(v5,(),()),(v6,(),(),(),(),(),(),(),(),()),v7,v8,v9,v10,v11,v12,v13,v14,v15,()),(o++v14.filter (fun x=>decide (x.2≤v6))),(r++v14.filter (fun x=>!(fun x=>decide (x.2≤v6)) x)),v18,v19,v20,v21,v22,v23,())):=
 bD (u:=fq) v14 (fun x=>decide (x.2≤v6)) (fun j o r=>(((),(),(),(),(),(),((v14.length:Nat):Int),((j:Nat):Int),()),((v3,v4,()),(v5,(),()),(v6,(),(),(),(),(),(),(),(),()),v7,v8,v9,v10,v11,v12,v13,v14,v15,()),o,r,v18,v19,v20,v21,v22,v23,())) (fun o r=>(((),(),(),(),(),()),((v3,v4,()),(v5,(),()),(v6,(),(),(),(),(),(),(),(),()),v7,v8,v9,v10,v11,v12,v13,v14,v15,()),o,r,v18,v19,v20,v21,v22,v23,()))
  (fun j hj o r ho hr=>by
   simp only[fq,nP,dB hj,dx,cond_true,Bool.and_self,Int.toNat_natCast,fE hj,decide_eq_true hj,bf ho,bf hr,gO,nx hj (show v14.length≤9223372036854775807 by omega)])
  (fun o r=>by simp only[fq,nP,gr,cond_false]) hl ho hr
theorem Gb (hl:v15.length≤200)(ho:o.length≤700)(hr:r.length≤700) :
  iter aC fm (((),(),(),(),(),(),((v15.length:Nat):Int),0,()),((v3,v4,()),(v5,(),()),(v6,(),(),(),(),(),(),(),(),()),v7,v8,v9,v10,v11,v12,v13,v14,v15,()),o,r,v18,v19,v20,v21,v22,v23,v24,())=some (.inl (((),(),(),(),(),()),((v3,v4,()),(v5,(),()),(v6,(),(),(),(),(),(),(),(),()),v7,v8,v9,v10,v11,v12,v13,v14,v15,()),(o++v15.filter (fun x=>decide (x.2≤v6))),(r++v15.filter (fun x=>!(fun x=>decide (x.2≤v6)) x)),v18,v19,v20,v21,v22,v23,v24,())):=
 bD (u:=fm) v15 (fun x=>decide (x.2≤v6)) (fun j o r=>(((),(),(),(),(),(),((v15.length:Nat):Int),((j:Nat):Int),()),((v3,v4,()),(v5,(),()),(v6,(),(),(),(),(),(),(),(),()),v7,v8,v9,v10,v11,v12,v13,v14,v15,()),o,r,v18,v19,v20,v21,v22,v23,v24,())) (fun o r=>(((),(),(),(),(),()),((v3,v4,()),(v5,(),()),(v6,(),(),(),(),(),(),(),(),()),v7,v8,v9,v10,v11,v12,v13,v14,v15,()),o,r,v18,v19,v20,v21,v22,v23,v24,()))
  (fun j hj o r ho hr=>by
   simp only[fm,mU,dB hj,dx,cond_true,Bool.and_self,Int.toNat_natCast,fE hj,decide_eq_true hj,bf ho,bf hr,gO,nx hj (show v15.length≤9223372036854775807 by omega)])
  (fun o r=>by simp only[fm,mU,gr,cond_false]) hl ho hr
theorem GV (hl:v18.length≤200)(ho:o.length≤700)(hr:r.length≤700) :
  iter aC eS (((),(),(),(),(),(),((v18.length:Nat):Int),0,()),((v3,v4,()),(v5,(),()),(v6,(),(),(),(),(),(),(),(),()),v7,v8,v9,v10,v11,v12,v13,v14,v15,v16,v17,v18,v19,v20,v21,v22,v23,v24,(v25,(),()),()),o,r,v28,())=some (.inl (((),(),(),(),(),()),((v3,v4,()),(v5,(),()),(v6,(),(),(),(),(),(),(),(),()),v7,v8,v9,v10,v11,v12,v13,v14,v15,v16,v17,v18,v19,v20,v21,v22,v23,v24,(v25,(),()),()),(o++v18.filter (fun _=>true)),(r++v18.filter (fun x=>!(fun _=>true) x)),v28,())):=
 bD (u:=eS) v18 (fun _=>true) (fun j o r=>(((),(),(),(),(),(),((v18.length:Nat):Int),((j:Nat):Int),()),((v3,v4,()),(v5,(),()),(v6,(),(),(),(),(),(),(),(),()),v7,v8,v9,v10,v11,v12,v13,v14,v15,v16,v17,v18,v19,v20,v21,v22,v23,v24,(v25,(),()),()),o,r,v28,())) (fun o r=>(((),(),(),(),(),()),((v3,v4,()),(v5,(),()),(v6,(),(),(),(),(),(),(),(),()),v7,v8,v9,v10,v11,v12,v13,v14,v15,v16,v17,v18,v19,v20,v21,v22,v23,v24,(v25,(),()),()),o,r,v28,()))
  (fun j hj o r ho hr=>by
   simp only[eS,oQ,dB hj,dx,cond_true,Bool.and_self,Int.toNat_natCast,fE hj,decide_eq_true hj,bf ho,bf hr,gO,cD,Option.bind_some,nx hj (show v18.length≤9223372036854775807 by omega)])
  (fun o r=>by simp only[eS,oQ,gr,cond_false]) hl ho hr
theorem G0 (hl:v19.length≤200)(ho:o.length≤700)(hr:r.length≤700) :
  iter aC fA (((),(),(),(),(),(),((v19.length:Nat):Int),0,()),((v3,v4,()),(v5,(),()),(v6,(),(),(),(),(),(),(),(),()),v7,v8,v9,v10,v11,v12,v13,v14,v15,v16,v17,v18,v19,v20,v21,v22,v23,v24,(v25,(),()),()),o,r,v28,v29,())=some (.inl (((),(),(),(),(),()),((v3,v4,()),(v5,(),()),(v6,(),(),(),(),(),(),(),(),()),v7,v8,v9,v10,v11,v12,v13,v14,v15,v16,v17,v18,v19,v20,v21,v22,v23,v24,(v25,(),()),()),(o++v19.filter (fun _=>true)),(r++v19.filter (fun x=>!(fun _=>true) x)),v28,v29,())):=
 bD (u:=fA) v19 (fun _=>true) (fun j o r=>(((),(),(),(),(),(),((v19.length:Nat):Int),((j:Nat):Int),()),((v3,v4,()),(v5,(),()),(v6,(),(),(),(),(),(),(),(),()),v7,v8,v9,v10,v11,v12,v13,v14,v15,v16,v17,v18,v19,v20,v21,v22,v23,v24,(v25,(),()),()),o,r,v28,v29,())) (fun o r=>(((),(),(),(),(),()),((v3,v4,()),(v5,(),()),(v6,(),(),(),(),(),(),(),(),()),v7,v8,v9,v10,v11,v12,v13,v14,v15,v16,v17,v18,v19,v20,v21,v22,v23,v24,(v25,(),()),()),o,r,v28,v29,()))
  (fun j hj o r ho hr=>by
   simp only[fA,nZ,dB hj,dx,cond_true,Bool.and_self,Int.toNat_natCast,fE hj,decide_eq_true hj,bf ho,bf hr,gO,cD,Option.bind_some,nx hj (show v19.length≤9223372036854775807 by omega)])
  (fun o r=>by simp only[fA,nZ,gr,cond_false]) hl ho hr
theorem D7 (hl:v20.length≤200)(ho:o.length≤700)(hr:r.length≤700) :
  iter aC dL (((),(),(),(),(),(),((v20.length:Nat):Int),0,()),((v3,v4,()),(v5,(),()),(v6,(),(),(),(),(),(),(),(),()),v7,v8,v9,v10,v11,v12,v13,v14,v15,v16,v17,v18,v19,v20,v21,v22,v23,v24,(v25,(),()),()),o,r,v28,v29,v30,())=some (.inl (((),(),(),(),(),()),((v3,v4,()),(v5,(),()),(v6,(),(),(),(),(),(),(),(),()),v7,v8,v9,v10,v11,v12,v13,v14,v15,v16,v17,v18,v19,v20,v21,v22,v23,v24,(v25,(),()),()),(o++v20.filter (fun _=>true)),(r++v20.filter (fun x=>!(fun _=>true) x)),v28,v29,v30,())):=
 bD (u:=dL) v20 (fun _=>true) (fun j o r=>(((),(),(),(),(),(),((v20.length:Nat):Int),((j:Nat):Int),()),((v3,v4,()),(v5,(),()),(v6,(),(),(),(),(),(),(),(),()),v7,v8,v9,v10,v11,v12,v13,v14,v15,v16,v17,v18,v19,v20,v21,v22,v23,v24,(v25,(),()),()),o,r,v28,v29,v30,())) (fun o r=>(((),(),(),(),(),()),((v3,v4,()),(v5,(),()),(v6,(),(),(),(),(),(),(),(),()),v7,v8,v9,v10,v11,v12,v13,v14,v15,v16,v17,v18,v19,v20,v21,v22,v23,v24,(v25,(),()),()),o,r,v28,v29,v30,()))
  (fun j hj o r ho hr=>by
   simp only[dL,lR,dB hj,dx,cond_true,Bool.and_self,Int.toNat_natCast,fE hj,decide_eq_true hj,bf ho,bf hr,gO,cD,Option.bind_some,nx hj (show v20.length≤9223372036854775807 by omega)])
  (fun o r=>by simp only[dL,lR,gr,cond_false]) hl ho hr
theorem DO (hl:v21.length≤200)(ho:o.length≤700)(hr:r.length≤700) :
  iter aC dW (((),(),(),(),(),(),((v21.length:Nat):Int),0,()),((v3,v4,()),(v5,(),()),(v6,(),(),(),(),(),(),(),(),()),v7,v8,v9,v10,v11,v12,v13,v14,v15,v16,v17,v18,v19,v20,v21,v22,v23,v24,(v25,(),()),()),o,r,v28,v29,v30,v31,())=some (.inl (((),(),(),(),(),()),((v3,v4,()),(v5,(),()),(v6,(),(),(),(),(),(),(),(),()),v7,v8,v9,v10,v11,v12,v13,v14,v15,v16,v17,v18,v19,v20,v21,v22,v23,v24,(v25,(),()),()),(o++v21.filter (fun _=>true)),(r++v21.filter (fun x=>!(fun _=>true) x)),v28,v29,v30,v31,())):=
 bD (u:=dW) v21 (fun _=>true) (fun j o r=>(((),(),(),(),(),(),((v21.length:Nat):Int),((j:Nat):Int),()),((v3,v4,()),(v5,(),()),(v6,(),(),(),(),(),(),(),(),()),v7,v8,v9,v10,v11,v12,v13,v14,v15,v16,v17,v18,v19,v20,v21,v22,v23,v24,(v25,(),()),()),o,r,v28,v29,v30,v31,())) (fun o r=>(((),(),(),(),(),()),((v3,v4,()),(v5,(),()),(v6,(),(),(),(),(),(),(),(),()),v7,v8,v9,v10,v11,v12,v13,v14,v15,v16,v17,v18,v19,v20,v21,v22,v23,v24,(v25,(),()),()),o,r,v28,v29,v30,v31,()))
  (fun j hj o r ho hr=>by
   simp only[dW,mg,dB hj,dx,cond_true,Bool.and_self,Int.toNat_natCast,fE hj,decide_eq_true hj,bf ho,bf hr,gO,cD,Option.bind_some,nx hj (show v21.length≤9223372036854775807 by omega)])
  (fun o r=>by simp only[dW,mg,gr,cond_false]) hl ho hr
theorem EY (hl:v22.length≤200)(ho:o.length≤700)(hr:r.length≤700) :
  iter aC dP (((),(),(),(),(),(),((v22.length:Nat):Int),0,()),((v3,v4,()),(v5,(),()),(v6,(),(),(),(),(),(),(),(),()),v7,v8,v9,v10,v11,v12,v13,v14,v15,v16,v17,v18,v19,v20,v21,v22,v23,v24,(v25,(),()),()),o,r,v28,v29,v30,v31,v32,())=some (.inl (((),(),(),(),(),()),((v3,v4,()),(v5,(),()),(v6,(),(),(),(),(),(),(),(),()),v7,v8,v9,v10,v11,v12,v13,v14,v15,v16,v17,v18,v19,v20,v21,v22,v23,v24,(v25,(),()),()),(o++v22.filter (fun _=>true)),(r++v22.filter (fun x=>!(fun _=>true) x)),v28,v29,v30,v31,v32,())):=
 bD (u:=dP) v22 (fun _=>true) (fun j o r=>(((),(),(),(),(),(),((v22.length:Nat):Int),((j:Nat):Int),()),((v3,v4,()),(v5,(),()),(v6,(),(),(),(),(),(),(),(),()),v7,v8,v9,v10,v11,v12,v13,v14,v15,v16,v17,v18,v19,v20,v21,v22,v23,v24,(v25,(),()),()),o,r,v28,v29,v30,v31,v32,())) (fun o r=>(((),(),(),(),(),()),((v3,v4,()),(v5,(),()),(v6,(),(),(),(),(),(),(),(),()),v7,v8,v9,v10,v11,v12,v13,v14,v15,v16,v17,v18,v19,v20,v21,v22,v23,v24,(v25,(),()),()),o,r,v28,v29,v30,v31,v32,()))
  (fun j hj o r ho hr=>by
   simp only[dP,lV,dB hj,dx,cond_true,Bool.and_self,Int.toNat_natCast,fE hj,decide_eq_true hj,bf ho,bf hr,gO,cD,Option.bind_some,nx hj (show v22.length≤9223372036854775807 by omega)])
  (fun o r=>by simp only[dP,lV,gr,cond_false]) hl ho hr
theorem CM (hl:v23.length≤200)(ho:o.length≤700)(hr:r.length≤700) :
  iter aC dN (((),(),(),(),(),(),((v23.length:Nat):Int),0,()),((v3,v4,()),(v5,(),()),(v6,(),(),(),(),(),(),(),(),()),v7,v8,v9,v10,v11,v12,v13,v14,v15,v16,v17,v18,v19,v20,v21,v22,v23,v24,(v25,(),()),()),o,r,v28,v29,v30,v31,v32,v33,())=some (.inl (((),(),(),(),(),()),((v3,v4,()),(v5,(),()),(v6,(),(),(),(),(),(),(),(),()),v7,v8,v9,v10,v11,v12,v13,v14,v15,v16,v17,v18,v19,v20,v21,v22,v23,v24,(v25,(),()),()),(o++v23.filter (fun _=>true)),(r++v23.filter (fun x=>!(fun _=>true) x)),v28,v29,v30,v31,v32,v33,())):=
 bD (u:=dN) v23 (fun _=>true) (fun j o r=>(((),(),(),(),(),(),((v23.length:Nat):Int),((j:Nat):Int),()),((v3,v4,()),(v5,(),()),(v6,(),(),(),(),(),(),(),(),()),v7,v8,v9,v10,v11,v12,v13,v14,v15,v16,v17,v18,v19,v20,v21,v22,v23,v24,(v25,(),()),()),o,r,v28,v29,v30,v31,v32,v33,())) (fun o r=>(((),(),(),(),(),()),((v3,v4,()),(v5,(),()),(v6,(),(),(),(),(),(),(),(),()),v7,v8,v9,v10,v11,v12,v13,v14,v15,v16,v17,v18,v19,v20,v21,v22,v23,v24,(v25,(),()),()),o,r,v28,v29,v30,v31,v32,v33,()))
  (fun j hj o r ho hr=>by
   simp only[dN,kV,dB hj,dx,cond_true,Bool.and_self,Int.toNat_natCast,fE hj,decide_eq_true hj,bf ho,bf hr,gO,cD,Option.bind_some,nx hj (show v23.length≤9223372036854775807 by omega)])
  (fun o r=>by simp only[dN,kV,gr,cond_false]) hl ho hr
theorem CY (hl:v24.length≤200)(ho:o.length≤700)(hr:r.length≤700) :
  iter aC dM (((),(),(),(),(),(),((v24.length:Nat):Int),0,()),((v3,v4,()),(v5,(),()),(v6,(),(),(),(),(),(),(),(),()),v7,v8,v9,v10,v11,v12,v13,v14,v15,v16,v17,v18,v19,v20,v21,v22,v23,v24,(v25,(),()),()),o,r,v28,v29,v30,v31,v32,v33,v34,())=some (.inl (((),(),(),(),(),()),((v3,v4,()),(v5,(),()),(v6,(),(),(),(),(),(),(),(),()),v7,v8,v9,v10,v11,v12,v13,v14,v15,v16,v17,v18,v19,v20,v21,v22,v23,v24,(v25,(),()),()),(o++v24.filter (fun _=>true)),(r++v24.filter (fun x=>!(fun _=>true) x)),v28,v29,v30,v31,v32,v33,v34,())):=
 bD (u:=dM) v24 (fun _=>true) (fun j o r=>(((),(),(),(),(),(),((v24.length:Nat):Int),((j:Nat):Int),()),((v3,v4,()),(v5,(),()),(v6,(),(),(),(),(),(),(),(),()),v7,v8,v9,v10,v11,v12,v13,v14,v15,v16,v17,v18,v19,v20,v21,v22,v23,v24,(v25,(),()),()),o,r,v28,v29,v30,v31,v32,v33,v34,())) (fun o r=>(((),(),(),(),(),()),((v3,v4,()),(v5,(),()),(v6,(),(),(),(),(),(),(),(),()),v7,v8,v9,v10,v11,v12,v13,v14,v15,v16,v17,v18,v19,v20,v21,v22,v23,v24,(v25,(),()),()),o,r,v28,v29,v30,v31,v32,v33,v34,()))
  (fun j hj o r ho hr=>by
   simp only[dM,lu,dB hj,dx,cond_true,Bool.and_self,Int.toNat_natCast,fE hj,decide_eq_true hj,bf ho,bf hr,gO,cD,Option.bind_some,nx hj (show v24.length≤9223372036854775807 by omega)])
  (fun o r=>by simp only[dM,lu,gr,cond_false]) hl ho hr
theorem EQ (hl:v17.length≤200)(ho:o.length≤700)(hr:r.length≤700) :
  iter aC dU (((),(),(),(),(),(),((v17.length:Nat):Int),0,()),((v3,v4,()),(v5,(),()),(v6,(),(),(),(),(),(),(),(),()),v7,v8,v9,v10,v11,v12,v13,v14,v15,v16,v17,v18,v19,v20,v21,v22,v23,v24,(v25,(),()),()),o,r,v28,v29,v30,v31,v32,v33,v34,v35,())=some (.inl (((),(),(),(),(),()),((v3,v4,()),(v5,(),()),(v6,(),(),(),(),(),(),(),(),()),v7,v8,v9,v10,v11,v12,v13,v14,v15,v16,v17,v18,v19,v20,v21,v22,v23,v24,(v25,(),()),()),(o++v17.filter (fun _=>true)),(r++v17.filter (fun x=>!(fun _=>true) x)),v28,v29,v30,v31,v32,v33,v34,v35,())):=
 bD (u:=dU) v17 (fun _=>true) (fun j o r=>(((),(),(),(),(),(),((v17.length:Nat):Int),((j:Nat):Int),()),((v3,v4,()),(v5,(),()),(v6,(),(),(),(),(),(),(),(),()),v7,v8,v9,v10,v11,v12,v13,v14,v15,v16,v17,v18,v19,v20,v21,v22,v23,v24,(v25,(),()),()),o,r,v28,v29,v30,v31,v32,v33,v34,v35,())) (fun o r=>(((),(),(),(),(),()),((v3,v4,()),(v5,(),()),(v6,(),(),(),(),(),(),(),(),()),v7,v8,v9,v10,v11,v12,v13,v14,v15,v16,v17,v18,v19,v20,v21,v22,v23,v24,(v25,(),()),()),o,r,v28,v29,v30,v31,v32,v33,v34,v35,()))
  (fun j hj o r ho hr=>by
   simp only[dU,mj,dB hj,dx,cond_true,Bool.and_self,Int.toNat_natCast,fE hj,decide_eq_true hj,bf ho,bf hr,gO,cD,Option.bind_some,nx hj (show v17.length≤9223372036854775807 by omega)])
  (fun o r=>by simp only[dU,mj,gr,cond_false]) hl ho hr
end
theorem Gp (v1:(List (Int×Int)))(v4:Int)(v5:(List (Int×Int)))(v6 v7:Int)(v8:(List (Int×Int)))(v9:Int)(hl:v1.length≤200)(hv:∀ x∈v1,0≤x.2∧x.2≤1073741824) :
  iter aC eU (((),v1,((v1.length:Nat):Int),0,()),((v4,v5,()),(v6,()),(v7,(),()),v8,(v9,(),(),(),(),(),(),(),(),()),()),[],[],[],[],[],[],[],[],())=some (.inl (((),()),((v4,v5,()),(v6,()),(v7,(),()),v8,(v9,(),(),(),(),(),(),(),(),()),()),(sl 0 v1),(sl 1 v1),(sl 2 v1),(sl 3 v1),(sl 4 v1),(sl 5 v1),(sl 6 v1),(sl 7 v1),())):=by
 refine eA (u:=eU) (fun j=>(((),v1,((v1.length:Nat):Int),((j:Nat):Int),()),((v4,v5,()),(v6,()),(v7,(),()),v8,(v9,(),(),(),(),(),(),(),(),()),()),(sl 0 (v1.take j)),(sl 1 (v1.take j)),(sl 2 (v1.take j)),(sl 3 (v1.take j)),(sl 4 (v1.take j)),(sl 5 (v1.take j)),(sl 6 (v1.take j)),(sl 7 (v1.take j)),())) (n:=v1.length) (y:=(((),()),((v4,v5,()),(v6,()),(v7,(),()),v8,(v9,(),(),(),(),(),(),(),(),()),()),(sl 0 v1),(sl 1 v1),(sl 2 v1),(sl 3 v1),(sl 4 v1),(sl 5 v1),(sl 6 v1),(sl 7 v1),())) (fun j hj=>?_) ?_ 0 aC (Nat.zero_le _) (by unfold aC;omega)
 ·have hx:=hv v1[j] (List.getElem_mem hj)
  have hc:∀ m,(sl m (v1.take j)).length≤1000:=fun m=>by have:=El m (v1.take j);rw[List.length_take] at this;omega
  have h8:v1[j].2 % 8=0∨v1[j].2 % 8=1∨v1[j].2 % 8=2∨v1[j].2 % 8=3∨v1[j].2 % 8=4∨v1[j].2 % 8=5∨v1[j].2 % 8=6∨v1[j].2 % 8=7:=by omega
  simp only[eU,oq,dB hj,dx,cond_true,Bool.and_self,Int.toNat_natCast,fE hj,gO,D6 hx.1 hx.2,Option.bind_some,bf (hc _),nx hj (show v1.length≤9223372036854775807 by omega),aW hj,D5]
  rcases h8 with h|h|h|h|h|h|h|h<;>rw[h]<;>rfl
 ·simp only[eU,oq,gr,cond_false,List.take_length]
theorem GJ (v1:(List (Int×Int)))(v4:Int)(v5:(List (Int×Int)))(v6 v7:Int)(v8:(List (Int×Int)))(hl:v1.length≤200)(hv:∀ x∈v1,0≤x.2∧x.2≤1073741824) :
  iter aC eV (((),v1,((v1.length:Nat):Int),0,()),((v4,v5,()),(v6,(),()),(v7,(),(),(),(),(),(),(),(),()),()),v8,[],[],[],[],[],[],[],[],())=some (.inl (((),()),((v4,v5,()),(v6,(),()),(v7,(),(),(),(),(),(),(),(),()),()),v8,(sl 0 v1),(sl 1 v1),(sl 2 v1),(sl 3 v1),(sl 4 v1),(sl 5 v1),(sl 6 v1),(sl 7 v1),())):=by
 refine eA (u:=eV) (fun j=>(((),v1,((v1.length:Nat):Int),((j:Nat):Int),()),((v4,v5,()),(v6,(),()),(v7,(),(),(),(),(),(),(),(),()),()),v8,(sl 0 (v1.take j)),(sl 1 (v1.take j)),(sl 2 (v1.take j)),(sl 3 (v1.take j)),(sl 4 (v1.take j)),(sl 5 (v1.take j)),(sl 6 (v1.take j)),(sl 7 (v1.take j)),())) (n:=v1.length) (y:=(((),()),((v4,v5,()),(v6,(),()),(v7,(),(),(),(),(),(),(),(),()),()),v8,(sl 0 v1),(sl 1 v1),(sl 2 v1),(sl 3 v1),(sl 4 v1),(sl 5 v1),(sl 6 v1),(sl 7 v1),())) (fun j hj=>?_) ?_ 0 aC (Nat.zero_le _) (by unfold aC;omega)
 ·have hx:=hv v1[j] (List.getElem_mem hj)
  have hc:∀ m,(sl m (v1.take j)).length≤1000:=fun m=>by have:=El m (v1.take j);rw[List.length_take] at this;omega
  have h8:v1[j].2 % 8=0∨v1[j].2 % 8=1∨v1[j].2 % 8=2∨v1[j].2 % 8=3∨v1[j].2 % 8=4∨v1[j].2 % 8=5∨v1[j].2 % 8=6∨v1[j].2 % 8=7:=by omega
  simp only[eV,ol,dB hj,dx,cond_true,Bool.and_self,Int.toNat_natCast,fE hj,gO,D6 hx.1 hx.2,Option.bind_some,bf (hc _),nx hj (show v1.length≤9223372036854775807 by omega),aW hj,D5]
  rcases h8 with h|h|h|h|h|h|h|h<;>rw[h]<;>rfl
 ·simp only[eV,ol,gr,cond_false,List.take_length]
set_option maxHeartbeats 2000000
theorem ft (l:List TT):(l.filter fun _=>true)=l:=List.filter_eq_self.2 fun _ _=>rfl
theorem ff (l:List TT):(l.filter fun _=>false)=[]:=by rw[List.filter_eq_nil_iff];simp
theorem pL (l:List TT):(iz l).length=l.length:=List.length_mergeSort _
theorem JA (n:Nat):Nat.beq n n=true:=Nat.beq_refl n
theorem abp (y:gQ)(v4:Int)(q0 q1 q2 q3 q4 q5 q6 q7:List TT)(h:(q0++q1++q2++q3++q4++q5++q6++q7).length≤200) :
  Sg y v4 q0 q1 q2 q3 q4 q5 q6 q7=some ((y.2.1.2.2.2.2.1.1,iz (q0++q1++q2++q3++q4++q5++q6++q7)),0,()):=by
 simp only[List.length_append] at h
 have h0:q0.length≤200:=by omega
 have h1:q1.length≤200:=by omega
 have h2:q2.length≤200:=by omega
 have h3:q3.length≤200:=by omega
 have h4:q4.length≤200:=by omega
 have h5:q5.length≤200:=by omega
 have h6:q6.length≤200:=by omega
 have h7:q7.length≤200:=by omega
 have z0:([]:List TT).length≤700:=by simp
 have a0:q0.length≤700:=by omega
 have a1:(q0++q1).length≤700:=by simp only[List.length_append];omega
 have a2:(q0++q1++q2).length≤700:=by simp only[List.length_append];omega
 have a3:(q0++q1++q2++q3).length≤700:=by simp only[List.length_append];omega
 have a4:(q0++q1++q2++q3++q4).length≤700:=by simp only[List.length_append];omega
 have a5:(q0++q1++q2++q3++q4++q5).length≤700:=by simp only[List.length_append];omega
 have a6:(q0++q1++q2++q3++q4++q5++q6).length≤700:=by simp only[List.length_append];omega
 have a7:(q0++q1++q2++q3++q4++q5++q6++q7).length≤1000:=by simp only[List.length_append];omega
 unfold Sg
 simp only[Option.bind_some,IX,FA,Hg,G9,Ga,Je,JK,I5,ft,ff,Bool.not_true,List.nil_append,List.append_nil,h0,h1,h2,h3,h4,h5,h6,h7,z0,a0,a1,a2,a3,a4,a5,a6,uy _ a7,pL,JA,Bool.and_self,cond_true,decide_true]
def DF (l:List TT):List (Int×Int):=l.foldl (fun m x=>iD m x.1 (IntKind.wrap .i64 (cH m x.1+1))) []
theorem B9 (l:List TT)(x:TT):DF (l++[x])=iD (DF l) x.1 (IntKind.wrap .i64 (cH (DF l) x.1+1)):=by
 unfold DF;rw[List.foldl_append];rfl
theorem I8:∀ (n:Nat) (l:List TT) (h:n≤l.length),(l.Pairwise fun x y=>x.1≠y.1)→∀ q,(∀ x∈l.take n,x.1≠q)→cH (DF (l.take n)) q=0
 | 0,l,_,_,q,_=>rfl
 | n+1,l,h,hp,q,hq=>by
  have hlt:n<l.length:=by omega
  rw[aW hlt,B9,nK,if_neg fun e=>hq l[n] (by rw[aW hlt];exact List.mem_append.2 (.inr (List.mem_singleton.2 rfl))) e.symm]
  exact I8 n l (by omega) hp q fun x hx=>hq x (by rw[aW hlt];exact List.mem_append.2 (.inl hx))
abbrev wS (now:Int)(T:List TT)(j:Nat):TT:=if j=0 then (1073741824,now) else T.getD (j-1) (0,0)
theorem Cz {now:Int}{T:List TT}(W:WhP now T):f104 now T=some (true,()):=by
 have hl:=W.len
 unfold f104
 have e:iter aC uq (((),(),(),T,((T.length:Nat):Int),0,()),((now,T,()),[],(1073741824,now,()),()),())=some (.inl (((),()),((now,T,()),()),())):=by
  have:=eA (u:=uq) (fun j=>(((),(),(),T,((T.length:Nat):Int),((j:Nat):Int),()),((now,T,()),DF (T.take j),((wS now T j).1,(wS now T j).2,()),()),())) (n:=T.length) (y:=(((),()),((now,T,()),()),()))
   (fun j hj=>by
    have hx:=W.each T[j] (List.getElem_mem hj)
    have hm:cH (DF (T.take j)) T[j].1=0:=I8 j T (by omega) W.ids _ fun x hx=>by
     obtain⟨i,hi,rfl⟩:=List.mem_take_iff_getElem.1 hx
     exact List.pairwise_iff_getElem.1 W.ids i j (by omega) hj (by omega)
    have hL:wS now T (j+1)=T[j]:=by
     unfold wS
     rw[if_neg (by omega),Nat.add_sub_cancel,List.getD_eq_getElem?_getD,List.getElem?_eq_getElem hj,Option.getD_some]
    simp only[uq,KP,dB hj,dx,cond_true,Bool.and_self,Int.toNat_natCast,fE hj]
    rw[decide_eq_false (show ¬ T[j].2≤now by omega),decide_eq_false (show ¬ (1073741824:Int)<T[j].2 by omega),decide_eq_false (show ¬ T[j].1<0 by omega)]
    simp only[cond_false]
    rw[hm,nK,if_pos rfl,show IntKind.wrap .i64 ((0:Int)+1)=1 by decide,decide_eq_false (show ¬ (1:Int)<1 by omega),nx hj (show T.length≤9223372036854775807 by omega),hL]
    simp only[cond_false]
    have hM:DF (T.take (j+1))=iD (DF (T.take j)) T[j].1 1:=by
     rw[aW hj,B9,hm];rfl
    rw[hM]
    by_cases h0:j=0
    ·subst h0;rfl
    ·rw[decide_eq_true (show (0:Int)<((j:Nat):Int) by omega)]
     have hlt:wS now T j=T[j-1]'(by omega):=by
      unfold wS
      rw[if_neg h0,List.getD_eq_getElem?_getD,List.getElem?_eq_getElem (by omega),Option.getD_some]
     have ho:xk ((wS now T j).1,(wS now T j).2) (T[j].1,T[j].2)<0:=by
      have h2:=List.pairwise_iff_getElem.1 W.ji (j-1) j (by omega) hj (by omega)
      rw[← RU] at h2
      rw[hlt]
      exact of_decide_eq_true h2
     simp only[cond_true,Xo,Option.bind_some]
     rw[decide_eq_false (by omega)];rfl)
   (by simp only[uq,KP,gr,cond_false])
   0 aC (Nat.zero_le _) (by unfold aC;omega)
  exact this
 rw[e]
 simp only[Option.bind_some]
 rw[decide_eq_true W.jX,decide_eq_true W.nV,decide_eq_true (show ((T.length:Nat):Int)≤64 by omega)];rfl
theorem LN (T:List TT)(x:TT)(m:Int)(h:x.2 % 8=m):(slots fun q=>if m=q then sl q T++[x] else sl q T).Perm (T++[x]):=by
 have:=H8 (T++[x])
 simp only[D5,h] at this
 exact this
theorem ZZ {now:Int}{T:List TT}(W:WhP now T){id at':Int}(hi:0≤id)(hn:∀ x∈T,x.1≠id)(hl:T.length<64) :
  f68 now T id at'=some (if at'≤now∨1073741824<at' then ((now,T),10,()) else ((now,iz (T++[(id,at')])),0,())):=by
 unfold f68
 rw[Cz W]
 simp only[Option.bind_some,Bool.not_true,cond_false]
 rw[decide_eq_false (show ¬ id<0 by omega)]
 simp only[cond_false]
 by_cases h1:at'≤now
 ·rw[decide_eq_true h1,if_pos (.inl h1)]
  simp only[cond_true]
  rw[xF _ _ (by omega)];rfl
 rw[decide_eq_false h1]
 simp only[cond_false]
 by_cases h2:1073741824<at'
 ·rw[decide_eq_true h2,if_pos (.inr h2)]
  simp only[cond_true]
  rw[xF _ _ (by omega)];rfl
 rw[decide_eq_false h2,if_neg (by rintro (h|h);exact h1 h;exact h2 h)]
 simp only[cond_false]
 have e1:iter aC fe ((T,(),((T.length:Nat):Int),0,()),((now,T,()),(id,()),(0,(),()),()),[],())=some (.inl ((),((now,T,()),(id,()),(0,(),()),()),[],())):=by
  refine eA (u:=fe) (fun j=>((T,(),((T.length:Nat):Int),((j:Nat):Int),()),((now,T,()),(id,()),(0,(),()),()),[],())) (n:=T.length) (y:=((),((now,T,()),(id,()),(0,(),()),()),[],())) (fun j hj=>?_) ?_ 0 aC (Nat.zero_le _) (by unfold aC;omega)
  ·simp only[fe,ov,dB hj,dx,cond_true,Bool.and_self,Int.toNat_natCast,fE hj,nx hj (show T.length≤9223372036854775807 by omega)]
   rw[decide_eq_false (hn _ (List.getElem_mem hj))];rfl
  ·simp only[fe,ov,gr,cond_false]
 rw[e1]
 simp only[Option.bind_some]
 rw[decide_eq_false (show ¬ ((T.length:Nat):Int)=64 by omega)]
 simp only[cond_false]
 rw[Gp _ _ _ _ _ _ _ (by omega) (fun x hx=>by have:=W.each x hx;have:=W.jX;omega)]
 simp only[Option.bind_some]
 have n0:=W.jX
 rw[D6 (by omega) (by omega)]
 simp only[Option.bind_some]
 have hc:∀ m,(sl m T).length≤1000:=fun m=>by have:=El m T;omega
 have h8:at' % 8=0∨at' % 8=1∨at' % 8=2∨at' % 8=3∨at' % 8=4∨at' % 8=5∨at' % 8=6∨at' % 8=7:=by omega
 have fin:∀ (y:gQ) (m:Int),at' % 8=m→y.2.1.2.2.2.2.1.1=now →
   Sg y at' (if m=0 then sl 0 T++[(id,at')] else sl 0 T) (if m=1 then sl 1 T++[(id,at')] else sl 1 T) (if m=2 then sl 2 T++[(id,at')] else sl 2 T) (if m=3 then sl 3 T++[(id,at')] else sl 3 T)
    (if m=4 then sl 4 T++[(id,at')] else sl 4 T) (if m=5 then sl 5 T++[(id,at')] else sl 5 T) (if m=6 then sl 6 T++[(id,at')] else sl 6 T) (if m=7 then sl 7 T++[(id,at')] else sl 7 T)=some ((now,iz (T++[(id,at')])),0,()):=by
  intro y m hm hy
  have hp:=LN T (id,at') m hm
  rw[abp _ _ _ _ _ _ _ _ _ _ (by have:=hp.length_eq;simp only[List.length_append,List.length_cons,List.length_nil] at this ⊢;omega),hy]
  exact congrArg (fun l=>some ((now,l),(0:Int),())) (Vj hp)
 rcases h8 with h|h|h|h|h|h|h|h<;>rw[h]<;>simp only[Int.reduceEq,decide_true,decide_false,cond_true,cond_false,bf (hc _)]<;>exact fin _ _ h rfl
theorem aar {now:Int}{T:List TT}(W:WhP now T)(to:Int) :
  f69 now T to=some (if to<now∨1073741824<to then ((now,T),[],10,()) else ((to,T.filter (fun x=>!decide (x.2≤to))),T.filter (fun x=>decide (x.2≤to)),0,())):=by
 have hl:=W.len
 unfold f69
 rw[Cz W]
 simp only[Option.bind_some,Bool.not_true,cond_false]
 by_cases h1:to<now
 ·rw[decide_eq_true h1,if_pos (.inl h1)]
  simp only[cond_true]
  rw[xF _ _ (by omega)];rfl
 rw[decide_eq_false h1]
 simp only[cond_false]
 by_cases h2:1073741824<to
 ·rw[decide_eq_true h2,if_pos (.inr h2)]
  simp only[cond_true]
  rw[xF _ _ (by omega)];rfl
 rw[decide_eq_false h2,if_neg (by rintro (h|h);exact h1 h;exact h2 h)]
 simp only[cond_false]
 rw[GJ _ _ _ _ _ _ (by omega) (fun x hx=>by have:=W.each x hx;have:=W.jX;omega)]
 simp only[Option.bind_some]
 have pF:((sl 0 T).filter (fun x=>decide (x.2≤to))++(sl 1 T).filter (fun x=>decide (x.2≤to))++(sl 2 T).filter (fun x=>decide (x.2≤to))++(sl 3 T).filter (fun x=>decide (x.2≤to))++(sl 4 T).filter (fun x=>decide (x.2≤to))++(sl 5 T).filter (fun x=>decide (x.2≤to))++(sl 6 T).filter (fun x=>decide (x.2≤to))++(sl 7 T).filter (fun x=>decide (x.2≤to))).Perm (T.filter (fun x=>decide (x.2≤to))):=rj T (fun x=>decide (x.2≤to))
 have pN:((sl 0 T).filter (fun x=>!decide (x.2≤to))++(sl 1 T).filter (fun x=>!decide (x.2≤to))++(sl 2 T).filter (fun x=>!decide (x.2≤to))++(sl 3 T).filter (fun x=>!decide (x.2≤to))++(sl 4 T).filter (fun x=>!decide (x.2≤to))++(sl 5 T).filter (fun x=>!decide (x.2≤to))++(sl 6 T).filter (fun x=>!decide (x.2≤to))++(sl 7 T).filter (fun x=>!decide (x.2≤to))).Perm (T.filter (fun x=>!decide (x.2≤to))):=rj T (fun x=>!decide (x.2≤to))
 have hc:∀ m,(sl m T).length≤64:=fun m=>by have:=El m T;omega
 have k0:=hc 0
 have k1:=hc 1
 have k2:=hc 2
 have k3:=hc 3
 have k4:=hc 4
 have k5:=hc 5
 have k6:=hc 6
 have k7:=hc 7
 generalize sl 0 T=q0 at k0 pF pN ⊢
 generalize sl 1 T=q1 at k1 pF pN ⊢
 generalize sl 2 T=q2 at k2 pF pN ⊢
 generalize sl 3 T=q3 at k3 pF pN ⊢
 generalize sl 4 T=q4 at k4 pF pN ⊢
 generalize sl 5 T=q5 at k5 pF pN ⊢
 generalize sl 6 T=q6 at k6 pF pN ⊢
 generalize sl 7 T=q7 at k7 pF pN ⊢
 have z0:([]:List TT).length≤700:=by simp
 have f0:(q0.filter (fun x=>decide (x.2≤to))).length≤64:=by have:=List.length_filter_le (fun x=>decide (x.2≤to)) q0;omega
 have g0:(q0.filter (fun x=>!decide (x.2≤to))).length≤64:=by have:=List.length_filter_le (fun x=>!decide (x.2≤to)) q0;omega
 have h0:q0.length≤200:=by omega
 have g0':(q0.filter (fun x=>!decide (x.2≤to))).length≤200:=by omega
 have f1:(q1.filter (fun x=>decide (x.2≤to))).length≤64:=by have:=List.length_filter_le (fun x=>decide (x.2≤to)) q1;omega
 have g1:(q1.filter (fun x=>!decide (x.2≤to))).length≤64:=by have:=List.length_filter_le (fun x=>!decide (x.2≤to)) q1;omega
 have h1:q1.length≤200:=by omega
 have g1':(q1.filter (fun x=>!decide (x.2≤to))).length≤200:=by omega
 have f2:(q2.filter (fun x=>decide (x.2≤to))).length≤64:=by have:=List.length_filter_le (fun x=>decide (x.2≤to)) q2;omega
 have g2:(q2.filter (fun x=>!decide (x.2≤to))).length≤64:=by have:=List.length_filter_le (fun x=>!decide (x.2≤to)) q2;omega
 have h2:q2.length≤200:=by omega
 have g2':(q2.filter (fun x=>!decide (x.2≤to))).length≤200:=by omega
 have f3:(q3.filter (fun x=>decide (x.2≤to))).length≤64:=by have:=List.length_filter_le (fun x=>decide (x.2≤to)) q3;omega
 have g3:(q3.filter (fun x=>!decide (x.2≤to))).length≤64:=by have:=List.length_filter_le (fun x=>!decide (x.2≤to)) q3;omega
 have h3:q3.length≤200:=by omega
 have g3':(q3.filter (fun x=>!decide (x.2≤to))).length≤200:=by omega
 have f4:(q4.filter (fun x=>decide (x.2≤to))).length≤64:=by have:=List.length_filter_le (fun x=>decide (x.2≤to)) q4;omega
 have g4:(q4.filter (fun x=>!decide (x.2≤to))).length≤64:=by have:=List.length_filter_le (fun x=>!decide (x.2≤to)) q4;omega
 have h4:q4.length≤200:=by omega
 have g4':(q4.filter (fun x=>!decide (x.2≤to))).length≤200:=by omega
 have f5:(q5.filter (fun x=>decide (x.2≤to))).length≤64:=by have:=List.length_filter_le (fun x=>decide (x.2≤to)) q5;omega
 have g5:(q5.filter (fun x=>!decide (x.2≤to))).length≤64:=by have:=List.length_filter_le (fun x=>!decide (x.2≤to)) q5;omega
 have h5:q5.length≤200:=by omega
 have g5':(q5.filter (fun x=>!decide (x.2≤to))).length≤200:=by omega
 have f6:(q6.filter (fun x=>decide (x.2≤to))).length≤64:=by have:=List.length_filter_le (fun x=>decide (x.2≤to)) q6;omega
 have g6:(q6.filter (fun x=>!decide (x.2≤to))).length≤64:=by have:=List.length_filter_le (fun x=>!decide (x.2≤to)) q6;omega
 have h6:q6.length≤200:=by omega
 have g6':(q6.filter (fun x=>!decide (x.2≤to))).length≤200:=by omega
 have f7:(q7.filter (fun x=>decide (x.2≤to))).length≤64:=by have:=List.length_filter_le (fun x=>decide (x.2≤to)) q7;omega
 have g7:(q7.filter (fun x=>!decide (x.2≤to))).length≤64:=by have:=List.length_filter_le (fun x=>!decide (x.2≤to)) q7;omega
 have h7:q7.length≤200:=by omega
 have g7':(q7.filter (fun x=>!decide (x.2≤to))).length≤200:=by omega
 have a0:(q0.filter (fun x=>decide (x.2≤to))).length≤700:=by omega
 have b0:(q0.filter (fun x=>!decide (x.2≤to))).length≤700:=by omega
 have a1:(q0.filter (fun x=>decide (x.2≤to))++q1.filter (fun x=>decide (x.2≤to))).length≤700:=by simp only[List.length_append];omega
 have b1:(q0.filter (fun x=>!decide (x.2≤to))++q1.filter (fun x=>!decide (x.2≤to))).length≤700:=by simp only[List.length_append];omega
 have a2:(q0.filter (fun x=>decide (x.2≤to))++q1.filter (fun x=>decide (x.2≤to))++q2.filter (fun x=>decide (x.2≤to))).length≤700:=by simp only[List.length_append];omega
 have b2:(q0.filter (fun x=>!decide (x.2≤to))++q1.filter (fun x=>!decide (x.2≤to))++q2.filter (fun x=>!decide (x.2≤to))).length≤700:=by simp only[List.length_append];omega
 have a3:(q0.filter (fun x=>decide (x.2≤to))++q1.filter (fun x=>decide (x.2≤to))++q2.filter (fun x=>decide (x.2≤to))++q3.filter (fun x=>decide (x.2≤to))).length≤700:=by simp only[List.length_append];omega
 have b3:(q0.filter (fun x=>!decide (x.2≤to))++q1.filter (fun x=>!decide (x.2≤to))++q2.filter (fun x=>!decide (x.2≤to))++q3.filter (fun x=>!decide (x.2≤to))).length≤700:=by simp only[List.length_append];omega
 have a4:(q0.filter (fun x=>decide (x.2≤to))++q1.filter (fun x=>decide (x.2≤to))++q2.filter (fun x=>decide (x.2≤to))++q3.filter (fun x=>decide (x.2≤to))++q4.filter (fun x=>decide (x.2≤to))).length≤700:=by simp only[List.length_append];omega
 have b4:(q0.filter (fun x=>!decide (x.2≤to))++q1.filter (fun x=>!decide (x.2≤to))++q2.filter (fun x=>!decide (x.2≤to))++q3.filter (fun x=>!decide (x.2≤to))++q4.filter (fun x=>!decide (x.2≤to))).length≤700:=by simp only[List.length_append];omega
 have a5:(q0.filter (fun x=>decide (x.2≤to))++q1.filter (fun x=>decide (x.2≤to))++q2.filter (fun x=>decide (x.2≤to))++q3.filter (fun x=>decide (x.2≤to))++q4.filter (fun x=>decide (x.2≤to))++q5.filter (fun x=>decide (x.2≤to))).length≤700:=by simp only[List.length_append];omega
 have b5:(q0.filter (fun x=>!decide (x.2≤to))++q1.filter (fun x=>!decide (x.2≤to))++q2.filter (fun x=>!decide (x.2≤to))++q3.filter (fun x=>!decide (x.2≤to))++q4.filter (fun x=>!decide (x.2≤to))++q5.filter (fun x=>!decide (x.2≤to))).length≤700:=by simp only[List.length_append];omega
 have a6:(q0.filter (fun x=>decide (x.2≤to))++q1.filter (fun x=>decide (x.2≤to))++q2.filter (fun x=>decide (x.2≤to))++q3.filter (fun x=>decide (x.2≤to))++q4.filter (fun x=>decide (x.2≤to))++q5.filter (fun x=>decide (x.2≤to))++q6.filter (fun x=>decide (x.2≤to))).length≤700:=by simp only[List.length_append];omega
 have b6:(q0.filter (fun x=>!decide (x.2≤to))++q1.filter (fun x=>!decide (x.2≤to))++q2.filter (fun x=>!decide (x.2≤to))++q3.filter (fun x=>!decide (x.2≤to))++q4.filter (fun x=>!decide (x.2≤to))++q5.filter (fun x=>!decide (x.2≤to))++q6.filter (fun x=>!decide (x.2≤to))).length≤700:=by simp only[List.length_append];omega
 have a7:(q0.filter (fun x=>decide (x.2≤to))++q1.filter (fun x=>decide (x.2≤to))++q2.filter (fun x=>decide (x.2≤to))++q3.filter (fun x=>decide (x.2≤to))++q4.filter (fun x=>decide (x.2≤to))++q5.filter (fun x=>decide (x.2≤to))++q6.filter (fun x=>decide (x.2≤to))++q7.filter (fun x=>decide (x.2≤to))).length≤1000:=by simp only[List.length_append];omega
 have b7:(q0.filter (fun x=>!decide (x.2≤to))++q1.filter (fun x=>!decide (x.2≤to))++q2.filter (fun x=>!decide (x.2≤to))++q3.filter (fun x=>!decide (x.2≤to))++q4.filter (fun x=>!decide (x.2≤to))++q5.filter (fun x=>!decide (x.2≤to))++q6.filter (fun x=>!decide (x.2≤to))++q7.filter (fun x=>!decide (x.2≤to))).length≤1000:=by simp only[List.length_append];omega
 simp only[Option.bind_some,Jk,FJ,F8,J3,I2,FD,GQ,Gb,GV,G0,D7,DO,EY,CM,CY,EQ,cD,ft,ff,Bool.not_true,List.nil_append,List.append_nil,z0,h0,g0',h1,g1',h2,g2',h3,g3',h4,g4',h5,g5',h6,g6',h7,g7',a0,b0,a1,b1,a2,b2,a3,b3,a4,b4,a5,b5,a6,b6,uy _ a7,uy _ b7,pL,JA,Bool.and_self,cond_true,decide_true]
 rw[IJ (W.ji.filter _) pF,IJ (W.ji.filter _) pN]
end Go.Proofs.Zz
