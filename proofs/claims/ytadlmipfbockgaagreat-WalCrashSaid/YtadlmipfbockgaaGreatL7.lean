/- Pure9_7, Eq9_7, P9_7, Law9_7. -/
import Derived.Test.YtadlmipfbockgaaGreatPU
import Derived.Test.YtadlmipfbockgaaGreatEQ
import Derived.Test.YtadlmipfbockgaaGreatFD
import Derived.Test.YtadlmipfbockgaaGreatPC
namespace Go.Proofs.Zz
open Go Go.Sy
set_option linter.unusedVariables false
set_option maxRecDepth 100000
noncomputable def f7 (v1 v2 v3 v4 v5 v6 v7 v8 v9 v10 v11:Int)(v12:Bool)(v13:Int)(v14:(List (Int×Int×Int)))(v15:(List (Int×Int×Int×Int×Int)))(v16:(List (Int×Int×Int)))(v17:(List (Int×Int×Int×Int×Int×Int×Int×Int×Bool)))(v18:(List Int)):Option (Bool×Unit):=
 (f8).bind fun y19=>
 ((f10 v1 v2 v3 v4 v5 v6 v7 v8 v9 v10 v11 v12 v13 v14 v15 v16)).bind fun y20=>
 cond (!y19.1) (
  some (y19.1,())) (
  cond (!y20.1) (
   some (y19.1,())) (
   cond (decide (40<(v17.length:Int))) (
    some (y19.1,())) (
    cond (decide (60<(v18.length:Int))) (
     some (y19.1,())) (
     ((f18 60000)).bind fun y21=>
     ((f12 y21.1.1 y21.1.2 v1 v2 v3 v4 v5 v6 v7 v8 v9 v10 v11 v12 v13 v14 v15 v16)).bind fun y22=>
     cond (!(decide (y22.2.1=0))) (
      some (true,())) (
      ((f17 y22.1.1.1 y22.1.1.2 y22.1.2.1 y22.1.2.2 v17)).bind fun y23=>
      ((f14 y23.1.1.1 y23.1.1.2 y23.1.2.1 y23.1.2.2 v1 v2 v3 v4 v5 v6 v7 v8 v9 v10 v11 v12 v13 v14 v15 v16)).bind fun y24=>
      ((f20 y22.1.1.1 y22.1.1.2 v18)).bind fun y25=>
      ((f19 y25.1.1 y25.1.2 y22.1.1.1 y22.1.1.2)).bind fun y26=>
      cond y26.1 (
       ((f20 y23.1.1.1 y23.1.1.2 v18)).bind fun y27=>
       ((f19 y27.1.1 y27.1.2 y23.1.1.1 y23.1.1.2)).bind fun y28=>
       cond y28.1 (
        ((f20 y24.1.1.1 y24.1.1.2 v18)).bind fun y29=>
        ((f19 y29.1.1 y29.1.2 y24.1.1.1 y24.1.1.2)).bind fun y30=>
        some (y30.1,())) (
        some (false,()))) (
       some (false,())))))))
set_option maxHeartbeats 0
abbrev ps7:List Ty:=[.pair (.pair (.pair (.int .i64) (.int .i64)) (.pair (.pair (.int .i64) (.int .i64)) (.pair (.int .i64) (.pair (.int .i64) (.pair (.int .i64) (.int .i64)))))) (.pair (.pair (.int .i64) (.pair (.int .i64) (.pair (.int .i64) (.bool)))) (.pair (.int .i64) (.pair (.row (.pair (.int .i64) (.pair (.int .i64) (.int .i64)))) (.pair (.row (.pair (.int .i64) (.pair (.int .i64) (.pair (.int .i64) (.pair (.int .i64) (.int .i64)))))) (.row (.pair (.int .i64) (.pair (.int .i64) (.int .i64)))))))),.row (.pair (.int .i64) (.pair (.int .i64) (.pair (.int .i64) (.pair (.int .i64) (.pair (.int .i64) (.pair (.int .i64) (.pair (.int .i64) (.pair (.int .i64) (.bool))))))))),.row (.int .i64)]
abbrev rs7:List RTy:=[.val (.bool)]
noncomputable abbrev L7:List (Nat×Con):=[(8,con8),(10,con10),(12,con12),(14,con14),(17,con17),(18,con18),(19,con19),(20,con20)]
noncomputable abbrev U7:List (Nat×UCon):=[]
noncomputable abbrev C7:Cons:=lookC L7 U7
noncomputable abbrev S7:List (Nat×Nat×LSum):=[]
noncomputable def con7:Con:=⟨ps7,rs7,fun x=>f7 x.1.1.1.1 x.1.1.1.2 x.1.1.2.1.1 x.1.1.2.1.2 x.1.1.2.2.1 x.1.1.2.2.2.1 x.1.1.2.2.2.2.1 x.1.1.2.2.2.2.2 x.1.2.1.1 x.1.2.1.2.1 x.1.2.1.2.2.1 x.1.2.1.2.2.2 x.1.2.2.1 x.1.2.2.2.1 x.1.2.2.2.2.1 x.1.2.2.2.2.2 x.2.1 x.2.2.1⟩
theorem e7 (x:Args ps7):kTop Tryz.prog C7 (lookS S7) big 10 7 ps7 rs7 x=con7.f x:=by kernel_rfl
theorem ok7 [Glob][RngG Tryz.prog](h:AllOK Tryz.prog L7)(h':AllU Tryz.prog U7):con7.OK Tryz.prog 7:=con_of_tree (lookC_ok h h') (rounds_of (l:=S7) trivial) e7
theorem k7:con7.OK Tryz.prog 7:=ok7 ⟨k8,k10,k12,k14,k17,k18,k19,k20,trivial⟩ trivial
set_option linter.unusedSimpArgs false
def SureD (F:List FD):Prop:=∀ f∈F,f.2.2=(f.2.1.length:Int)
theorem crash_same (c:Int)(F:List FD)(picks:List Int)(hm:mayD c F=true)(hS:SureD F):f20 c F picks=some ((c,F),())∧f19 c F c F=some (true,()):=by
 have hD:=mayD_Sz hm
 exact⟨f20_sure c F picks hD hS,by rw[f19_eq c F c F hD,decide_eq_true ⟨rfl,rfl⟩]⟩
theorem sure_new {F:List FD}(s:ST)(h:SureD F):SureD (newF F s):=by
 intro f hf
 unfold newF at hf
 rcases List.mem_append.1 hf with hf|hf
 ·exact h f hf
 ·rw[List.mem_singleton.1 hf];simp only[ints_len]
theorem f7_true (s:ST)(l:List ET)(picks:List Int)(hl:l.length≤9223372036854775807) :
  f7 s.1.1.1 s.1.1.2 s.1.2.1.1 s.1.2.1.2 s.1.2.2.1 s.1.2.2.2.1 s.1.2.2.2.2.1 s.1.2.2.2.2.2 s.2.1.1 s.2.1.2.1 s.2.1.2.2.1 s.2.1.2.2.2 s.2.2.1 s.2.2.2.1 s.2.2.2.2.1 s.2.2.2.2.2 l picks=some (true,()):=by
 unfold f7
 rw[f8_eq,f10_eq s]
 simp only[Option.bind_some,Bool.not_true,cond_false]
 by_cases hs:Few s
 case neg=>rw[decide_eq_false hs];rfl
 rw[decide_eq_true hs]
 simp only[Bool.not_true,cond_false]
 by_cases h40:l.length≤40
 case neg=>rw[decide_eq_true (by omega)];rfl
 rw[decide_eq_false (by omega)]
 simp only[cond_false]
 by_cases h60:picks.length≤60
 case neg=>rw[decide_eq_true (by omega)];rfl
 rw[decide_eq_false (by omega),f18_eq 60000]
 have hz:SzD []:=⟨by simp,by simp⟩
 have h12:=f12_eq 60000 [] s hz hs.sm
 have e0:cond (decide ((0:Int)≤60000)&&decide ((60000:Int)≤65536)) (((60000:Int),([]:List FD)),true,()) ((0,[]),false,())=((60000,[]),true,()):=rfl
 simp only[cond_false,e0,Option.bind_some,h12]
 by_cases he:newE 60000 [] s=0
 case neg=>
  rw[newW_no he]
  simp only[decide_eq_false he,Bool.not_false,cond_true]
 rw[newW_ok he]
 have hW:=newF_mayW he
 have hS0:SureD (newF [] s):=sure_new s (by intro f hf;cases hf)
 have hD:=mayD_Sz hW.1
 have hc0:=crash_same 60000 (newF [] s) picks hW.1 hS0
 simp only[decide_true,Bool.not_true,cond_false,f17_eq 60000 (newF [] s) (lastN []+1) s.2.2.1 l hD (by omega),Option.bind_some,hc0.1,hc0.2,cond_true]
 have fin:∀ (F:List FD) (no now:Int),mayD 60000 F=true→SureD F→∃ c' G no' now' e',turnW 60000 F no now s=(((c',G),no',now'),e',())∧f20 c' G picks=some ((c',G),())∧f19 c' G c' G=some (true,()):=by
  intro F no now hm hS
  rcases turnW_cases (c:=60000) (F:=F) (no:=no) (now:=now) s with⟨e,h⟩|⟨hE,h⟩
  ·have k:=crash_same 60000 F picks hm hS
   exact⟨_,_,_,_,_,h,k.1,k.2⟩
  ·have k:=crash_same 60000 (newF F s) picks (newF_may hE) (sure_new s hS)
   exact⟨_,_,_,_,_,h,k.1,k.2⟩
 rcases addW_cases l hW with⟨e,h,_⟩|⟨G,f,body,now',hF,hno,h,hm,_⟩
 ·obtain⟨c',G',no',now'',e',t1,t2,t3⟩:=fin (newF [] s) (lastN []+1) s.2.2.1 hW.1 hS0
  have h14:=f14_eq 60000 (newF [] s) (lastN []+1) s.2.2.1 s hD hs.sm
  rw[t1] at h14
  simp only[h,h14,Option.bind_some,hc0.1,hc0.2,cond_true,t2,t3]
 ·have hSA:SureD (G++[((lastN []+1:Int),f.2.1++ints (addR body),((f.2.1++ints (addR body)).length:Int))]):=by
   intro x hx
   rcases List.mem_append.1 hx with hx|hx
   ·exact hS0 x (by rw[hF];exact List.mem_append_left _ hx)
   ·rw[List.mem_singleton.1 hx]
  have hDA:=mayD_Sz hm.1
  obtain⟨c',G',no',now'',e',t1,t2,t3⟩:=fin _ (lastN []+1) now' hm.1 hSA
  have h14:=f14_eq 60000 _ (lastN []+1) now' s hDA hs.sm
  rw[t1] at h14
  have hcA:=crash_same 60000 _ picks hm.1 hSA
  simp only[h,h14,Option.bind_some,hcA.1,hcA.2,cond_true,t2,t3]
end Go.Proofs.Zz
namespace Go.Proofs.YtadlmipfbockgaaGreat.walCrash
open Go Go.Sy Go.RowKit Go.Proofs.Zz Go.ChangeShapes
set_option linter.unusedVariables false
set_option maxRecDepth 100000
theorem lifted (os:Os)(started:os.Started)(H:Type)(enc:TypeId×Value→H) :
  ReturnsInHanded {} Tryz.checked os 7 .any (Rows.walCrashSpec.pre6 enc Tryz.prog Tryz.f7 Rows.walCrashRow.domain false) (Rows.walCrashSpec.post enc Tryz.prog Tryz.f7 false true false false):=
 law_lifted6 (C:=Tryz.checked) (Ts:=ps7) (F:=con7.f) (ts:=[37,54,57]) (tb:=4) own started (by kernel_rfl) Tryz.func7
  (ChangeSpec.witness6 (enc:=enc) (C:=Tryz.checked) false ⟨#[],#[.agg #[.int .i64 0,.int .i64 0,.int .i64 0,.int .i64 0,.int .i64 0,.int .i64 0,.int .i64 0,.int .i64 0,.int .i64 0,.int .i64 0,.int .i64 0,.bool false,.int .i64 0,.slice none 0 0,.slice none 0 0,.slice none 0 0],.slice none 0 0,.slice none 0 0],[]⟩ 8 (by kernel_rfl) (by kernel_rfl) (by kernel_rfl) (by kernel_rfl))
  (fun W hs=>trivial) laidOut k7 Tryz.params7 (by kernel_rfl) Tryz.underlying4
  (fun t ht=>by
   have h:([37,54,57].all fun t=>Tryz.prog.readableRec t&&decide (t<Tryz.prog.types.size))=true:=by kernel_rfl
   have:=List.all_eq_true.1 h t ht
   rw[Bool.and_eq_true,decide_eq_true_eq] at this
   exact this)
  ⟨by kernel_rfl,by kernel_rfl,by kernel_rfl,trivial⟩ rfl (fun ds hds=>by
   match ds,hds with
   | [d1,d2,d3],_=>rfl)
  (fun x hx=>f7_true x.1 x.2.1 x.2.2.1 (lenW hx.2.1.1))
theorem holds:Rows.WalCrashSaid:=
 OpenClaim.holds_of_wide 7 Tryz.f7 rfl rfl rfl rfl rfl rfl rfl ⟨rfl,rfl,rfl,rfl,rfl⟩ rfl rfl rfl rfl rfl (by kernel_rfl) Tryz.func7 (by kernel_rfl)
  (of_decide_eq_true (by kernel_rfl)) (by unfold Func.isWrapper;first|(rw[if_pos (by decide +kernel)];kernel_rfl)|(rw[if_neg (by decide +kernel)];exact⟨rfl,rfl⟩))
  (fun os started H enc _=>lifted os started H enc)
end Go.Proofs.YtadlmipfbockgaaGreat.walCrash
namespace Go.Proofs.YtadlmipfbockgaaGreat
theorem walCrash_holds:Rows.WalCrashSaid:=walCrash.holds
end Go.Proofs.YtadlmipfbockgaaGreat
