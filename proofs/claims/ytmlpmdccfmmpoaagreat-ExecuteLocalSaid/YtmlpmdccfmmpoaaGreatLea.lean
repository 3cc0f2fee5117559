/- Chapter 35's laws: few, sources, codes, before. -/
import Derived.Test.YtmlpmdccfmmpoaaGreatExH
import Derived.Test.YtmlpmdccfmmpoaaGreatRfc
set_option linter.unusedSimpArgs false
set_option linter.unusedVariables false
set_option maxHeartbeats 4000000
set_option maxRecDepth 8000
namespace Go.Proofs.YtmlpmdccfmmpoaaGreat
open E

def Src.q (s:Src):List T:=[.int .i64 s.ent,.bool s.full]++sC s.num s.den++[.sl (s.items.map Item.c)]
def Src.qv (s:Src):V:=.agg [vI s.ent,vB s.full,.t (.bool (nB s.num)),.t (.sl (qE s.num)),.t (.bool (nB s.den)),.t (.sl (qE s.den)),.t (.sl (s.items.map Item.c))]
def Src.ql (l:List Src):V:=.t (.sl (l.map Src.q))
structure Sou where
 ent:Int
 full:Bool
 sh:Int
 items:List Item
def Sou.c (x:Sou):List T:=[.int .i64 x.ent,.bool x.full,.int .i16 x.sh,.sl (x.items.map Item.c)]
abbrev Sou.l (l:List Sou):V:=.t (.sl (l.map Sou.c))
def Sou.src (x:Sou):Src:=⟨x.ent,x.full,C6 x.sh 10000,C7 x.sh 10000,x.items⟩
def Sou.wf (x:Sou):Prop:=-32768≤x.sh∧x.sh≤32767
def Mo (l:List Sou) (cs:List Code):Bool:=(l.all fun e=>decide (e.items.length≤60))&&(cs.all Gk)&&decide (l.length≤13)&&decide (cs.length≤10)
theorem V2 (l:List Sou) (cs:List Code):A7 Tryz.prog 9 [Sou.l l,Code.l cs] (vB (Mo l cs)):=by
 generalize hR:vB (Mo l cs)=R
 unfold Mo at hR
 (refine A7.of_code mix Tryz.call9 k_9 (by simp) (fun hB=>?_);(try simp at hB);(try simp -implicitDefEqProofs))
 refine Ac (X:=Nat) (fun k=>k≤l.length∧∀y∈l.take k,y.items.length≤60) (fun k=>[(0,Sou.l l),(1,Code.l cs),(5,vI k)]) (fun _=>St0) (fun k=>l.length-k) 0 ⟨by simp,by simp⟩ (by simp) ?_
 rintro k ⟨hk,hn⟩ hbd
 rcases Nat.lt_or_ge k l.length with h|h
 ·obtain⟨x,hx⟩:=Aa h
  have e3:IntKind.i64.wrap ((k:Int)+1)=(k:Int)+1:=wrap64 (by omega) (by simp [maxLen] at hB;omega)
  have hxc:(l.map Sou.c)[k]?=some x.c:=by simp [hx]
  have hxc' : ∀h,(l.map Sou.c)[k]'h=x.c:=fun h=>by rw [List.getElem?_eq_getElem h] at hxc;exact Option.some.inj hxc
  obtain⟨ent,full,sh,items⟩:=x
  by_cases h6:items.length≤60
  ·have h6' : ¬(60:Int)<items.length:=by omega
   have h6n : ¬60<items.length:=by omega
   have hst : ∃z':Nat,(z'≤l.length∧∀y∈l.take z',y.items.length≤60)∧l.length-z'<l.length-k∧(z':Int)=(k:Int)+1:=by
    refine⟨k+1,⟨by omega,fun y hy=>?_⟩,by omega,by push_cast;rfl⟩
    rw [Aq hx] at hy
    rcases List.mem_append.1 hy with h1|h1
    ·exact hn y h1
    ·simp at h1;subst h1;exact h6
   clear hbd hB
   (try simp -implicitDefEqProofs [h,hxc,hxc',Sou.c,h6,h6n,h6',e3])
   exact hst
  ·have h6':(60:Int)<items.length:=by omega
   have h6n:60<items.length:=by omega
   have hm:=List.mem_of_getElem? hx
   have hf:(l.all fun e=>decide (e.items.length≤60))=false:=by
    rw [List.all_eq_false];exact⟨_,hm,by simpa using h6⟩
   rw [hf] at hR
   simp only [Bool.false_and] at hR
   subst hR
   clear hbd hB
   (try simp -implicitDefEqProofs [h,hxc,hxc',Sou.c,h6,h6n,h6',e3])
 have hall:(l.all fun e=>decide (e.items.length≤60))=true:=by
  rw [List.all_eq_true];intro y hy
  rw [List.take_of_length_le (by omega)] at hn
  simpa using hn y hy
 have hke:k=l.length:=by omega
 subst hke
 rw [hall] at hR
 simp only [Bool.true_and] at hR
 clear hbd
 (try simp -implicitDefEqProofs)
 refine Ac (X:=Nat) (fun k=>k≤cs.length∧∀y∈cs.take k,Gk y=true) (fun k=>[(0,Sou.l l),(1,Code.l cs),(6,vI k)]) (fun _=>St0) (fun k=>cs.length-k) 0 ⟨by simp,by simp⟩ (by simp) ?_
 rintro k ⟨hk,hn⟩ hbd
 rcases Nat.lt_or_ge k cs.length with h|h
 ·obtain⟨x,hx⟩:=Aa h
  have e3:IntKind.i64.wrap ((k:Int)+1)=(k:Int)+1:=wrap64 (by omega) (by simp [maxLen] at hB;omega)
  have hxc:(cs.map Code.c)[k]?=some x.c:=by simp [hx]
  have hxc' : ∀h,(cs.map Code.c)[k]'h=x.c:=fun h=>by rw [List.getElem?_eq_getElem h] at hxc;exact Option.some.inj hxc
  have hf:=X4 x
  have hm:=List.mem_of_getElem? hx
  generalize hfx:Gk x=fx at *
  obtain⟨cn,pair,ins⟩:=x
  cases fx
  ·have hf2:(cs.all Gk)=false:=by
    rw [List.all_eq_false];exact⟨_,hm,by simp [hfx]⟩
   rw [hf2] at hR
   simp only [Bool.false_and] at hR
   subst hR
   clear hbd hB
   ((try simp at hf);(try simp -implicitDefEqProofs [h,hxc,hxc',Code.c,e3]);repeat' first|(with_reducible apply A0<;>first|(simp only [eras,era,A1];first|with_reducible assumption)|(simp -implicitDefEqProofs [h,hxc,hxc',Code.c,e3])))
  ·have hst : ∃z':Nat,(z'≤cs.length∧∀y∈cs.take z',Gk y=true)∧cs.length-z'<cs.length-k∧(z':Int)=(k:Int)+1:=by
    refine⟨k+1,⟨by omega,fun y hy=>?_⟩,by omega,by push_cast;rfl⟩
    rw [Aq hx] at hy
    rcases List.mem_append.1 hy with h1|h1
    ·exact hn y h1
    ·simp at h1;subst h1;exact hfx
   clear hbd hB
   ((try simp at hf);(try simp -implicitDefEqProofs [h,hxc,hxc',Code.c,e3]);repeat' first|(with_reducible apply A0<;>first|(simp only [eras,era,A1];first|with_reducible assumption)|(simp -implicitDefEqProofs [h,hxc,hxc',Code.c,e3])))
   exact hst
 have hall2:(cs.all Gk)=true:=by
  rw [List.all_eq_true];intro y hy
  rw [List.take_of_length_le (by omega)] at hn
  exact hn y hy
 have hke:k=cs.length:=by omega
 subst hke
 rw [hall2] at hR
 simp only [Bool.true_and] at hR
 clear hbd
 have d1:decide (l.length≤13)=decide ((l.length:Int)≤13):=by rw [decide_eq_decide];omega
 have d2:decide (cs.length≤10)=decide ((cs.length:Int)≤10):=by rw [decide_eq_decide];omega
 rw [d1,d2] at hR
 subst hR
 ((try simp -implicitDefEqProofs);repeat' first|((with_reducible first|apply Af|apply Ag|apply A8)<;>(intro hc;have hc':=hc;(try simp at hc');simp -implicitDefEqProofs [hc,hc'])))
theorem R0 (l:List Sou) (hl:l.length≤1000) (hw : ∀x∈l,x.wf):A7 Tryz.prog 10 [Sou.l l] (.tup [Src.l (l.map Sou.src),Src.ql (l.map Sou.src)]):=by
 unfold Src.l Src.ql
 (refine A7.of_code mix Tryz.call10 k_10 (by simp) (fun hB=>?_);(try simp at hB);(try simp -implicitDefEqProofs))
 refine Bl [(.slot 4,58,7),(.slot 5,89,7)] (X:=Nat) (fun k=>k≤l.length) (fun k=>[(0,Sou.l l),(4,.own 0 58 7 ((l.map Sou.src).map Src.c |>.take k)),(5,.own 1 89 7 ((l.map Sou.src).map Src.q |>.take k)),(6,vI k)])
  (fun k=>⟨[],[k,k]⟩) (fun k=>l.length-k) 0 (by omega) (by simp) ?_
 rintro k hk hbd
 clear hbd
 rcases Nat.lt_or_ge k l.length with h|h
 ·obtain⟨x,hx⟩:=Aa h
  have e3:IntKind.i64.wrap ((k:Int)+1)=(k:Int)+1:=wrap64 (by omega) (by omega)
  have hxw:=hw x (List.mem_of_getElem? hx)
  have r1:=Aq (l:=(l.map Sou.src).map Src.c) (k:=k) (x:=x.src.c) (by simp [hx])
  have r2:=Aq (l:=(l.map Sou.src).map Src.q) (k:=k) (x:=x.src.q) (by simp [hx])
  have l1:(((l.map Sou.src).map Src.c).take k).length=k:=by simp;omega
  have l2:(((l.map Sou.src).map Src.q).take k).length=k:=by simp;omega
  generalize ((l.map Sou.src).map Src.c).take k=A at *
  generalize ((l.map Sou.src).map Src.q).take k=B at *
  have hxc:(l.map Sou.c)[k]?=some x.c:=by simp [hx]
  have hxc' : ∀h,(l.map Sou.c)[k]'h=x.c:=fun h=>by rw [List.getElem?_eq_getElem h] at hxc;exact Option.some.inj hxc
  obtain⟨ent,full,sh,items⟩:=x
  unfold Sou.wf at hxw
  simp only [] at hxw
  have w1:=Sn (n:=sh) (d:=10000) (by omega) (by omega) (by decide) (by decide)
  have w2:=Ti (n:=sh) (by omega) (by omega)
  have sc:Src.c (Sou.src ⟨ent,full,sh,items⟩)=[.int .i64 ent,.bool full,.bool (nB (C6 sh 10000)),.sl (pE (C6 sh 10000)),.bool (nB (C7 sh 10000)),.sl (pE (C7 sh 10000)),.sl (items.map Item.c)]:=rfl
  have sq:Src.q (Sou.src ⟨ent,full,sh,items⟩)=[.int .i64 ent,.bool full,.bool (nB (C6 sh 10000)),.sl (qE (C6 sh 10000)),.bool (nB (C7 sh 10000)),.sl (qE (C7 sh 10000)),.sl (items.map Item.c)]:=rfl
  rw [sc] at r1
  rw [sq] at r2
  unfold rV at w1
  unfold sV at w2
  generalize C6 sh 10000=N at *
  generalize C7 sh 10000=D at *
  have e4:IntKind.i64.wrap sh=sh:=wrap64 (by omega) (by omega)
  have j1:k≤9223372036854775806:=by omega
  have j2:(k+1)*104≤140737488355328:=by omega
  ((try simp at w1 w2);(try simp -implicitDefEqProofs [h,hxc,hxc',Sou.c,e3,e4,maxLen,l1,l2,j1,j2]);repeat' first|(with_reducible apply A0<;>first|(simp only [eras,era,A1];first|with_reducible assumption)|(simp -implicitDefEqProofs [h,hxc,hxc',Sou.c,e3,e4,maxLen,l1,l2,j1,j2])))
  refine⟨k+1,by omega,by omega,by simp,?_,?_,by simp⟩
  ·rw [←List.map_map,r1];exact leA.refl _
  ·rw [←List.map_map,r2];exact leA.refl _
 ·have hke:k=l.length:=by omega
  subst hke
  have t1:((l.map Sou.src).map Src.c).take l.length=(l.map Sou.src).map Src.c:=List.take_of_length_le (by simp)
  have t2:((l.map Sou.src).map Src.q).take l.length=(l.map Sou.src).map Src.q:=List.take_of_length_le (by simp)
  rw [t1,t2]
  (try simp -implicitDefEqProofs)
theorem V3 (cs:List Code) (hl:cs.length≤1000) (hc : ∀c∈cs,c.ins.length≤1000):A7 Tryz.prog 12 [Code.l cs] (Code.l cs):=by
 (refine A7.of_code mix Tryz.call12 k_12 (by simp) (fun hB=>?_);(try simp at hB);(try simp -implicitDefEqProofs))
 refine Bl [(.slot 3,70,3)] (X:=Nat) (fun k=>k≤cs.length) (fun k=>[(0,Code.l cs),(3,.own 0 70 3 ((cs.map Code.c).take k)),(4,vI k)])
  (fun k=>⟨[],[k]⟩) (fun k=>cs.length-k) 0 (by omega) (by simp) ?_
 rintro k hk hbd
 clear hbd
 rcases Nat.lt_or_ge k cs.length with h|h
 ·obtain⟨x,hx⟩:=Aa h
  have e3:IntKind.i64.wrap ((k:Int)+1)=(k:Int)+1:=wrap64 (by omega) (by omega)
  have hxw:=hc x (List.mem_of_getElem? hx)
  have hw:=Yo x (by omega)
  have hxc:(cs.map Code.c)[k]?=some x.c:=by simp [hx]
  have hxc' : ∀h,(cs.map Code.c)[k]'h=x.c:=fun h=>by rw [List.getElem?_eq_getElem h] at hxc;exact Option.some.inj hxc
  have r1:=Aq hxc
  have l1:((cs.map Code.c).take k).length=k:=by simp;omega
  generalize (cs.map Code.c).take k=A at *
  obtain⟨cn,pair,ins⟩:=x
  rw [show Code.c ⟨cn,pair,ins⟩=[T.str cn,T.bool pair,T.sl (ins.map Ins.c)] from rfl] at r1
  simp only [Code.v,Code.c,List.map_cons,List.map_nil] at hw
  ((try simp at hw);(try simp -implicitDefEqProofs [h,hxc,hxc',Code.c,e3,maxLen,l1]);repeat' first|((with_reducible first|apply Af|apply Ag|apply A8)<;>(intro hc;have hc':=hc;(try simp at hc');simp -implicitDefEqProofs [hc,hc',h,hxc,hxc',Code.c,e3,maxLen,l1]))|(with_reducible apply A0<;>first|(simp only [eras,era,A1];first|with_reducible assumption)|(simp -implicitDefEqProofs [h,hxc,hxc',Code.c,e3,maxLen,l1])))
  refine⟨by omega,k+1,by omega,by omega,by omega,?_,by push_cast;rfl⟩
  rw [show (cs.map Code.c).take (k+1)=_ from r1];exact leA.refl _
 ·have hke:k=cs.length:=by omega
  subst hke
  have t1:(cs.map Code.c).take cs.length=cs.map Code.c:=List.take_of_length_le (by simp)
  rw [t1]
  ((try simp -implicitDefEqProofs);repeat' first|((with_reducible first|apply Af|apply Ag|apply A8)<;>(intro hc;have hc':=hc;(try simp at hc');simp -implicitDefEqProofs [hc,hc'])))
def awL:List Src:=[⟨0,true,C6 1 2,C7 1 2,[⟨0,0,0,4000,-1,0,-500⟩]⟩]
def awC:List Code:=[⟨[],false,[⟨3,4000,4000⟩,⟨5,0,0⟩,⟨7,0,0⟩,⟨25,4000,0⟩,⟨26,3000,0⟩]⟩]
theorem X5:Gc awC awL=([⟨10,0,-1,0,[⟨3000,-250⟩,⟨4000,250⟩]⟩],0):=by decide +kernel
theorem R1:A7 Tryz.prog 8 [] (vB true):=by
 have h1:=Sn (n:=1) (d:=2) (by omega) (by omega) (by decide) (by decide)
 have h2:=Th awC awL (by decide) (by decide) (by decide) (by decide +kernel)
 rw [X5] at h2
 unfold awC awL Src.l psV at h2
 simp only [Src.c,rC,List.map_cons,List.map_nil,Code.c,Ins.c,Item.c,Posting.c,Part.c,List.cons_append,List.nil_append] at h2
 unfold rV at h1
 generalize C6 1 2=N at *
 generalize C7 1 2=D at *
 (refine A7.of_code mix Tryz.call8 k_8 (by simp) (fun hB=>?_);(try simp at hB);(try simp -implicitDefEqProofs))
 ((try simp at h1 h2);(try simp -implicitDefEqProofs);repeat' first|(with_reducible apply A0<;>first|(simp only [eras,era,A1];first|with_reducible assumption)|(simp -implicitDefEqProofs)))
end Go.Proofs.YtmlpmdccfmmpoaaGreat
