/- Chapter 33: the types of expressions; the reference's Infer. -/
import Derived.Test.YtmlpmdccfmmpoaaGreatDoorRfb
import Derived.Test.YtmlpmdccfmmpoaaGreatDoorIn8
import Derived.Test.YtmlpmdccfmmpoaaGreatDoorRfa
import Derived.Test.YtmlpmdccfmmpoaaGreatDoorSye
import Derived.Test.YtmlpmdccfmmpoaaGreatDoorCodeB
set_option linter.unusedSimpArgs false
set_option linter.unusedVariables false
set_option maxHeartbeats 4000000
set_option maxRecDepth 8000
namespace Go.Proofs.YtmlpmdccfmmpoaaGreatDoor
open E
theorem A07 (c:Code) (hlen:c.ins.length≤1000000):A4 Tryz.prog 89 [c.v] (vB (C4 c).2):=by
 have hm:=A5w c hlen
 generalize C4 c=r at *
 obtain⟨n,ok⟩:=r
 obtain⟨cn,pair,ins⟩:=c
 simp only [vO] at hm
 (refine A4.of_code mix Tryz.call89 k_89 (by simp) (fun hB=>?_);(try simp at hB);(try simp -implicitDefEqProofs))
 ((try simp at hm);(try simp -implicitDefEqProofs);repeat' first|((with_reducible first|apply A7|apply A8|apply A3)<;>(intro hc;have hc':=hc;(try simp at hc');simp -implicitDefEqProofs [hc,hc']))|(with_reducible apply A0<;>first|(simp only [eras,era,A1];first|with_reducible assumption)|(simp -implicitDefEqProofs)))
def Jj (c:Code):Bool:=decide (c.name.length≤100)&&decide (c.ins.length≤400)
theorem A5x (c:Code):A4 Tryz.prog 25 [c.v] (vB (Jj c)):=by
 obtain⟨cn,pair,ins⟩:=c
 unfold Jj
 rcases (by omega:cn.length≤100∨100<cn.length) with h1|h1<;>rcases (by omega:ins.length≤400∨400<ins.length) with h2|h2
 ·(refine A4.of_code mix Tryz.call25 k_25 (by simp) (fun hB=>?_);(try simp at hB);(try simp -implicitDefEqProofs))
  have h1':(cn.length:Int)≤100:=by omega
  have h2':(ins.length:Int)≤400:=by omega
  ((try simp -implicitDefEqProofs [h1,h2,h1',h2']);repeat' first|((with_reducible first|apply A7|apply A8|apply A3)<;>(intro hc;have hc':=hc;(try simp at hc');simp -implicitDefEqProofs [hc,hc',h1,h2,h1',h2'])))
 ·(refine A4.of_code mix Tryz.call25 k_25 (by simp) (fun hB=>?_);(try simp at hB);(try simp -implicitDefEqProofs))
  have h1':(cn.length:Int)≤100:=by omega
  have h2' : ¬(ins.length:Int)≤400:=by omega
  have h2n : ¬ins.length≤400:=by omega
  ((try simp -implicitDefEqProofs [h1,h2,h2n,h1',h2']);repeat' first|((with_reducible first|apply A7|apply A8|apply A3)<;>(intro hc;have hc':=hc;(try simp at hc');simp -implicitDefEqProofs [hc,hc',h1,h2,h2n,h1',h2'])))
 ·(refine A4.of_code mix Tryz.call25 k_25 (by simp) (fun hB=>?_);(try simp at hB);(try simp -implicitDefEqProofs))
  have h1' : ¬(cn.length:Int)≤100:=by omega
  have h1n : ¬cn.length≤100:=by omega
  ((try simp -implicitDefEqProofs [h1,h2,h1n,h1']);repeat' first|((with_reducible first|apply A7|apply A8|apply A3)<;>(intro hc;have hc':=hc;(try simp at hc');simp -implicitDefEqProofs [hc,hc',h1,h2,h1n,h1'])))
 ·(refine A4.of_code mix Tryz.call25 k_25 (by simp) (fun hB=>?_);(try simp at hB);(try simp -implicitDefEqProofs))
  have h1' : ¬(cn.length:Int)≤100:=by omega
  have h1n : ¬cn.length≤100:=by omega
  ((try simp -implicitDefEqProofs [h1,h2,h1n,h1']);repeat' first|((with_reducible first|apply A7|apply A8|apply A3)<;>(intro hc;have hc':=hc;(try simp at hc');simp -implicitDefEqProofs [hc,hc',h1,h2,h1n,h1'])))
def Src.q (s:Src):List T:=[.int .i64 s.ent,.bool s.full]++sC s.num s.den++[.sl (s.items.map Item.c)]
def Src.qv (s:Src):V:=.agg [vI s.ent,vB s.full,.t (.bool (nB s.num)),.t (.sl (qE s.num)),.t (.bool (nB s.den)),.t (.sl (qE s.den)),.t (.sl (s.items.map Item.c))]
def Src.ql (l:List Src):V:=.t (.sl (l.map Src.q))
structure Sou where
 ent:Int
 full:Bool
 sh:Int
 items:List Item
def Sou.c (x:Sou):List T:=[.int .i64 x.ent,.bool x.full,.int .i16 x.sh,.sl (x.items.map Item.c)]
abbrev Sou.l (l:List Sou):V:=.t (.sl (l.map Sou.c))
def Sou.src (x:Sou):Src:=⟨x.ent,x.full,Ci x.sh 10000,Cj x.sh 10000,x.items⟩
def Sou.wf (x:Sou):Prop:=-32768≤x.sh∧x.sh≤32767
def U2 (l:List Sou) (cs:List Code):Bool:=(l.all fun e=>decide (e.items.length≤60))&&(cs.all Jj)&&decide (l.length≤13)&&decide (cs.length≤10)
theorem A2r (l:List Sou) (cs:List Code):A4 Tryz.prog 9 [Sou.l l,Code.l cs] (vB (U2 l cs)):=by
 generalize hR:vB (U2 l cs)=R
 unfold U2 at hR
 (refine A4.of_code mix Tryz.call9 k_9 (by simp) (fun hB=>?_);(try simp at hB);(try simp -implicitDefEqProofs))
 refine A9 (X:=Nat) (fun k=>k≤l.length∧∀y∈l.take k,y.items.length≤60) (fun k=>[(0,Sou.l l),(1,Code.l cs),(5,vI k)]) (fun _=>St0) (fun k=>l.length-k) 0 ⟨by simp,by simp⟩ (by simp) ?_
 rintro k ⟨hk,hn⟩ hbd
 rcases Nat.lt_or_ge k l.length with h|h
 ·obtain⟨x,hx⟩:=Ad h
  have e3:IntKind.i64.wrap ((k:Int)+1)=(k:Int)+1:=wrap64 (by omega) (by simp [maxLen] at hB;omega)
  have hxc:(l.map Sou.c)[k]?=some x.c:=by simp [hx]
  have hxc' : ∀h,(l.map Sou.c)[k]'h=x.c:=fun h=>by rw [List.getElem?_eq_getElem h] at hxc;exact Option.some.inj hxc
  obtain⟨ent,full,sh,items⟩:=x
  by_cases h6:items.length≤60
  ·have h6' : ¬(60:Int)<items.length:=by omega
   have h6n : ¬60<items.length:=by omega
   have hst : ∃z':Nat,(z'≤l.length∧∀y∈l.take z',y.items.length≤60)∧l.length-z'<l.length-k∧(z':Int)=(k:Int)+1:=by
    refine⟨k+1,⟨by omega,fun y hy=>?_⟩,by omega,by push_cast;rfl⟩
    rw [Ae hx] at hy
    rcases List.mem_append.1 hy with h1|h1
    ·exact hn y h1
    ·simp at h1;subst h1;exact h6
   clear hbd hB
   (try simp -implicitDefEqProofs [h,hxc,hxc',Sou.c,h6,h6n,h6',e3])
   exact hst
  ·have h6':(60:Int)<items.length:=by omega
   have h6n:60<items.length:=by omega
   have hm:=List.mem_of_getElem? hx
   have hf:(l.all fun e=>decide (e.items.length≤60))=false:=by
    rw [List.all_eq_false];exact⟨_,hm,by simpa using h6⟩
   rw [hf] at hR
   simp only [Bool.false_and] at hR
   subst hR
   clear hbd hB
   (try simp -implicitDefEqProofs [h,hxc,hxc',Sou.c,h6,h6n,h6',e3])
 have hall:(l.all fun e=>decide (e.items.length≤60))=true:=by
  rw [List.all_eq_true];intro y hy
  rw [List.take_of_length_le (by omega)] at hn
  simpa using hn y hy
 have hke:k=l.length:=by omega
 subst hke
 rw [hall] at hR
 simp only [Bool.true_and] at hR
 clear hbd
 (try simp -implicitDefEqProofs)
 refine A9 (X:=Nat) (fun k=>k≤cs.length∧∀y∈cs.take k,Jj y=true) (fun k=>[(0,Sou.l l),(1,Code.l cs),(6,vI k)]) (fun _=>St0) (fun k=>cs.length-k) 0 ⟨by simp,by simp⟩ (by simp) ?_
 rintro k ⟨hk,hn⟩ hbd
 rcases Nat.lt_or_ge k cs.length with h|h
 ·obtain⟨x,hx⟩:=Ad h
  have e3:IntKind.i64.wrap ((k:Int)+1)=(k:Int)+1:=wrap64 (by omega) (by simp [maxLen] at hB;omega)
  have hxc:(cs.map Code.c)[k]?=some x.c:=by simp [hx]
  have hxc' : ∀h,(cs.map Code.c)[k]'h=x.c:=fun h=>by rw [List.getElem?_eq_getElem h] at hxc;exact Option.some.inj hxc
  have hf:=A5x x
  have hm:=List.mem_of_getElem? hx
  generalize hfx:Jj x=fx at *
  obtain⟨cn,pair,ins⟩:=x
  cases fx
  ·have hf2:(cs.all Jj)=false:=by
    rw [List.all_eq_false];exact⟨_,hm,by simp [hfx]⟩
   rw [hf2] at hR
   simp only [Bool.false_and] at hR
   subst hR
   clear hbd hB
   ((try simp at hf);(try simp -implicitDefEqProofs [h,hxc,hxc',Code.c,e3]);repeat' first|(with_reducible apply A0<;>first|(simp only [eras,era,A1];first|with_reducible assumption)|(simp -implicitDefEqProofs [h,hxc,hxc',Code.c,e3])))
  ·have hst : ∃z':Nat,(z'≤cs.length∧∀y∈cs.take z',Jj y=true)∧cs.length-z'<cs.length-k∧(z':Int)=(k:Int)+1:=by
    refine⟨k+1,⟨by omega,fun y hy=>?_⟩,by omega,by push_cast;rfl⟩
    rw [Ae hx] at hy
    rcases List.mem_append.1 hy with h1|h1
    ·exact hn y h1
    ·simp at h1;subst h1;exact hfx
   clear hbd hB
   ((try simp at hf);(try simp -implicitDefEqProofs [h,hxc,hxc',Code.c,e3]);repeat' first|(with_reducible apply A0<;>first|(simp only [eras,era,A1];first|with_reducible assumption)|(simp -implicitDefEqProofs [h,hxc,hxc',Code.c,e3])))
   exact hst
 have hall2:(cs.all Jj)=true:=by
  rw [List.all_eq_true];intro y hy
  rw [List.take_of_length_le (by omega)] at hn
  exact hn y hy
 have hke:k=cs.length:=by omega
 subst hke
 rw [hall2] at hR
 simp only [Bool.true_and] at hR
 clear hbd
 have d1:decide (l.length≤13)=decide ((l.length:Int)≤13):=by rw [decide_eq_decide];omega
 have d2:decide (cs.length≤10)=decide ((cs.length:Int)≤10):=by rw [decide_eq_decide];omega
 rw [d1,d2] at hR
 subst hR
 ((try simp -implicitDefEqProofs);repeat' first|((with_reducible first|apply A7|apply A8|apply A3)<;>(intro hc;have hc':=hc;(try simp at hc');simp -implicitDefEqProofs [hc,hc'])))
theorem Xe (l:List Sou) (hl:l.length≤1000) (hw : ∀x∈l,x.wf):A4 Tryz.prog 10 [Sou.l l] (.tup [Src.l (l.map Sou.src),Src.ql (l.map Sou.src)]):=by
 unfold Src.l Src.ql
 (refine A4.of_code mix Tryz.call10 k_10 (by simp) (fun hB=>?_);(try simp at hB);(try simp -implicitDefEqProofs))
 refine Av [(.slot 4,68,7),(.slot 5,110,7)] (X:=Nat) (fun k=>k≤l.length) (fun k=>[(0,Sou.l l),(4,.own 0 68 7 ((l.map Sou.src).map Src.c |>.take k)),(5,.own 1 110 7 ((l.map Sou.src).map Src.q |>.take k)),(6,vI k)])
  (fun k=>⟨[],[k,k]⟩) (fun k=>l.length-k) 0 (by omega) (by simp) ?_
 rintro k hk hbd
 clear hbd
 rcases Nat.lt_or_ge k l.length with h|h
 ·obtain⟨x,hx⟩:=Ad h
  have e3:IntKind.i64.wrap ((k:Int)+1)=(k:Int)+1:=wrap64 (by omega) (by omega)
  have hxw:=hw x (List.mem_of_getElem? hx)
  have r1:=Ae (l:=(l.map Sou.src).map Src.c) (k:=k) (x:=x.src.c) (by simp [hx])
  have r2:=Ae (l:=(l.map Sou.src).map Src.q) (k:=k) (x:=x.src.q) (by simp [hx])
  have l1:(((l.map Sou.src).map Src.c).take k).length=k:=by simp;omega
  have l2:(((l.map Sou.src).map Src.q).take k).length=k:=by simp;omega
  generalize ((l.map Sou.src).map Src.c).take k=A at *
  generalize ((l.map Sou.src).map Src.q).take k=B at *
  have hxc:(l.map Sou.c)[k]?=some x.c:=by simp [hx]
  have hxc' : ∀h,(l.map Sou.c)[k]'h=x.c:=fun h=>by rw [List.getElem?_eq_getElem h] at hxc;exact Option.some.inj hxc
  obtain⟨ent,full,sh,items⟩:=x
  unfold Sou.wf at hxw
  simp only [] at hxw
  have w1:=Zi (n:=sh) (d:=10000) (by omega) (by omega) (by decide) (by decide)
  have w2:=A02 (n:=sh) (by omega) (by omega)
  have sc:Src.c (Sou.src ⟨ent,full,sh,items⟩)=[.int .i64 ent,.bool full,.bool (nB (Ci sh 10000)),.sl (pE (Ci sh 10000)),.bool (nB (Cj sh 10000)),.sl (pE (Cj sh 10000)),.sl (items.map Item.c)]:=rfl
  have sq:Src.q (Sou.src ⟨ent,full,sh,items⟩)=[.int .i64 ent,.bool full,.bool (nB (Ci sh 10000)),.sl (qE (Ci sh 10000)),.bool (nB (Cj sh 10000)),.sl (qE (Cj sh 10000)),.sl (items.map Item.c)]:=rfl
  rw [sc] at r1
  rw [sq] at r2
  unfold rV at w1
  unfold sV at w2
  generalize Ci sh 10000=N at *
  generalize Cj sh 10000=D at *
  have e4:IntKind.i64.wrap sh=sh:=wrap64 (by omega) (by omega)
  have j1:k≤9223372036854775806:=by omega
  have j2:(k+1)*104≤140737488355328:=by omega
  ((try simp at w1 w2);(try simp -implicitDefEqProofs [h,hxc,hxc',Sou.c,e3,e4,maxLen,l1,l2,j1,j2]);repeat' first|(with_reducible apply A0<;>first|(simp only [eras,era,A1];first|with_reducible assumption)|(simp -implicitDefEqProofs [h,hxc,hxc',Sou.c,e3,e4,maxLen,l1,l2,j1,j2])))
  refine⟨k+1,by omega,by omega,by simp,?_,?_,by simp⟩
  ·rw [←List.map_map,r1];exact leA.refl _
  ·rw [←List.map_map,r2];exact leA.refl _
 ·have hke:k=l.length:=by omega
  subst hke
  have t1:((l.map Sou.src).map Src.c).take l.length=(l.map Sou.src).map Src.c:=List.take_of_length_le (by simp)
  have t2:((l.map Sou.src).map Src.q).take l.length=(l.map Sou.src).map Src.q:=List.take_of_length_le (by simp)
  rw [t1,t2]
  (try simp -implicitDefEqProofs)
def awL:List Src:=[⟨0,true,Ci 1 2,Cj 1 2,[⟨0,0,0,4000,-1,0,-500⟩]⟩]
def awC:List Code:=[⟨[],false,[⟨3,4000,4000⟩,⟨5,0,0⟩,⟨7,0,0⟩,⟨25,4000,0⟩,⟨26,3000,0⟩]⟩]
theorem A5y:G8 awC awL=([⟨10,0,-1,0,[⟨3000,-250⟩,⟨4000,250⟩]⟩],0):=by decide +kernel
theorem Xf:A4 Tryz.prog 7 [] (vB true):=by
 have h1:=Zi (n:=1) (d:=2) (by omega) (by omega) (by decide) (by decide)
 have h2:=A5r awC awL (by decide) (by decide) (by decide) (by decide +kernel)
 rw [A5y] at h2
 unfold awC awL Src.l psV at h2
 simp only [Src.c,rC,List.map_cons,List.map_nil,Code.c,Ins.c,Item.c,Posting.c,Part.c,List.cons_append,List.nil_append] at h2
 unfold rV at h1
 generalize Ci 1 2=N at *
 generalize Cj 1 2=D at *
 (refine A4.of_code mix Tryz.call7 k_7 (by simp) (fun hB=>?_);(try simp at hB);(try simp -implicitDefEqProofs))
 ((try simp at h1 h2);(try simp -implicitDefEqProofs);repeat' first|(with_reducible apply A0<;>first|(simp only [eras,era,A1];first|with_reducible assumption)|(simp -implicitDefEqProofs)))
theorem A5z {α:Type} {n:Nat} {t e:TypeId} {ts:List T} (hu:Tryz.prog.underlying t=some (.slice e)) (c:α→List T) (wf:α→Prop) (he : ∀n ts,Sh Tryz.prog n e ts→∃x,ts=c x∧wf x) (hk:Tryz.prog.cellsOf t=1) (h:Sh Tryz.prog n t (ts.take (Tryz.prog.cellsOf t))) : ∃l:List α,ts.take 1=[.sl (l.map c)]∧∀x∈l,wf x:=by
 rw [hk] at h
 cases n with
 | zero=>exact h.elim
 | succ n=>
  simp only [Sh,hu] at h
  obtain⟨es,hts,hes⟩:=h
  rw [hts]
  clear hts
  suffices hs : ∃l:List α,es=l.map c∧∀x∈l,wf x by obtain⟨l,rfl,hl⟩:=hs;exact⟨l,rfl,hl⟩
  induction es with
  | nil=>exact⟨[],rfl,by simp⟩
  | cons r es ih=>
   obtain⟨x,rfl,hx⟩:=he n r (hes r (by simp))
   obtain⟨l,rfl,hl⟩:=ih (fun r hr=>hes r (by simp [hr]))
   exact⟨x::l,rfl,by simp;exact⟨hx,hl⟩⟩
theorem A60 {n:Nat} {ts:List T} (h:Sh Tryz.prog n 70 ts) : ∃x y,ts=[.int .i64 x,.int .i64 y]:=by
 cases n with
 | zero=>exact h.elim
 | succ n=>
  have hc:Tryz.prog.cellsOf 70=2:=by kernel_rfl
  simp only [Sh,Tryz.underlying70,hc,List.forall_mem_cons,List.not_mem_nil,false_imp_iff,implies_true,and_true] at h
  obtain⟨hl,h0,h1⟩:=h
  obtain⟨c0,c1,rfl⟩ : ∃c0 c1,ts=[c0,c1]:=by
   match ts,hl with
   | [c0,c1],_=>exact⟨_,_,rfl⟩
  rw [show Tryz.prog.cellsOf 3=1 by kernel_rfl] at h0 h1
  obtain⟨x0,e0,w0⟩:=I4 h0
  obtain⟨x1,e1,w1⟩:=I4 h1
  refine⟨x0,x1,?_⟩
  simp at e0 e1
  simp [*]
theorem A2s {n:Nat} {ts:List T} (h:Sh Tryz.prog n 72 ts) : ∃x:Item,ts=x.c∧True:=by
 cases n with
 | zero=>exact h.elim
 | succ n=>
  have hc:Tryz.prog.cellsOf 72=7:=by kernel_rfl
  simp only [Sh,Tryz.underlying72,hc,List.forall_mem_cons,List.not_mem_nil,false_imp_iff,implies_true,and_true] at h
  obtain⟨hl,h0,h1,h2,h3,h4,h5⟩:=h
  obtain⟨c0,c1,c2,c3,c4,c5,c6,rfl⟩ : ∃c0 c1 c2 c3 c4 c5 c6,ts=[c0,c1,c2,c3,c4,c5,c6]:=by
   match ts,hl with
   | [c0,c1,c2,c3,c4,c5,c6],_=>exact⟨_,_,_,_,_,_,_,rfl⟩
  rw [show Tryz.prog.cellsOf 70=2 by kernel_rfl] at h0
  obtain⟨x0,y0,e0⟩:=A60 h0
  rw [show Tryz.prog.cellsOf 3=1 by kernel_rfl] at h1
  obtain⟨x1,e1,w1⟩:=I4 h1
  rw [show Tryz.prog.cellsOf 3=1 by kernel_rfl] at h2
  obtain⟨x2,e2,w2⟩:=I4 h2
  rw [show Tryz.prog.cellsOf 3=1 by kernel_rfl] at h3
  obtain⟨x3,e3,w3⟩:=I4 h3
  rw [show Tryz.prog.cellsOf 3=1 by kernel_rfl] at h4
  obtain⟨x4,e4,w4⟩:=I4 h4
  rw [show Tryz.prog.cellsOf 3=1 by kernel_rfl] at h5
  obtain⟨x5,e5,w5⟩:=I4 h5
  refine⟨⟨x0,y0,x1,x2,x3,x4,x5⟩,?_,trivial⟩
  simp at e0 e1 e2 e3 e4 e5
  simp [*]
theorem A61 {n:Nat} {ts:List T} (h:Sh Tryz.prog n 96 ts) : ∃x:Int,ts=[.int .i16 x]∧-32768≤x∧x≤32767:=by
 cases n with
 | zero=>exact h.elim
 | succ n=>
  simp only [Sh,Tryz.underlying96] at h
  obtain⟨x,rfl,hw⟩:=h
  refine⟨x,rfl,?_⟩
  simp [Lit.wf,IntKind.min,IntKind.max,IntKind.signed,IntKind.bits] at hw
  omega
theorem A62 {n:Nat} {ts:List T} (h:Sh Tryz.prog n 98 ts) : ∃x:Sou,ts=x.c∧x.wf:=by
 cases n with
 | zero=>exact h.elim
 | succ n=>
  have hc:Tryz.prog.cellsOf 98=4:=by kernel_rfl
  simp only [Sh,Tryz.underlying98,hc,List.forall_mem_cons,List.not_mem_nil,false_imp_iff,implies_true,and_true] at h
  obtain⟨hl,h0,h1,h2,h3⟩:=h
  obtain⟨c0,c1,c2,c3,rfl⟩ : ∃c0 c1 c2 c3,ts=[c0,c1,c2,c3]:=by
   match ts,hl with
   | [c0,c1,c2,c3],_=>exact⟨_,_,_,_,rfl⟩
  rw [show Tryz.prog.cellsOf 3=1 by kernel_rfl] at h0
  rw [show Tryz.prog.cellsOf 4=1 by kernel_rfl] at h1
  rw [show Tryz.prog.cellsOf 96=1 by kernel_rfl] at h2
  obtain⟨x0,e0,w0⟩:=I4 h0
  obtain⟨x1,e1⟩:=A7j h1
  obtain⟨x2,e2,w2⟩:=A61 h2
  obtain⟨x3,e3,w3⟩:=A5z (by kernel_rfl) Item.c (fun _=>True) (fun n ts h=>A2s h) (by kernel_rfl) h3
  refine⟨⟨x0,x1,x2,x3⟩,?_,w2⟩
  simp at e0 e1 e2 e3
  simp [*,Sou.c]
theorem A63 {α:Type} {n:Nat} {t e:TypeId} {ts:List T} (hu:Tryz.prog.underlying t=some (.slice e)) (c:α→List T) (wf:α→Prop) (he : ∀n ts,Sh Tryz.prog n e ts→∃x,ts=c x∧wf x) (h:Sh Tryz.prog n t ts) : ∃l:List α,ts=[.sl (l.map c)]∧∀x∈l,wf x:=by
 cases n with
 | zero=>exact h.elim
 | succ n=>
  simp only [Sh,hu] at h
  obtain⟨es,hts,hes⟩:=h
  rw [hts]
  clear hts
  suffices hs : ∃l:List α,es=l.map c∧∀x∈l,wf x by obtain⟨l,rfl,hl⟩:=hs;exact⟨l,rfl,hl⟩
  induction es with
  | nil=>exact⟨[],rfl,by simp⟩
  | cons r es ih=>
   obtain⟨x,rfl,hx⟩:=he n r (hes r (by simp))
   obtain⟨l,rfl,hl⟩:=ih (fun r hr=>hes r (by simp [hr]))
   exact⟨x::l,rfl,by simp;exact⟨hx,hl⟩⟩
theorem A08 {ts:List T} (h : ∃n,Sh Tryz.prog n 25 ts) : ∃l:List Sou,Th Tryz.prog 25 ts=Sou.l l∧∀x∈l,x.wf:=by
 obtain⟨n,h⟩:=h
 obtain⟨l,e,w⟩:=A63 (by kernel_rfl) Sou.c Sou.wf (fun n ts h=>A62 h) h
 exact⟨l,Uz (by kernel_rfl) e,w⟩
def Gc (k:Int):Int:=if k=6∨k=12∨k=13 then 2 else 1
def H7 (k:Int):Int:=if k=6∨k=12∨k=13∨(14≤k∧k≤19) then 2 else 1
def F0 (known pair wrong:Bool) (e k f t:Int):Int×Int:=
 if e≠0 then (0,e) else if wrong=true then (0,16) else if k=2∧known=false then (0,17) else
 if (k=21∨k=22)∧t<f then (0,2) else if k=22∧pair=false then (0,7) else (H7 k,0)
namespace Xp
mutual
def inf (q:List UInt8→Bool) (pair:Bool):Xp→Int×Int
 | .mk k _ f t n xs=>F0 (q n) pair (infs q pair (Gc k) xs).2 (infs q pair (Gc k) xs).1 k f t
def infs (q:List UInt8→Bool) (pair:Bool) (w:Int):List Xp→Int×Bool
 | []=>(0,false)
 | x::xs=>if (inf q pair x).2≠0 then ((inf q pair x).2,false) else ((infs q pair w xs).1,((inf q pair x).1 != w)||(infs q pair w xs).2)
end
end Xp
theorem A64 (k:Int):A4 Tryz.prog 120 [vI k] (.tup [vI (H7 k),vI (Gc k)]):=by
 generalize hR:V.tup [vI (H7 k),vI (Gc k)]=R
 unfold H7 Gc at hR
 by_cases h1:k=6
 ·subst h1;subst hR
  (refine A4.of_code mix Tryz.call120 k_120 (by simp) (fun hB=>?_);(try simp at hB);(try simp -implicitDefEqProofs))
  (try simp -implicitDefEqProofs)
 by_cases h2:k=12
 ·subst h2;subst hR
  (refine A4.of_code mix Tryz.call120 k_120 (by simp) (fun hB=>?_);(try simp at hB);(try simp -implicitDefEqProofs))
  (try simp -implicitDefEqProofs)
 by_cases h3:k=13
 ·subst h3;subst hR
  (refine A4.of_code mix Tryz.call120 k_120 (by simp) (fun hB=>?_);(try simp at hB);(try simp -implicitDefEqProofs))
  (try simp -implicitDefEqProofs)
 have n1:(k==6)=false:=by simpa using h1
 have n2:(k==12)=false:=by simpa using h2
 have n3:(k==13)=false:=by simpa using h3
 rw [if_neg (show ¬(k=6∨k=12∨k=13) by omega)] at hR
 by_cases h4:14≤k∧k≤19
 ·rw [if_pos (by omega)] at hR
  subst hR
  obtain⟨a,b⟩:=h4
  (refine A4.of_code mix Tryz.call120 k_120 (by simp) (fun hB=>?_);(try simp at hB);(try simp -implicitDefEqProofs))
  (try simp -implicitDefEqProofs [n1,n2,n3,a,b])
 ·rw [if_neg (by omega)] at hR
  subst hR
  by_cases a:14≤k
  ·have b : ¬k≤19:=fun h=>h4 ⟨a,h⟩
   (refine A4.of_code mix Tryz.call120 k_120 (by simp) (fun hB=>?_);(try simp at hB);(try simp -implicitDefEqProofs))
   (try simp -implicitDefEqProofs [n1,n2,n3,a,b])
  ·(refine A4.of_code mix Tryz.call120 k_120 (by simp) (fun hB=>?_);(try simp at hB);(try simp -implicitDefEqProofs))
   (try simp -implicitDefEqProofs [n1,n2,n3,a])
theorem A2t (names:List (List UInt8)) (pair:Bool) : ∀(x:Xp),A4 Tryz.prog 75 [x.v,vSL names,vB pair] (.tup [vI (x.inf (inS names) pair).1,vI (x.inf (inS names) pair).2]):=by
 refine Xp.ind fun kd vl fr to nm xs ih=>?_
 have hkind:=A64 kd
 have hin:=A7h names nm
 rw [Xp.inf]
 rw [Xp.v,Xp.c_mk]
 generalize hq:inS names=q at *
 generalize hqn:q nm=qn at *
 generalize hr0:Xp.infs q pair (Gc kd) xs=r0 at *
 generalize hR:F0 qn pair r0.2 r0.1 kd fr to=R at *
 generalize hop:Gc kd=w at *
 generalize how:H7 kd=ow at *
 (refine A4.of_code mix Tryz.call75 k_75 (by simp) (fun hB=>?_);(try simp at hB);(try simp -implicitDefEqProofs))
 ((try simp at hkind);(try simp -implicitDefEqProofs);repeat' first|(with_reducible apply A0<;>first|(simp only [eras,era,A1];first|with_reducible assumption)|(simp -implicitDefEqProofs)))
 refine A9 (X:=Nat×Bool) (fun X=>X.1≤xs.length∧(Xp.infs q pair w (xs.drop X.1)).1=r0.1∧(r0.1=0→(X.2||(Xp.infs q pair w (xs.drop X.1)).2)=r0.2)) (fun X=>[(1,vSL names),(2,vB pair),(3,.ptr 0 0),(8,vI ow),(9,vI w),(10,vB X.2),(11,vI X.1)]) (fun _=>⟨[.cells [vI kd,vI vl,vI fr,vI to,vS nm,Xp.l xs]],[]⟩) (fun X=>xs.length-X.1) (0,false) ⟨by simp,by simp [hr0],by simp [hr0]⟩ (by simp) ?_
 rintro ⟨k,wr⟩ ⟨hk,h1,h2⟩ hbd
 simp only [] at hk h1 h2
 clear hbd
 rcases Nat.lt_or_ge k xs.length with h|h
 ·have hx:xs[k]?=some xs[k]:=by simp [h]
  have hrec:=ih xs[k] (List.getElem_mem h)
  have e3:IntKind.i64.wrap ((k:Int)+1)=(k:Int)+1:=wrap64 (by omega) (by simp [maxLen] at hB;omega)
  have hlc:=D5 xs[k]
  have htc:=C3 xs[k]
  rw [List.drop_eq_getElem_cons h,Xp.infs] at h1 h2
  generalize hix:Xp.inf q pair xs[k]=ix at *
  obtain⟨it,ie⟩:=ix
  simp only [] at h1 h2 hrec
  by_cases he:ie=0
  ·rw [if_neg (by simpa using he)] at h1 h2
   simp only [] at h1 h2
   have he':(ie != 0)=false:=by simpa using he
   cases wr
   ·((try simp at hrec);(try simp -implicitDefEqProofs [h,e3,hlc,htc,he']);repeat' first|(with_reducible apply A0<;>first|(simp only [eras,era,A1];first|with_reducible assumption)|(simp -implicitDefEqProofs [h,e3,hlc,htc,he'])))
    have hp1:((k+1:Nat):Int)=(k:Int)+1:=by push_cast;rfl
    by_cases hw:it=w
    ·have hw':(it != w)=false:=by simpa using hw
     exact⟨k+1,.inl ⟨⟨by omega,h1,by simpa [hw'] using h2⟩,by omega,hw,hp1⟩⟩
    ·have hw':(it != w)=true:=by simpa using hw
     exact⟨k+1,.inr ⟨⟨by omega,h1,fun h=>by have:=h2 h;simpa [hw'] using this.symm⟩,by omega,hw,hp1⟩⟩
   ·((try simp at hrec);(try simp -implicitDefEqProofs [h,e3,hlc,htc,he']);repeat' first|(with_reducible apply A0<;>first|(simp only [eras,era,A1];first|with_reducible assumption)|(simp -implicitDefEqProofs [h,e3,hlc,htc,he'])))
    exact⟨k+1,⟨by omega,h1,fun h=>by have:=h2 h;simpa using this.symm⟩,by omega,by push_cast;rfl⟩
  ·rw [if_pos he] at h1
   simp only [] at h1
   have he':(ie != 0)=true:=by simpa using he
   rw [←h1] at hR
   unfold F0 at hR
   rw [if_pos he] at hR
   subst hR
   ((try simp at hrec);(try simp -implicitDefEqProofs [h,e3,hlc,htc,he']);repeat' first|(with_reducible apply A0<;>first|(simp only [eras,era,A1];first|with_reducible assumption)|(simp -implicitDefEqProofs [h,e3,hlc,htc,he'])))
 ·have:k=xs.length:=by omega
  subst this
  simp only [List.drop_length,Xp.infs] at h1 h2
  have h2:=h2 h1.symm
  simp only [Bool.or_false] at h2
  rw [←h1,←h2] at hR
  unfold F0 at hR
  rw [if_neg (by simp)] at hR
  cases wr
  ·rw [if_neg (by simp)] at hR
   have hcases:kd=2∨kd=21∨kd=22∨((kd==2)=false∧(kd==21)=false∧(kd==22)=false):=by
    simp only [beq_eq_false_iff_ne,ne_eq];omega
   rcases hcases with rfl|rfl|rfl|⟨n1,n2,n3⟩
   ·cases qn
    ·subst hR
     ((try simp at hin);(try simp -implicitDefEqProofs);repeat' first|(with_reducible apply A0<;>first|(simp only [eras,era,A1];first|with_reducible assumption)|(simp -implicitDefEqProofs)))
    ·rw [how] at hR
     subst hR
     ((try simp at hin);(try simp -implicitDefEqProofs);repeat' first|(with_reducible apply A0<;>first|(simp only [eras,era,A1];first|with_reducible assumption)|(simp -implicitDefEqProofs)))
   ·rw [how] at hR
    by_cases hft:to<fr
    ·have hft':decide (to<fr)=true:=by simpa using hft
     rw [if_neg (by simp),if_pos ⟨.inl rfl,hft⟩] at hR
     subst hR
     ((try simp at hin);(try simp -implicitDefEqProofs [hft']);repeat' first|(with_reducible apply A0<;>first|(simp only [eras,era,A1];first|with_reducible assumption)|(simp -implicitDefEqProofs [hft'])))
    ·have hft':decide (to<fr)=false:=by simpa using hft
     rw [if_neg (by simp),if_neg (fun h=>hft h.2),if_neg (by simp)] at hR
     subst hR
     ((try simp at hin);(try simp -implicitDefEqProofs [hft']);repeat' first|(with_reducible apply A0<;>first|(simp only [eras,era,A1];first|with_reducible assumption)|(simp -implicitDefEqProofs [hft'])))
   ·rw [how] at hR
    by_cases hft:to<fr
    ·have hft':decide (to<fr)=true:=by simpa using hft
     rw [if_neg (by simp),if_pos ⟨.inr rfl,hft⟩] at hR
     subst hR
     ((try simp at hin);(try simp -implicitDefEqProofs [hft']);repeat' first|(with_reducible apply A0<;>first|(simp only [eras,era,A1];first|with_reducible assumption)|(simp -implicitDefEqProofs [hft'])))
    ·have hft':decide (to<fr)=false:=by simpa using hft
     rw [if_neg (by simp),if_neg (fun h=>hft h.2)] at hR
     cases pair
     ·subst hR
      ((try simp at hin);(try simp -implicitDefEqProofs [hft']);repeat' first|(with_reducible apply A0<;>first|(simp only [eras,era,A1];first|with_reducible assumption)|(simp -implicitDefEqProofs [hft'])))
     ·subst hR
      ((try simp at hin);(try simp -implicitDefEqProofs [hft']);repeat' first|(with_reducible apply A0<;>first|(simp only [eras,era,A1];first|with_reducible assumption)|(simp -implicitDefEqProofs [hft'])))
   ·have m1 : ¬kd=2:=by simpa using n1
    have m2 : ¬kd=21:=by simpa using n2
    have m3 : ¬kd=22:=by simpa using n3
    rw [if_neg (fun h=>m1 h.1),if_neg (fun h=>h.1.elim m2 m3),if_neg (fun h=>m3 h.1),how] at hR
    subst hR
    ((try simp at hin);(try simp -implicitDefEqProofs [n1,n2,n3]);repeat' first|(with_reducible apply A0<;>first|(simp only [eras,era,A1];first|with_reducible assumption)|(simp -implicitDefEqProofs [n1,n2,n3])))
  ·rw [if_pos rfl] at hR
   subst hR
   ((try simp at hin);(try simp -implicitDefEqProofs);repeat' first|(with_reducible apply A0<;>first|(simp only [eras,era,A1];first|with_reducible assumption)|(simp -implicitDefEqProofs)))
end Go.Proofs.YtmlpmdccfmmpoaaGreatDoor
