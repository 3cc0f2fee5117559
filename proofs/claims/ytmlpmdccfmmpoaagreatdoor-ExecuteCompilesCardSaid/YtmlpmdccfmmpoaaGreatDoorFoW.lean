/- Chapter 34: Fold, walked. -/
import Derived.Test.YtmlpmdccfmmpoaaGreatDoorFoX
import Derived.Test.YtmlpmdccfmmpoaaGreatDoorOp
import Derived.Test.YtmlpmdccfmmpoaaGreatDoorExG
set_option linter.unusedSimpArgs false
set_option linter.unusedVariables false
set_option maxHeartbeats 2000000
set_option maxRecDepth 8000
namespace Go.Proofs.YtmlpmdccfmmpoaaGreatDoor
open E

structure Ahead (c0 c1 c2:List V) (A:List Bx):Prop where
 len:3≤A.length
 g0:A[0]?=some (.cells c0)
 g1:A[1]?=some (.cells c1)
 g2:A[2]?=some (.cells c2)
 le : ∀n m,Aa n m A A
theorem Aa.app9 {n m:Nat} {A:List Bx} : ∀{l l':List Bx},Aa n m A A→(Aa n m (A++l) (A++l')↔Aa n m l l'):=by
 intro l l' h
 induction A with
 | nil=>rfl
 | cons a A ih=>exact⟨fun k=>(ih h.2).1 k.2,fun k=>⟨h.1,(ih h.2).2 k⟩⟩
theorem Ve {A l:List Bx} (j:Nat):(A++l)[A.length+j]?=l[j]?:=by rw [List.getElem?_append_right (by omega)];congr 1;omega
theorem Vf {A l:List Bx} (j:Nat) (v:Bx):(A++l).set (A.length+j) v=A++l.set j v:=by
 rw [List.set_append,if_neg (by omega)];congr 2;omega
theorem Ahead.more {c0 c1 c2:List V} {A:List Bx} (h:Ahead c0 c1 c2 A) (d:List Bx) (hd : ∀x∈d,x=.dead):Ahead c0 c1 c2 (A++d):=by
 have hl:=h.len
 refine⟨by simp;omega,?_,?_,?_,fun n m=>((Aa.app9 (h.le n m)).2 ?_)⟩
 ·rw [List.getElem?_append_left (by omega)];exact h.g0
 ·rw [List.getElem?_append_left (by omega)];exact h.g1
 ·rw [List.getElem?_append_left (by omega)];exact h.g2
 ·clear hl h
  induction d with
  | nil=>trivial
  | cons x d ih=>
   have:=hd x (by simp)
   subst this
   exact⟨trivial,ih fun y hy=>hd y (by simp [hy])⟩
theorem Vg : ∀(o:List Ins) (rest:List V) (i:Nat) (h:i<o.length),((((o.flatMap Ins.c).map V.t)++rest).drop (i*3)).take 3=[vI o[i].op,vI o[i].a,vI o[i].b]
 | x::o,rest,0,h=>by simp [Ins.c]
 | x::o,rest,i+1,h=>by
  have:=Vg o rest i (by simpa using h)
  simp only [List.flatMap_cons,List.map_append,List.getElem_cons_succ]
  rw [show (i+1)*3=3+i*3 from by omega,←List.drop_drop]
  have h3:(x.c.map V.t).length=3:=rfl
  rw [List.append_assoc,List.drop_left' h3]
  exact this
theorem P7 : ∀(o:List Ins) (rest:List V) (m:Nat) (h:m≤o.length),(((o.flatMap Ins.c).map V.t)++rest).take (m*3)=((o.take m).flatMap Ins.c).map V.t
 | o,rest,0,h=>by simp
 | x::o,rest,i+1,h=>by
  have:=P7 o rest i (by simpa using h)
  simp only [List.flatMap_cons,List.map_append,List.take_succ_cons]
  rw [show (i+1)*3=3+i*3 from by omega,List.append_assoc]
  have h3:(x.c.map V.t).length=3:=rfl
  rw [List.take_append,h3,List.take_of_length_le (by omega),show 3+i*3-3=i*3 from by omega,this]
theorem Vh : ∀(o:List Ins) (i:Nat) (h:i<o.length),((o.flatMap Ins.c).drop (i*3)).take 3=o[i].c
 | x::o,0,h=>by simp [Ins.c]
 | x::o,i+1,h=>by
  have:=Vh o i (by simpa using h)
  simp only [List.flatMap_cons,List.getElem_cons_succ]
  rw [show (i+1)*3=3+i*3 from by omega,←List.drop_drop,List.drop_left' (show x.c.length=3 from rfl)]
  exact this
theorem Xx (o:List Ins):E9 3 o.length (o.flatMap Ins.c)=some (o.map Ins.c):=by
 have hl:(o.flatMap Ins.c).length=o.length*3:=by
  induction o with
  | nil=>rfl
  | cons x o ih=>simp only [List.flatMap_cons,List.length_append,ih,List.length_cons];simp only [Ins.c,List.length_cons,List.length_nil];omega
 unfold E9
 rw [if_pos hl]
 congr 1
 refine List.ext_getElem (by simp) fun i h1 h2=>?_
 simp only [List.getElem_map,List.getElem_range]
 exact Vh o i (by simpa using h1)
theorem A34 (o:List Ins):(Br (((o.flatMap Ins.c).map V.t).take (o.length*3))).bind (E9 3 o.length)=some (o.map Ins.c):=by
 have hl:((o.flatMap Ins.c).map V.t).length=o.length*3:=by
  induction o with
  | nil=>rfl
  | cons x o ih=>simp only [List.flatMap_cons,List.map_append,List.length_append,ih,List.length_cons];simp [Ins.c];omega
 rw [List.take_of_length_le (by omega),Y0]
 exact Xx o
theorem A84 (x:Ins):A7 Tryz.prog 51 [x.v] (vB (x.op != 1)):=by
 obtain⟨op,a,b⟩:=x
 (refine A7.of_code mix Tryz.call51 k_51 (by simp) (fun hB=>?_);(try simp at hB);(try simp -implicitDefEqProofs))
 ((try simp -implicitDefEqProofs);repeat' first|((with_reducible first|apply A5|apply A6|apply A3)<;>(intro hc;have hc':=hc;(try simp at hc');simp -implicitDefEqProofs [hc,hc'])))

theorem A5w (S:St) (hS:OkS S) (b o z:Nat) (e:TypeId) (cs:List V) (hBx:S.boxes[b]?=some (.buf e z cs)) (l:List Ins) (hlen:l.length≤1000000)
  (hv : ∀k (h:k<l.length),(cs.drop (o+k*3)).take 3=[vI l[k].op,vI l[k].a,vI l[k].b]∧o+k*3+3≤cs.length) :
  FnS Tryz.prog 103 [.vw b o l.length,.fn (.func 51) []] S (vI (Hr (fun y=>y.op != 1) l)) S:=by
 have hb:b<S.boxes.length:=(List.getElem?_eq_some_iff.1 hBx).1
 (refine FnS.of_code mix Tryz.call103 k_103 (by simp) (fun hB=>?_);(try simp at hB);(try simp -implicitDefEqProofs))
 refine Ac (X:=Nat) (fun k=>k≤l.length∧∀y∈l.take k,(y.op != 1)=false) (fun k=>[(0,.vw b o l.length),(1,.fn (.func 51) []),(7,vI l.length),(8,vI k)]) (fun _=>S) (fun k=>l.length-k) 0 ⟨by simp,by simp⟩ ?_ ?_
 ·have:=hS;simp [OkS] at this;simp [this,hb]
 rintro k ⟨hk,hn⟩ hbd
 rcases Nat.lt_or_ge k l.length with hlt|hge
 ·have hx:l[k]?=some l[k]:=by simp [hlt]
  obtain⟨hv1,hv2⟩:=hv k hlt
  have hc:=A84 l[k]
  have e3:IntKind.i64.wrap ((k:Int)+1)=(k:Int)+1:=wrap64 (by omega) (by omega)
  cases hq:(l[k].op != 1)
  ·rw [hq] at hc
   ((try simp at hc);(try simp -implicitDefEqProofs [hlt,e3,hv1,hv2,hBx]);repeat' first|((with_reducible first|apply A5|apply A6|apply A3)<;>(intro hc;have hc':=hc;(try simp at hc');simp -implicitDefEqProofs [hc,hc',hlt,e3,hv1,hv2,hBx]))|(with_reducible apply A0<;>first|(simp only [eras,era,A1];first|with_reducible assumption)|(simp -implicitDefEqProofs [hlt,e3,hv1,hv2,hBx])))
   have hS':=hS
   simp [OkS] at hS'
   refine⟨k+1,⟨by omega,fun y hy=>?_⟩,by omega,hS',hb,by simp⟩
   rw [Ag hx] at hy
   rcases List.mem_append.1 hy with hy|hy
   ·simpa using hn y hy
   ·simp at hy;subst hy;simpa using hq
  ·rw [hq] at hc
   rw [H1 hx hn hq]
   ((try simp at hc);(try simp -implicitDefEqProofs [hlt,e3,hv1,hv2,hBx]);repeat' first|((with_reducible first|apply A5|apply A6|apply A3)<;>(intro hc;have hc':=hc;(try simp at hc');simp -implicitDefEqProofs [hc,hc',hlt,e3,hv1,hv2,hBx]))|(with_reducible apply A0<;>first|(simp only [eras,era,A1];first|with_reducible assumption)|(simp -implicitDefEqProofs [hlt,e3,hv1,hv2,hBx])))
   have hS':=hS
   simp [OkS] at hS'
   exact hS'
 ·have:k=l.length:=by omega
  subst this
  rw [List.take_length] at hn
  rw [F7 hn]
  have hS':=hS
  simp [OkS] at hS'
  ((try simp -implicitDefEqProofs [hS']);repeat' first|((with_reducible first|apply A5|apply A6|apply A3)<;>(intro hc;have hc':=hc;(try simp at hc');simp -implicitDefEqProofs [hc,hc',hS'])))

theorem A7g (S:St) (hS:OkS S) (b o z:Nat) (e:TypeId) (cs:List V) (hBx:S.boxes[b]?=some (.buf e z cs)) (l:List Ins) (hlen:l.length≤1000000)
  (hv : ∀k (h:k<l.length),(cs.drop (o+k*3)).take 3=[vI l[k].op,vI l[k].a,vI l[k].b]∧o+k*3+3≤cs.length) :
  FnS Tryz.prog 50 [.vw b o l.length,.fn (.func 51) []] S (vB (l.any fun y=>y.op != 1)) S:=by
 have hi:=A5w S hS b o z e cs hBx l hlen hv
 have hb:b<S.boxes.length:=(List.getElem?_eq_some_iff.1 hBx).1
 rw [←F8]
 (try simp at hi)
 (refine FnS.of_code mix Tryz.call50 k_50 (by simp) (fun hB=>?_);(try simp at hB);(try simp -implicitDefEqProofs))
 refine A8 hi ?_
 have hS':=hS
 simp [OkS] at hS'
 ((try simp -implicitDefEqProofs [hS']);repeat' first|((with_reducible first|apply A5|apply A6|apply A3)<;>(intro hc;have hc':=hc;(try simp at hc');simp -implicitDefEqProofs [hc,hc',hS'])))

theorem A85 (c:Code) (hlen:c.ins.length≤1000000):A7 Tryz.prog 48 [c.v] (vB (Bo c).2):=by
 have hm:=A3n c hlen
 generalize Bo c=r at *
 obtain⟨n,ok⟩:=r
 obtain⟨cn,pair,ins⟩:=c
 simp only [vO] at hm
 (refine A7.of_code mix Tryz.call48 k_48 (by simp) (fun hB=>?_);(try simp at hB);(try simp -implicitDefEqProofs))
 ((try simp at hm);(try simp -implicitDefEqProofs);repeat' first|((with_reducible first|apply A5|apply A6|apply A3)<;>(intro hc;have hc':=hc;(try simp at hc');simp -implicitDefEqProofs [hc,hc']))|(with_reducible apply A0<;>first|(simp only [eras,era,A1];first|with_reducible assumption)|(simp -implicitDefEqProofs)))
def Vi (c:Code):Code×Int:=if (Bo c).2=true then (⟨c.name,c.pair,B6 c.ins⟩,0) else (⟨[],false,[]⟩,1)
def A35 (o:List Ins):Bx:=.buf 93 3 ((o.flatMap Ins.c).map .t)
theorem A5x (c:Code) (hlen:c.ins.length≤8000):A7 Tryz.prog 21 [c.v] (.tup [(Vi c).1.v,vI (Vi c).2]):=by
 have hval:=A85 c (by omega)
 have htab:=A3l
 have hrow : ∀n:Nat,n≤26→((Iu.map V.t).drop (n*4)).take 4=[vS (nm n),vI (tk n),vI (pt n),vI (us n)]:=fun n h=>tab_row h
 have htl:(Iu.map V.t).length=108:=by rw [List.length_map];exact Uz
 have htt : ∀x∈Iu.map V.t,∃y,x=V.t y:=fun x hx=>by obtain⟨y,_,rfl⟩:=List.mem_map.1 hx;exact⟨y,rfl⟩
 have hok : ∀n m,okNs n m (Iu.map V.t)=true:=fun n m=>Dq n m _
 have hops:(Bo c).2=true→∀(k:Nat) (x:Ins),c.ins[k]?=some x→1≤x.op∧x.op≤26:=fun h k x hx=>Vc h hx
 unfold Vi
 obtain⟨cn,pair,ins⟩:=c
 simp only [] at hlen hops
 cases hm:(Bo ⟨cn,pair,ins⟩).2
 ·rw [hm] at hval
  (refine A7.of_codeB mix Tryz.call21 kb_21 (by simp) (fun hB=>?_);(try simp at hB);(try simp -implicitDefEqProofs))
  ((try simp at hval);(try simp -implicitDefEqProofs);repeat' first|((with_reducible first|apply A5|apply A6|apply A3)<;>(intro hc;have hc':=hc;(try simp at hc');simp -implicitDefEqProofs [hc,hc']))|(with_reducible apply A0<;>first|(simp only [eras,era,A1];first|with_reducible assumption)|(simp -implicitDefEqProofs)))
 rw [hm] at hval
 have hops:=hops hm
 (refine A7.of_codeB mix Tryz.call21 kb_21 (by simp) (fun hB=>?_);(try simp at hB);(try simp -implicitDefEqProofs))
 generalize Iu.map V.t=TB at *
 ((try simp at hval htab);(try simp -implicitDefEqProofs);repeat' first|((with_reducible first|apply A5|apply A6|apply A3)<;>(intro hc;have hc':=hc;(try simp at hc');simp -implicitDefEqProofs [hc,hc']))|(with_reducible apply A0<;>first|(simp only [eras,era,A1];first|with_reducible assumption)|(simp -implicitDefEqProofs)))
 refine⟨⟨htl,fun x hx=>by obtain⟨y,rfl⟩:=htt x hx;rfl⟩,?_⟩
 ((try simp -implicitDefEqProofs);repeat' first|((with_reducible first|apply A5|apply A6|apply A3)<;>(intro hc;have hc':=hc;(try simp at hc');simp -implicitDefEqProofs [hc,hc'])))
 refine⟨⟨by unfold maxLen;omega,by omega⟩,?_⟩
 refine Ac (X:=Nat×List Bx) (fun X=>X.1≤ins.length∧Ahead [vS cn,vB pair,Ins.l ins] [vS [],vB false,.snil] TB X.2)
  (fun X=>[(1,.ptr 0 0),(2,.ptr 1 0),(4,.ptr 2 0),(5,.bw X.2.length (B6 (ins.take X.1)).length),(25,Ins.l ins),(26,vI ins.length),(27,vI X.1)])
  (fun X=>⟨X.2++[A35 (B6 (ins.take X.1))],[]⟩) (fun X=>ins.length-X.1) (0,[.cells [vS cn,vB pair,Ins.l ins],.cells [vS [],vB false,.snil],.cells TB]) ?h0 ?hs ?_
 case h0=>exact⟨by simp,⟨by simp,rfl,rfl,rfl,fun n m=>by simp [Aa,E.leB,LeL,leC,okNs,okN,hok]⟩⟩
 case hs=>simp [htl,hok,B6,A35]
 rintro ⟨k,A⟩ ⟨hk,hA⟩ hbd
 simp only [] at hk hA
 clear hbd
 have hal:=hA.len
 have gz : ∀(l:List Bx),(A++l)[A.length]?=l[0]?:=fun l=>Ve 0
 have g1 : ∀(l:List Bx) (j:Nat),(A++l)[A.length+j]?=l[j]?:=fun l j=>Ve j
 have s0 : ∀(l:List Bx) (v:Bx),(A++l).set A.length v=A++l.set 0 v:=fun l v=>Vf 0 v
 have s1 : ∀(l:List Bx) (j:Nat) (v:Bx),(A++l).set (A.length+j) v=A++l.set j v:=fun l j v=>Vf j v
 have a0 : ∀(l:List Bx),(A++l)[0]?=some (.cells [vS cn,vB pair,Ins.l ins]):=fun l=>by rw [List.getElem?_append_left (by omega)];exact hA.g0
 have a1 : ∀(l:List Bx),(A++l)[1]?=some (.cells [vS [],vB false,.snil]):=fun l=>by rw [List.getElem?_append_left (by omega)];exact hA.g1
 have a2 : ∀(l:List Bx),(A++l)[2]?=some (.cells TB):=fun l=>by rw [List.getElem?_append_left (by omega)];exact hA.g2
 have a2' : ∀(l:List Bx) (h:2<(A++l).length),(A++l)[2]=.cells TB:=fun l h=>by have:=a2 l;rw [List.getElem?_eq_getElem h] at this;exact Option.some.inj this
 have hfl:=J9 (ins.take k)
 rw [List.length_take,Nat.min_eq_left hk] at hfl
 rcases Nat.lt_or_ge k ins.length with h|h
 ·have hx:ins[k]?=some ins[k]:=by simp [h]
  have h' : ¬ins.length≤k:=by omega
  obtain⟨o1,o2⟩:=hops k _ hx
  obtain⟨n,hn⟩ : ∃n:Nat,ins[k].op=n:=⟨ins[k].op.toNat,by omega⟩
  have hn26:n≤26:=by omega
  have hrn:=hrow n hn26
  have hpk:=M5 hn26
  have hd0:TB.drop (n*4)=vS (nm n)::vI (tk n)::vI (pt n)::vI (us n)::TB.drop (n*4+4):=by
   have:=List.take_append_drop 4 (TB.drop (n*4))
   rw [hrn,List.drop_drop] at this
   exact this.symm
  have hd1:TB[n*4+1]?=some (vI (tk n)):=by
   have:(TB.drop (n*4))[1]?=TB[n*4+1]?:=by rw [List.getElem?_drop]
   rw [←this,hd0];rfl
  have hd2:TB[n*4+2]?=some (vI (pt n)):=by
   have:(TB.drop (n*4))[2]?=TB[n*4+2]?:=by rw [List.getElem?_drop]
   rw [←this,hd0];rfl
  have e5:IntKind.i64.wrap ((k:Int)+1)=(k:Int)+1:=wrap64 (by omega) (by omega)
  have htk:B6 (ins.take (k+1))=Aq (B6 (ins.take k)) ins[k]:=by rw [Ag hx,Di]
  generalize B6 (ins.take k)=o at *
  have hbl:((o.flatMap Ins.c).map V.t).length=o.length*3:=by
   clear htk hfl
   induction o with
   | nil=>rfl
   | cons y o ih=>simp only [List.flatMap_cons,List.map_append,List.length_append,ih,List.length_cons,Nat.succ_mul];simp;omega
  simp only [A35]
  generalize hbv:(o.flatMap Ins.c).map V.t=bv at *
  ((try simp -implicitDefEqProofs [h,h',gz,g1,s0,s1,a0,a1,a2,a2',hbl,hn,hd1,hd2]);repeat' first|((with_reducible first|apply A5|apply A6|apply A3)<;>(intro hc;have hc':=hc;(try simp at hc');simp -implicitDefEqProofs [hc,hc',h,h',gz,g1,s0,s1,a0,a1,a2,a2',hbl,hn,hd1,hd2])))
  refine⟨⟨by unfold maxLen;omega,by omega⟩,by omega,by omega,by omega,by omega,?_⟩
  have e6:IntKind.i64.wrap (o.length:Int)=(o.length:Int):=wrap64 (by omega) (by omega)
  have hmore:=hA.more [.dead,.dead] (by simp)
  have htb:bv.take (o.length*3)=bv:=List.take_of_length_le (by omega)
  have hokx : ∀(a b:Nat) (q:List Ins),okNs a b ((q.flatMap Ins.c).map V.t)=true:=fun a b q=>Dq a b _
  rcases (by omega:pt n=0∨¬pt n=0) with p0|p0
  ·have hst:Aq o ins[k]=o++[ins[k]]:=by unfold Aq;simp only [];rw [if_pos (.inl (by rw [hn];exact p0))]
   have p1:(pt n==0)=true:=by simpa using p0
   ((try simp -implicitDefEqProofs [p1,e5,e6]);repeat' first|((with_reducible first|apply A5|apply A6|apply A3)<;>(intro hc;have hc':=hc;(try simp at hc');simp -implicitDefEqProofs [hc,hc',p1,e5,e6])))
   refine⟨k+1,A++[.dead,.dead],⟨by omega,hmore⟩,by omega,?_⟩
   rw [htk,hst]
   rw [htb,←hbv,List.append_assoc]
   simp only [Aa.app9 (hA.le _ _)]
   refine⟨⟨trivial,trivial,⟨rfl,rfl,?_,hokx _ _ _⟩,trivial⟩,by simp,by simp,?_,by push_cast;rfl⟩
   ·simp [hn]
   ·simp
  have p1:(pt n==0)=false:=by simpa using p0
  rcases (by omega:tk n=0∨¬tk n=0) with t0|t0
  ·have hst:Aq o ins[k]=o++[ins[k]]:=by unfold Aq;simp only [];rw [if_pos (.inr (.inl (by rw [hn,t0];rfl)))]
   have t1:(tk n==0)=true:=by simpa using t0
   ((try simp -implicitDefEqProofs [p1,t1,e5,e6]);repeat' first|((with_reducible first|apply A5|apply A6|apply A3)<;>(intro hc;have hc':=hc;(try simp at hc');simp -implicitDefEqProofs [hc,hc',p1,t1,e5,e6])))
   refine⟨k+1,A++[.dead,.dead],⟨by omega,hmore⟩,by omega,?_⟩
   rw [htk,hst]
   rw [htb,←hbv,List.append_assoc]
   simp only [Aa.app9 (hA.le _ _)]
   refine⟨⟨trivial,trivial,⟨rfl,rfl,?_,hokx _ _ _⟩,trivial⟩,by simp,by simp,?_,by push_cast;rfl⟩
   ·simp [hn]
   ·simp
  have t1:(tk n==0)=false:=by simpa using t0
  rcases (by omega:(o.length:Int)<tk n∨tk n≤(o.length:Int)) with l0|l0
  ·have hst:Aq o ins[k]=o++[ins[k]]:=by unfold Aq;simp only [];rw [if_pos (.inr (.inr (by rw [hn];omega)))]
   ((try simp -implicitDefEqProofs [p1,t1,l0,e5,e6]);repeat' first|((with_reducible first|apply A5|apply A6|apply A3)<;>(intro hc;have hc':=hc;(try simp at hc');simp -implicitDefEqProofs [hc,hc',p1,t1,l0,e5,e6])))
   refine⟨k+1,A++[.dead,.dead],⟨by omega,hmore⟩,by omega,?_⟩
   rw [htk,hst]
   rw [htb,←hbv,List.append_assoc]
   simp only [Aa.app9 (hA.le _ _)]
   refine⟨⟨trivial,trivial,⟨rfl,rfl,?_,hokx _ _ _⟩,trivial⟩,by simp,by simp,?_,by push_cast;rfl⟩
   ·simp [hn]
   ·simp
  have l1 : ¬(o.length:Int)<tk n:=by omega
  have e7:IntKind.i64.wrap ((o.length:Int)-tk n)=(o.length:Int)-tk n:=wrap64 (by omega) (by omega)
  obtain⟨t,ht⟩ : ∃t:Nat,tk n=t:=⟨(tk n).toNat,by omega⟩
  rw [ht] at hd1 hpk t0 t1 l0 l1 e7
  have htr:1≤t∧t≤2:=by omega
  have htl2:t≤o.length:=by omega
  obtain⟨m,hm'⟩ : ∃m:Nat,(o.length:Int)-(t:Int)=(m:Int):=⟨o.length-t,by omega⟩
  have hmo:o.length-t=m:=by omega
  rw [hm'] at e7
  have lt1:(m:Int)<(o.length:Int):=by omega
  have lt2:(o.length:Int)-(m:Int)=(t:Int):=by omega
  obtain⟨q,hq⟩ : ∃q,o.drop m=q:=⟨_,rfl⟩
  have hql:q.length=t:=by rw [←hq,List.length_drop];omega
  have hqi : ∀j (hj:j<q.length),q[j]=o[m+j]'(by omega):=fun j hj=>by subst hq;simp
  obtain⟨cx,hcx⟩ : ∃cx,cx=bv++[vI n,vI ins[k].a,vI ins[k].b]:=⟨_,rfl⟩
  have hrow2 : ∀j (hj:j<q.length),(cx.drop (m*3+j*3)).take 3=[vI q[j].op,vI q[j].a,vI q[j].b]∧m*3+j*3+3≤cx.length:=fun j hj=>by
   have:=Vg o [vI n,vI ins[k].a,vI ins[k].b] (m+j) (by omega)
   rw [hbv,←hcx,Nat.add_mul] at this
   refine⟨by rw [this,hqi j hj],?_⟩
   rw [hcx,List.length_append,hbl]
   simp
   omega
  have hcl:cx.length=o.length*3+3:=by rw [hcx,List.length_append,hbl];rfl
  have hS2:OkS ⟨A++[.dead,.cells [vI n,vI ins[k].a,vI ins[k].b],.buf 93 3 cx],[]⟩:=by
   refine⟨(Aa.app9 (hA.le _ _)).2 ⟨trivial,⟨A4 _,rfl⟩,⟨rfl,rfl,A4 _,?_⟩,trivial⟩,trivial⟩
   rw [hcx,←hbv]
   have:=Dq (A.length+3) 0 ((o.flatMap Ins.c)++[tI n,tI ins[k].a,tI ins[k].b])
   simpa using this
  have hcf:=A7g ⟨A++[.dead,.cells [vI n,vI ins[k].a,vI ins[k].b],.buf 93 3 cx],[]⟩ hS2 (A.length+2) (m*3) 3 93 cx (by rw [g1];rfl) q (by omega) (fun j hj=>by
   have:=hrow2 j hj
   exact this)
  rw [hql] at hcf
  ((try simp -implicitDefEqProofs [p1,t1,l1,e5,e6,e7,ht,hm',lt1,lt2,htb]);repeat' first|((with_reducible first|apply A5|apply A6|apply A3)<;>(intro hc;have hc':=hc;(try simp at hc');simp -implicitDefEqProofs [hc,hc',p1,t1,l1,e5,e6,e7,ht,hm',lt1,lt2,htb])))
  refine⟨by omega,?_⟩
  rw [←hcx]
  refine Lr hcf (fun h=>by cases h) ?_
  cases hany:q.any fun y=>y.op != 1
  ·rcases (by omega:t=1∨t=2) with rfl|rfl
   ·obtain⟨q0,rfl⟩:=List.length_eq_one_iff.1 hql
    have hr0:=(hrow2 0 (by simp)).1
    have hc1:cx[m*3+1]?=some (vI q0.a):=by
     have h9:((cx.drop (m*3+0*3)).take 3)[1]?=cx[m*3+1]?:=by simp
     rw [←h9,hr0];rfl
    have hcl1:m*3+1+1≤cx.length:=by omega
    have hg1 : ∀h:m*3+1<cx.length,cx[m*3+1]'h=vI q0.a:=fun h=>by
     rw [List.getElem?_eq_getElem h] at hc1
     exact Option.some.inj hc1
    have hop:=Qv n ins[k].a q0.a 0
    obtain⟨rv,rb,hrr⟩ : ∃rv rb,opC n ins[k].a q0.a 0=(rv,rb):=⟨_,_,rfl⟩
    rw [hrr] at hop
    have hst:Aq o ins[k]=if rb=true then o.take m++[⟨1,rv,0⟩] else o++[ins[k]]:=by
     unfold Aq Nx
     simp only []
     rw [hn,ht]
     simp only [Int.toNat_natCast,hmo,hq,hany,Bool.false_eq_true,if_false]
     rw [if_neg (by omega)]
     simp [hrr]
    simp only [vO] at hop
    have e8:IntKind.i64.wrap ((o.length:Int)-1)=(m:Int):=by rw [show (o.length:Int)-1=(m:Int) from hm'];exact e7
    have hctk:cx.take (m*3)=((o.take m).flatMap Ins.c).map V.t:=by rw [hcx,←hbv];exact P7 o _ m (by omega)
    have htm:(o.take m).length=m:=by rw [List.length_take];omega
    cases rb
    ·((try simp at hop);(try simp -implicitDefEqProofs [g1,hc1,hg1,hcl1,e5,e8]);repeat' first|((with_reducible first|apply A5|apply A6|apply A3)<;>(intro hc;have hc':=hc;(try simp at hc');simp -implicitDefEqProofs [hc,hc',g1,hc1,hg1,hcl1,e5,e8]))|(with_reducible apply A0<;>first|(simp only [eras,era,A1];first|with_reducible assumption)|(simp -implicitDefEqProofs [g1,hc1,hg1,hcl1,e5,e8])))
     refine⟨k+1,A++[.dead,.dead],⟨by omega,hmore⟩,by omega,?_⟩
     rw [htk,hst,if_neg (by simp)]
     rw [hcx,←hbv,List.append_assoc]
     simp only [Aa.app9 (hA.le _ _)]
     refine⟨⟨trivial,trivial,⟨rfl,rfl,?_,hokx _ _ _⟩,trivial⟩,by simp,by simp,?_,by push_cast;rfl⟩
     ·simp [hn]
     ·simp
    ·((try simp at hop);(try simp -implicitDefEqProofs [g1,hc1,hg1,hcl1,e5,e8]);repeat' first|((with_reducible first|apply A5|apply A6|apply A3)<;>(intro hc;have hc':=hc;(try simp at hc');simp -implicitDefEqProofs [hc,hc',g1,hc1,hg1,hcl1,e5,e8]))|(with_reducible apply A0<;>first|(simp only [eras,era,A1];first|with_reducible assumption)|(simp -implicitDefEqProofs [g1,hc1,hg1,hcl1,e5,e8])))
     refine⟨by omega,⟨by omega,by unfold maxLen;omega,by omega⟩,k+1,A++[.dead,.dead,.dead],⟨by omega,hA.more [.dead,.dead,.dead] (by simp)⟩,by omega,?_⟩
     rw [htk,hst,if_pos rfl]
     rw [hctk,List.append_assoc]
     simp only [Aa.app9 (hA.le _ _)]
     refine⟨⟨trivial,trivial,trivial,⟨rfl,rfl,?_,hokx _ _ _⟩,trivial⟩,by simp,by simp,?_,by push_cast;rfl⟩
     ·simp
     ·simp [htm]
   ·obtain⟨q0,q1,rfl⟩ : ∃q0 q1,q=[q0,q1]:=by
     match q,hql with
     | [a,b],_=>exact⟨a,b,rfl⟩
    have hr0:=(hrow2 0 (by simp)).1
    have hc1:cx[m*3+1]?=some (vI q0.a):=by
     have h9:((cx.drop (m*3+0*3)).take 3)[1]?=cx[m*3+1]?:=by simp
     rw [←h9,hr0];rfl
    have hcl1:m*3+1+1≤cx.length:=by omega
    have hg1 : ∀h:m*3+1<cx.length,cx[m*3+1]'h=vI q0.a:=fun h=>by
     rw [List.getElem?_eq_getElem h] at hc1
     exact Option.some.inj hc1
    have hr1:=(hrow2 1 (by simp)).1
    have hd1':cx[m*3+3+1]?=some (vI q1.a):=by
     have h9:((cx.drop (m*3+1*3)).take 3)[1]?=cx[m*3+3+1]?:=by simp
     rw [←h9,hr1];rfl
    have hdl1:m*3+3+1+1≤cx.length:=by omega
    have hg2 : ∀h:m*3+3+1<cx.length,cx[m*3+3+1]'h=vI q1.a:=fun h=>by
     rw [List.getElem?_eq_getElem h] at hd1'
     exact Option.some.inj hd1'
    have hop:=Qv n ins[k].a q0.a q1.a
    obtain⟨rv,rb,hrr⟩ : ∃rv rb,opC n ins[k].a q0.a q1.a=(rv,rb):=⟨_,_,rfl⟩
    rw [hrr] at hop
    have hst:Aq o ins[k]=if rb=true then o.take m++[⟨1,rv,0⟩] else o++[ins[k]]:=by
     unfold Aq Nx
     simp only []
     rw [hn,ht]
     simp only [Int.toNat_natCast,hmo,hq,hany,Bool.false_eq_true,if_false]
     rw [if_neg (by omega)]
     simp [hrr]
    simp only [vO] at hop
    have e8:IntKind.i64.wrap ((o.length:Int)-2)=(m:Int):=by rw [show (o.length:Int)-2=(m:Int) from hm'];exact e7
    have hctk:cx.take (m*3)=((o.take m).flatMap Ins.c).map V.t:=by rw [hcx,←hbv];exact P7 o _ m (by omega)
    have htm:(o.take m).length=m:=by rw [List.length_take];omega
    cases rb
    ·((try simp at hop);(try simp -implicitDefEqProofs [g1,hc1,hg1,hcl1,hd1',hg2,hdl1,e5,e8]);repeat' first|((with_reducible first|apply A5|apply A6|apply A3)<;>(intro hc;have hc':=hc;(try simp at hc');simp -implicitDefEqProofs [hc,hc',g1,hc1,hg1,hcl1,hd1',hg2,hdl1,e5,e8]))|(with_reducible apply A0<;>first|(simp only [eras,era,A1];first|with_reducible assumption)|(simp -implicitDefEqProofs [g1,hc1,hg1,hcl1,hd1',hg2,hdl1,e5,e8])))
     refine⟨k+1,A++[.dead,.dead],⟨by omega,hmore⟩,by omega,?_⟩
     rw [htk,hst,if_neg (by simp)]
     rw [hcx,←hbv,List.append_assoc]
     simp only [Aa.app9 (hA.le _ _)]
     refine⟨⟨trivial,trivial,⟨rfl,rfl,?_,hokx _ _ _⟩,trivial⟩,by simp,by simp,?_,by push_cast;rfl⟩
     ·simp [hn]
     ·simp
    ·((try simp at hop);(try simp -implicitDefEqProofs [g1,hc1,hg1,hcl1,hd1',hg2,hdl1,e5,e8]);repeat' first|((with_reducible first|apply A5|apply A6|apply A3)<;>(intro hc;have hc':=hc;(try simp at hc');simp -implicitDefEqProofs [hc,hc',g1,hc1,hg1,hcl1,hd1',hg2,hdl1,e5,e8]))|(with_reducible apply A0<;>first|(simp only [eras,era,A1];first|with_reducible assumption)|(simp -implicitDefEqProofs [g1,hc1,hg1,hcl1,hd1',hg2,hdl1,e5,e8])))
     refine⟨by omega,⟨by omega,by unfold maxLen;omega,by omega⟩,k+1,A++[.dead,.dead,.dead],⟨by omega,hA.more [.dead,.dead,.dead] (by simp)⟩,by omega,?_⟩
     rw [htk,hst,if_pos rfl]
     rw [hctk,List.append_assoc]
     simp only [Aa.app9 (hA.le _ _)]
     refine⟨⟨trivial,trivial,trivial,⟨rfl,rfl,?_,hokx _ _ _⟩,trivial⟩,by simp,by simp,?_,by push_cast;rfl⟩
     ·simp
     ·simp [htm]
  ·have hst:Aq o ins[k]=o++[ins[k]]:=by
    unfold Aq Nx
    simp only []
    rw [hn,ht]
    simp only [Int.toNat_natCast,hmo,hq,hany,if_true]
    split<;>rfl
   ((try simp -implicitDefEqProofs [e5]);repeat' first|((with_reducible first|apply A5|apply A6|apply A3)<;>(intro hc;have hc':=hc;(try simp at hc');simp -implicitDefEqProofs [hc,hc',e5])))
   refine⟨k+1,A++[.dead,.dead],⟨by omega,hmore⟩,by omega,?_⟩
   rw [htk,hst]
   rw [hcx,←hbv,List.append_assoc]
   simp only [Aa.app9 (hA.le _ _)]
   refine⟨⟨trivial,trivial,⟨rfl,rfl,?_,hokx _ _ _⟩,trivial⟩,by simp,by simp,?_,by push_cast;rfl⟩
   ·simp [hn]
   ·simp
 ·have hke:k=ins.length:=by omega
  subst hke
  rw [List.take_length] at *
  generalize hfo:B6 ins=o at *
  have hbl:((o.flatMap Ins.c).map V.t).length=o.length*3:=by
   clear hfo hfl
   induction o with
   | nil=>rfl
   | cons y o ih=>simp only [List.flatMap_cons,List.map_append,List.length_append,ih,List.length_cons,Nat.succ_mul];simp;omega
  have a0' : ∀(l:List Bx) (h:0<(A++l).length),(A++l)[0]=.cells [vS cn,vB pair,Ins.l ins]:=fun l h=>by have:=a0 l;rw [List.getElem?_eq_getElem h] at this;exact Option.some.inj this
  have a1' : ∀(l:List Bx) (h:1<(A++l).length),(A++l)[1]=.cells [vS [],vB false,.snil]:=fun l h=>by have:=a1 l;rw [List.getElem?_eq_getElem h] at this;exact Option.some.inj this
  have t1 : ∀(l:List Bx) (v:Bx),(A++l).set 1 v=A.set 1 v++l:=fun l v=>by rw [List.set_append,if_pos (by omega)]
  have t2 : ∀(l:List Bx) (v:Bx),(A.set 1 v++l)[1]?=some v:=fun l v=>by rw [List.getElem?_append_left (by simp;omega),List.getElem?_set_self (by omega)]
  have t2' : ∀(l:List Bx) (v:Bx) (h:1<(A.set 1 v++l).length),(A.set 1 v++l)[1]=v:=fun l v h=>by have:=t2 l v;rw [List.getElem?_eq_getElem h] at this;exact Option.some.inj this
  have t3 : ∀(l:List Bx) (v:Bx),(A.set 1 v++l)[A.length]?=l[0]?:=fun l v=>by rw [List.getElem?_append_right (by simp)];simp
  have t4 : ∀(l:List Bx) (v u:Bx),(A.set 1 v++l).set A.length u=A.set 1 v++l.set 0 u:=fun l v u=>by rw [List.set_append,if_neg (by simp)];simp
  simp only [A35]
  generalize hbv:(o.flatMap Ins.c).map V.t=bv at *
  ((try simp -implicitDefEqProofs [gz,g1,s0,s1,a0,a1,a2,a2',a0',a1',t1,t2,t2',t3,t4,hbl]);repeat' first|((with_reducible first|apply A5|apply A6|apply A3)<;>(intro hc;have hc':=hc;(try simp at hc');simp -implicitDefEqProofs [hc,hc',gz,g1,s0,s1,a0,a1,a2,a2',a0',a1',t1,t2,t2',t3,t4,hbl])))
  have hbr:=A34 o
  rw [hbv] at hbr
  rw [hbr]
  exact .inl rfl
end Go.Proofs.YtmlpmdccfmmpoaaGreatDoor
