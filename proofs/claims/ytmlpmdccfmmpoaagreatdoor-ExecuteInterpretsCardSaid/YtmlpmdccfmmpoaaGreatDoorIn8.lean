/- Integers of any length: the reference's differences and products of limbs. -/
import Derived.Test.YtmlpmdccfmmpoaaGreatDoorExG
import Derived.Test.YtmlpmdccfmmpoaaGreatDoorIn5
import Derived.Test.YtmlpmdccfmmpoaaGreatDoorIn2
set_option linter.unusedSimpArgs false
set_option linter.unusedVariables false
set_option maxHeartbeats 4000000
set_option maxRecDepth 8000
namespace Go.Proofs.YtmlpmdccfmmpoaaGreatDoor
open E
theorem A5o (x:Item):A4 Tryz.prog 66 [x.v] (vB (!Ah x.amt)):=by
 obtain⟨i1,i2,i3,i4,i5,i6,i7⟩:=x
 have ha:=Tu i7
 (refine A4.of_code mix Tryz.call66 k_66 (by simp) (fun hB=>?_);(try simp at hB);(try simp -implicitDefEqProofs))
 ((try simp at ha);(try simp -implicitDefEqProofs);repeat' first|(with_reducible apply A0<;>first|(simp only [eras,era,A1];first|with_reducible assumption)|(simp -implicitDefEqProofs)))
def Eu (l:List Src) (k:Nat) (s:Src):Bool:=(decide (s.ent<0)||decide (12≤s.ent))||((decide (0<k)&&decide (s.ent≤(l.getD (k-1) ⟨0,false,0,0,[]⟩).ent))||s.items.any fun x=>!Ah x.amt)
theorem Nv (l:List Src):Ds l=(List.range l.length).all fun k=>!Eu l k (l.getD k ⟨0,false,0,0,[]⟩):=by
 rw [Bool.eq_iff_iff]
 constructor
 ·intro h
  have h1:=G7 h
  refine List.all_eq_true.2 fun k hk=>?_
  have hk:=List.mem_range.1 hk
  have hm:l.getD k ⟨0,false,0,0,[]⟩∈l:=by rw [List.getD_eq_getElem?_getD,List.getElem?_eq_getElem hk];exact List.getElem_mem hk
  obtain⟨q1,q2,q3⟩:=Et h hm
  unfold Eu
  have e3:((l.getD k ⟨0,false,0,0,[]⟩).items.any fun x=>!Ah x.amt)=false:=by
   rw [List.any_eq_false];intro x hx;simp [q3 x hx]
  rw [e3]
  have e1:decide ((l.getD k ⟨0,false,0,0,[]⟩).ent<0)=false:=by simpa using q1
  have e2:decide (12≤(l.getD k ⟨0,false,0,0,[]⟩).ent)=false:=by simpa using q2
  rw [e1,e2]
  rcases Nat.eq_zero_or_pos k with k0|k0
  ·subst k0;simp
  ·have:=List.pairwise_iff_getElem.1 h1 (k-1) k (by omega) hk (by omega)
   simp only [List.getD_eq_getElem?_getD,List.getElem?_eq_getElem hk,List.getElem?_eq_getElem (show k-1<l.length by omega),Option.getD_some]
   simp;omega
 ·intro h
  rw [X5]
  have hb : ∀k (hk:k<l.length),Eu l k l[k]=false:=fun k hk=>by
   have:=List.all_eq_true.1 h k (List.mem_range.2 hk)
   simpa [List.getD_eq_getElem?_getD,hk] using this
  constructor
  ·intro s hs
   obtain⟨k,hk,rfl⟩:=List.mem_iff_getElem.1 hs
   have:=hb k hk
   unfold Eu at this
   simp only [Bool.or_eq_false_iff,decide_eq_false_iff_not] at this
   refine⟨by omega,by omega,fun x hx=>?_⟩
   have h3:=List.any_eq_false.1 this.2.2 x hx
   simpa using h3
  ·apply G6
   intro i x y hx hy
   obtain⟨h1,rfl⟩:=List.getElem?_eq_some_iff.1 hy
   obtain⟨h2,rfl⟩:=List.getElem?_eq_some_iff.1 hx
   have:=hb (i+1) h1
   unfold Eu at this
   simp only [Bool.or_eq_false_iff,decide_eq_false_iff_not] at this
   have h3:=this.2.1
   simp [List.getD_eq_getElem?_getD,h2] at h3
   exact h3
theorem Xc {l:List Src} (h:Ds l=true):l.length≤12:=by
 have h1:=G7 h
 have key : ∀k (hk:k<l.length),(k:Int)≤l[k].ent:=by
  intro k
  induction k with
  | zero=>intro hk;exact (Et h (List.getElem_mem hk)).1
  | succ k ih=>
   intro hk
   have h2:=ih (by omega)
   have h3:=List.pairwise_iff_getElem.1 h1 k (k+1) (by omega) hk (by omega)
   push_cast;omega
 rcases Nat.lt_or_ge 12 l.length with h2|h2
 ·have h3:=key 12 h2
  have h4:=(Et h (List.getElem_mem h2)).2.1
  omega
 ·exact h2
theorem Ri (l:List Src) (hl:l.length≤1000000):A4 Tryz.prog 28 [Src.l l] (vB (Ds l)):=by
 obtain⟨R,hR⟩ : ∃R,R=Ds l:=⟨_,rfl⟩
 rw [←hR]
 have hok:=Nv l
 rw [←hR] at hok
 have hcon : ∀it:List Item,A4 Tryz.prog 65 [Item.l it,.fn (.func 66) []] (vB (it.any fun x=>!Ah x.amt)):=fun it=>Rf St0 A1q it 66 [] rfl (fun x=>!Ah x.amt) (fun x _=>A5o x)
 (refine A4.of_code mix Tryz.call28 k_28 (by simp) (fun hB=>?_);(try simp at hB);(try simp -implicitDefEqProofs))
 (try simp -implicitDefEqProofs)
 refine A9 (X:=Nat) (fun k=>k≤l.length∧∀j,j<k→Eu l j (l.getD j ⟨0,false,0,0,[]⟩)=false) (fun k=>[(0,Src.l l),(5,Src.l l),(6,vI l.length),(7,vI k)]) (fun _=>⟨[],[]⟩) (fun k=>l.length-k) 0 ⟨by omega,fun j h=>by omega⟩ ?hs ?_
 case hs=>simp [Src.l,okN]
 rintro k ⟨hk,hb⟩ hbd
 clear hbd
 have e3:IntKind.i64.wrap ((k:Int)+1)=(k:Int)+1:=wrap64 (by omega) (by omega)
 have e4:IntKind.i64.wrap ((k:Int)-1)=(k:Int)-1:=wrap64 (by omega) (by omega)
 rcases Nat.lt_or_ge k l.length with h|h
 ·obtain⟨s,hs⟩:=Ad h
  have hgd:l.getD k ⟨0,false,0,0,[]⟩=s:=by rw [List.getD_eq_getElem?_getD,hs];rfl
  have hsc:(l.map Src.c)[k]?=some s.c:=by simp [hs]
  have hsc' : ∀h,(l.map Src.c)[k]'h=s.c:=fun h=>by rw [List.getElem?_eq_getElem h] at hsc;exact Option.some.inj hsc
  have hcc:s.c=[.int .i64 s.ent,.bool s.full,.bool (nB s.num),.sl (pE s.num),.bool (nB s.den),.sl (pE s.den),.sl (s.items.map Item.c)]:=rfl
  rw [hcc] at hsc hsc'
  have hfail:Eu l k s=true→R=false:=fun hq=>by
   rw [hok,List.all_eq_false]
   exact⟨k,List.mem_range.2 h,by rw [hgd,hq];simp⟩
  have hnext:Eu l k s=false→∀j,j<k+1→Eu l j (l.getD j ⟨0,false,0,0,[]⟩)=false:=fun hq j hj=>by
   rcases Nat.lt_or_ge j k with h1|h1
   ·exact hb j h1
   ·have:j=k:=by omega
    subst this;rw [hgd];exact hq
  have hcon1:=hcon s.items
  by_cases c1:s.ent<0
  ·have hf:=hfail (by simp [Eu,c1])
   rw [hf]
   (try simp -implicitDefEqProofs [h,hsc,hsc',Src.l,c1])
  by_cases c2:12≤s.ent
  ·have hf:=hfail (by simp [Eu,c2])
   rw [hf]
   (try simp -implicitDefEqProofs [h,hsc,hsc',Src.l,c1,c2])
  have hrest:Eu l k s=((decide (0<k)&&decide (s.ent≤(l.getD (k-1) ⟨0,false,0,0,[]⟩).ent))||s.items.any fun x=>!Ah x.amt):=by
   unfold Eu
   have d1:decide (s.ent<0)=false:=by simpa using c1
   have d2:decide (12≤s.ent)=false:=by simpa using c2
   rw [d1,d2];rfl
  rcases Nat.eq_zero_or_pos k with k0|k0
  ·subst k0
   cases ha:(s.items.any fun x=>!Ah x.amt)
   ·have hn:=hnext (by rw [hrest,ha];rfl)
    rw [ha] at hcon1
    ((try simp at hcon1);(try simp -implicitDefEqProofs [h,hsc,hsc',Src.l,c1,c2]);repeat' first|(with_reducible apply A0<;>first|(simp only [eras,era,A1];first|with_reducible assumption)|(simp -implicitDefEqProofs [h,hsc,hsc',Src.l,c1,c2])))
    exact⟨1,⟨by omega,by simpa [List.getD_eq_getElem?_getD] using hn⟩,by omega,rfl⟩
   ·rw [hfail (by rw [hrest,ha];simp)]
    rw [ha] at hcon1
    ((try simp at hcon1);(try simp -implicitDefEqProofs [h,hsc,hsc',Src.l,c1,c2]);repeat' first|(with_reducible apply A0<;>first|(simp only [eras,era,A1];first|with_reducible assumption)|(simp -implicitDefEqProofs [h,hsc,hsc',Src.l,c1,c2])))
  ·obtain⟨q,hq⟩:=Ad (show k-1<l.length by omega)
   have hgq:l.getD (k-1) ⟨0,false,0,0,[]⟩=q:=by rw [List.getD_eq_getElem?_getD,hq];rfl
   rw [hgq] at hrest
   have hqc:(l.map Src.c)[k-1]?=some q.c:=by simp [hq]
   have hqc' : ∀h,(l.map Src.c)[k-1]'h=q.c:=fun h=>by rw [List.getElem?_eq_getElem h] at hqc;exact Option.some.inj hqc
   have hqq:q.c=[.int .i64 q.ent,.bool q.full,.bool (nB q.num),.sl (pE q.num),.bool (nB q.den),.sl (pE q.den),.sl (q.items.map Item.c)]:=rfl
   rw [hqq] at hqc hqc'
   have i1:((k:Int)-1).toNat=k-1:=by omega
   have j1:(1:Int)≤k:=by omega
   have j2:(k:Int)-1<l.length:=by omega
   have d0:decide (0<k)=true:=by simpa using k0
   rw [d0,Bool.true_and] at hrest
   by_cases c3:s.ent≤q.ent
   ·rw [hfail (by rw [hrest];simp [c3])]
    (try simp -implicitDefEqProofs [h,hsc,hsc',hqc,hqc',Src.l,c1,c2,k0,i1,j1,j2,e4,c3])
   ·have d3:decide (s.ent≤q.ent)=false:=by simpa using c3
    rw [d3,Bool.false_or] at hrest
    cases ha:(s.items.any fun x=>!Ah x.amt)
    ·have hn:=hnext (by rw [hrest,ha])
     rw [ha] at hcon1
     ((try simp at hcon1);(try simp -implicitDefEqProofs [h,hsc,hsc',hqc,hqc',Src.l,c1,c2,k0,i1,j1,j2,e4,c3,e3]);repeat' first|(with_reducible apply A0<;>first|(simp only [eras,era,A1];first|with_reducible assumption)|(simp -implicitDefEqProofs [h,hsc,hsc',hqc,hqc',Src.l,c1,c2,k0,i1,j1,j2,e4,c3,e3])))
     exact⟨k+1,⟨by omega,by simpa [List.getD_eq_getElem?_getD] using hn⟩,by omega,by push_cast;rfl⟩
    ·rw [hfail (by rw [hrest,ha])]
     rw [ha] at hcon1
     ((try simp at hcon1);(try simp -implicitDefEqProofs [h,hsc,hsc',hqc,hqc',Src.l,c1,c2,k0,i1,j1,j2,e4,c3]);repeat' first|(with_reducible apply A0<;>first|(simp only [eras,era,A1];first|with_reducible assumption)|(simp -implicitDefEqProofs [h,hsc,hsc',hqc,hqc',Src.l,c1,c2,k0,i1,j1,j2,e4,c3])))
 ·have hkk:k=l.length:=by omega
  subst hkk
  have hRt:R=true:=by
   rw [hok]
   exact List.all_eq_true.2 fun j hj=>by rw [hb j (List.mem_range.1 hj)];rfl
  have h12:(l.length:Int)≤12:=by have:=Xc (by rw [←hR];exact hRt);omega
  have h12':l.length≤12:=by omega
  rw [hRt]
  (try simp -implicitDefEqProofs [Src.l,h12,h12'])
theorem Kn : ∀(a:List (Option Posting)) (o:List Posting),Ax o a=match Ch a with
  | some q=>(o++q,0)
  | none=>((Ax o a).1,2)
 | [],o=>by simp [Ax,Ch]
 | none::a,o=>by simp [Ax,Ch]
 | some p::a,o=>by
  have ih:=Kn a (if p.parts=[] then o else o++[p])
  simp only [Ax,Ch]
  rw [ih]
  cases Ch a with
  | none=>simp
  | some q=>by_cases h:p.parts=[]<;>simp [h]
def Xd (r:Option (List Posting)):List Posting×Int:=match r with
 | some q=>(q,0)
 | none=>([],2)
theorem P1 {c:List Code} {l:List Src} (h1:Ds l=true) (h2:(c.all fun x=>(C4 x).2)=true):G8 c l=Xd (K0 c l):=by
 unfold G8 Xd
 rw [if_pos ⟨h1,h2⟩]
 cases K0 c l<;>rfl
theorem Mg (a:List (Option Posting)):U1 (Ax [] a)=Xd (Ch a):=by
 rw [Kn]
 cases Ch a<;>simp [U1,Xd]
theorem K2 (c:List Code) (l:List Src):Ch (H6 (fun i s o=>Cx (c.getD i ⟨[],false,[]⟩) s o i) l (fun i=>(c.getD i ⟨[],false,[]⟩).pair) (List.range c.length))=K0 c l:=by
 rw [X4]
 unfold H6
 congr 1
 congr 1
 funext i
 exact (X9 (fun s o=>Cx (c.getD i ⟨[],false,[]⟩) s o i) l (c.getD i ⟨[],false,[]⟩).pair).symm
theorem Zy (c:Code) (hlen:c.ins.length≤1000000):A4 Tryz.prog 48 [c.v] (vB (C4 c).2):=by
 have hm:=A7r c hlen
 generalize C4 c=r at *
 obtain⟨n,ok⟩:=r
 obtain⟨cn,pair,ins⟩:=c
 simp only [vO] at hm
 (refine A4.of_code mix Tryz.call48 k_48 (by simp) (fun hB=>?_);(try simp at hB);(try simp -implicitDefEqProofs))
 ((try simp at hm);(try simp -implicitDefEqProofs);repeat' first|(with_reducible apply A0<;>first|(simp only [eras,era,A1];first|with_reducible assumption)|(simp -implicitDefEqProofs)))
theorem A5p (c:Code) (hlen:c.ins.length≤1000000):A4 Tryz.prog 54 [c.v] (vB (!(C4 c).2)):=by
 have hv:=Zy c hlen
 obtain⟨cn,cp,ins⟩:=c
 (refine A4.of_code mix Tryz.call54 k_54 (by simp) (fun hB=>?_);(try simp at hB);(try simp -implicitDefEqProofs))
 ((try simp at hv);(try simp -implicitDefEqProofs);repeat' first|(with_reducible apply A0<;>first|(simp only [eras,era,A1];first|with_reducible assumption)|(simp -implicitDefEqProofs)))
theorem A5q (cs:List Code) (i:Nat) (c:Code) (hc:cs[i]?=some c) (cb:Nat) (S:St) (hS:OkT S) (hcb:S.boxes[cb]?=some (.cells [Code.l cs])):FnS Tryz.prog 55 [vI i,.ptr cb 0] S (vB c.pair) S:=by
 have hci:=A6 hc
 have hcc:(cs.map Code.c)[i]?=some c.c:=by simp [hc]
 have hcc' : ∀h,(cs.map Code.c)[i]'h=c.c:=fun h=>by rw [List.getElem?_eq_getElem h] at hcc;exact Option.some.inj hcc
 obtain⟨cn,cp,ins⟩:=c
 have hS':=hS.S
 simp [OkS] at hS'
 (refine FnS.of_code mix Tryz.call55 k_55 (by simp) (fun hB=>?_);(try simp at hB);(try simp -implicitDefEqProofs))
 (try simp -implicitDefEqProofs [hcb,hcc,hcc',Code.l,Code.c,hci,hS'])
theorem A5r (cs:List Code) (l:List Src) (hl:l.length≤13) (hc:cs.length≤100) (hci : ∀c∈cs,c.ins.length≤8000) (hs : ∀s∈l,s.num.natAbs≤100000∧0<s.den∧s.den≤100000∧s.items.length≤1000) :
  A4 Tryz.prog 22 [Code.l cs,Src.l l] (psV (G8 cs l)):=by
 have hv:=Ri l (by omega)
 have hcon:A4 Tryz.prog 53 [Code.l cs,.fn (.func 54) []] (vB (cs.any fun c=>!(C4 c).2)):=Rh St0 A1q cs 54 [] rfl (fun c=>!(C4 c).2) (fun c hm=>A5p c (by have:=hci c hm;omega))
 cases h1:Ds l
 ·rw [h1] at hv
  unfold G8
  rw [if_neg (by simp [h1])]
  unfold Src.l at hv ⊢
  (refine A4.of_code mix Tryz.call22 k_22 (by simp) (fun hB=>?_);(try simp at hB);(try simp -implicitDefEqProofs))
  ((try simp at hv);(try simp -implicitDefEqProofs [psV]);repeat' first|(with_reducible apply A0<;>first|(simp only [eras,era,A1];first|with_reducible assumption)|(simp -implicitDefEqProofs [psV])))
 ·rw [h1] at hv
  cases h2:(cs.any fun c=>!(C4 c).2)
  ·rw [h2] at hcon
   have hall:(cs.all fun x=>(C4 x).2)=true:=by
    rw [List.all_eq_true];intro x hx
    have:=List.any_eq_false.1 h2 x hx
    simpa using this
   rw [P1 h1 hall]
   have hcol:=Nu 55 56 [.ptr 0 0] [.ptr 0 0] [.cells [Code.l cs]] (fun n m hn=>⟨⟨A5 _,rfl⟩,trivial⟩) l cs.length (fun i=>(cs.getD i ⟨[],false,[]⟩).pair) (fun i s o=>Cx (cs.getD i ⟨[],false,[]⟩) s o i) hl hc rfl (fun k m hk=>by simp [okNs,okN];simp at hk;omega) (fun k m hk=>by simp [okNs,okN];simp at hk;omega)
    (fun i C tk hi hT=>by
     obtain⟨c,hx⟩:=Ad hi
     have e:cs.getD i ⟨[],false,[]⟩=c:=by rw [List.getD_eq_getElem?_getD,hx];rfl
     rw [e]
     exact A5q cs i c hx 0 _ hT rfl)
    (fun i C tk b mb s oth hi hsm hf hp hT hb hmb=>by
     obtain⟨c,hx⟩:=Ad hi
     have e:cs.getD i ⟨[],false,[]⟩=c:=by rw [List.getD_eq_getElem?_getD,hx];rfl
     rw [e] at hp ⊢
     have hcm:c∈cs:=List.mem_of_getElem? hx
     obtain⟨q1,q2,q3,q4⟩:=hs s hsm
     have q5:=(Et h1 hsm).2.2
     exact A5m 0 b mb i cs c _ hT s oth ⟨q1,q2,q3,q4,q5⟩ rfl hx hb hmb (List.all_eq_true.1 hall c hcm) (hci c hcm) (fun hpp=>by
      rw [if_pos hpp] at hp
      obtain⟨t,ht1,_,ht3,_⟩:=hp
      rw [←ht3];exact (Et h1 ht1).1))
   rw [Mg,K2] at hcol
   generalize Xd (K0 cs l)=W at *
   obtain⟨w1,w2⟩:=W
   unfold psV Src.l at hcol ⊢
   unfold Src.l at hv
   (refine A4.of_code mix Tryz.call22 k_22 (by simp) (fun hB=>?_);(try simp at hB);(try simp -implicitDefEqProofs))
   ((try simp at hv hcon);(try simp -implicitDefEqProofs);repeat' first|(with_reducible apply A0<;>first|(simp only [eras,era,A1];first|with_reducible assumption)|(simp -implicitDefEqProofs)))
   refine Ac hcol ?_
   (try simp -implicitDefEqProofs)
  ·rw [h2] at hcon
   unfold G8
   rw [if_neg (fun h=>by
    obtain⟨x,hx,hq⟩:=List.any_eq_true.1 h2
    have:=List.all_eq_true.1 h.2 x hx
    rw [this] at hq;cases hq)]
   unfold Src.l at hv ⊢
   (refine A4.of_code mix Tryz.call22 k_22 (by simp) (fun hB=>?_);(try simp at hB);(try simp -implicitDefEqProofs))
   ((try simp at hv hcon);(try simp -implicitDefEqProofs [psV]);repeat' first|(with_reducible apply A0<;>first|(simp only [eras,era,A1];first|with_reducible assumption)|(simp -implicitDefEqProofs [psV])))
theorem A5s (x y:Nat) (hxl:(Aa b4 x).length≤1000) (hyl:(Aa b4 y).length≤1000):A4 Tryz.prog 183 [.t (lT .i64 (Aa b4 x)),.t (lT .i64 (Aa b4 y))] (.t (lT .i64 (Hp b4 x y))):=by
 have hx:=Ap B1 x
 have hy:=Ap B1 y
 have hlx:=An B1 x
 have hly:=An B1 y
 have hst:=Yy B1 x y
 have hf1 : ∀o:List Nat,Lim b4 o→o.length=max (Aa b4 x).length (Aa b4 y).length→lvl b4 o=x+y→Hp b4 x y=o:=fun o h1 h2 h3=>by
  have:=Ou (c:=0) B1 h1 h2 (by omega) (by rw [h3];simp)
  rwa [if_pos rfl] at this
 have hf2 : ∀o:List Nat,Lim b4 o→o.length=max (Aa b4 x).length (Aa b4 y).length+1→lvl b4 o=x+y→b4 ^ max (Aa b4 x).length (Aa b4 y).length≤x+y→Hp b4 x y=o:=fun o h1 h2 h3 h4=>by
  unfold Hp
  simp only []
  rw [if_neg (by omega)]
  exact (Lz I7 h1 h2 h3).symm
 unfold lT
 generalize Hp b4 x y=R at *
 generalize Aa b4 x=a at *
 generalize Aa b4 y=b at *
 obtain⟨m,hm⟩ : ∃m,m=max a.length b.length:=⟨_,rfl⟩
 rw [←hm] at hst hf1 hf2
 have ham:a.length≤m:=by omega
 have hbm:b.length≤m:=by omega
 have hm1:m≤1000:=by omega
 have hma:m=a.length∨m=b.length:=by omega
 clear hm
 (refine A4.of_code mix Tryz.call183 k_183 (by simp) (fun hB=>?_);(try simp at hB);(try simp -implicitDefEqProofs))
 refine Av [(.slot 5,3,1)] (X:=List Nat×Nat) (fun X=>Lim b4 X.1∧X.2≤1∧X.1.length≤m+1∧lvl b4 X.1+X.2*b4 ^ X.1.length=lvl b4 (a.take X.1.length)+lvl b4 (b.take X.1.length)∧(X.1.length=m+1→b4 ^ m≤x+y))
  (fun X=>[(0,.t (.sl (lE .i64 a))),(1,.t (.sl (lE .i64 b))),(5,.own 0 3 1 (lE .i64 X.1)),(6,vI X.2),(7,vI X.1.length)]) (fun X=>⟨[],[X.1.length]⟩) (fun X=>m+1-X.1.length) ([],0) ⟨(fun x hx=>by simp at hx),by simp,by simp,by simp [lvl],by simp⟩ ?hs ?_
 case hs=>simp [Dh]
 rintro ⟨o,c⟩ ⟨ho,hc,hol,he,hm2⟩ hbd
 simp only [] at ho hc hol he hm2
 clear hbd
 have e3:IntKind.i64.wrap ((o.length:Int)+1)=(o.length:Int)+1:=wrap64 (by omega) (by omega)
 have hcb:c*b4 ^ o.length=c*b4 ^ o.length:=rfl
 have step : ∀u v n q d:Nat,n=c+u+v→q=n / b4→d=n % b4→u<b4→v<b4→o.length≤m→(o.length=m→b4 ^ m≤x+y)→
   lvl b4 (a.take (o.length+1))=lvl b4 (a.take o.length)+b4 ^ o.length*u→lvl b4 (b.take (o.length+1))=lvl b4 (b.take o.length)+b4 ^ o.length*v→
   Lim b4 (o++[d])∧q≤1∧(o++[d]).length≤m+1∧lvl b4 (o++[d])+q*b4 ^ (o++[d]).length=lvl b4 (a.take (o++[d]).length)+lvl b4 (b.take (o++[d]).length)∧((o++[d]).length=m+1→b4 ^ m≤x+y):=fun u v n q d hn hq hd hu hv hlm hge ea eb=>by
  have hl1:(o++[d]).length=o.length+1:=by simp
  refine⟨ho.app (Lim.one (by rw [hd];exact Nat.mod_lt _ I7)),?_,by omega,?_,fun h=>hge (by omega)⟩
  ·rw [hq,hn];unfold b4 at hu hv ⊢;omega
  ·rw [hl1,hd,hq,hn,M0 rfl he,ea,eb,Nat.mul_add];omega
 have ta:a.length≤o.length→lvl b4 (a.take (o.length+1))=lvl b4 (a.take o.length)+b4 ^ o.length*0:=fun h=>by rw [List.take_of_length_le (by omega),List.take_of_length_le h];simp
 have tb:b.length≤o.length→lvl b4 (b.take (o.length+1))=lvl b4 (b.take o.length)+b4 ^ o.length*0:=fun h=>by rw [List.take_of_length_le (by omega),List.take_of_length_le h];simp
 have full:a.length≤o.length→b.length≤o.length→lvl b4 o+c*b4 ^ o.length=x+y:=fun h1 h2=>by
  rw [he,List.take_of_length_le h1,List.take_of_length_le h2,hlx,hly]
 have fin : ∀u v:Nat,u<b4→v<b4→∃n q d:Nat,n=c+u+v∧q=n / b4∧d=n % b4∧(n:Int).tdiv 10000=(q:Int)∧IntKind.i64.wrap (q:Int)=(q:Int)∧(n:Int).tmod 10000=(d:Int)∧IntKind.i64.wrap (d:Int)=(d:Int)∧IntKind.i64.wrap ((c:Int)+(u:Int))=(c:Int)+(u:Int)∧IntKind.i64.wrap ((c:Int)+(u:Int)+(v:Int))=(n:Int)∧(v=0→(c:Int)+(u:Int)=(n:Int))∧(u=0→IntKind.i64.wrap ((c:Int)+(v:Int))=(n:Int)):=fun u v hu hv=>by
  refine⟨_,_,_,rfl,rfl,rfl,rfl,E6 ?_,rfl,E6 ?_,wrap64 (by omega) ?_,?_,fun h=>?_,fun h=>?_⟩
  all_goals unfold b4 at hu hv
  ·unfold b4;omega
  ·unfold b4;omega
  ·omega
  ·rw [wrap64 (by omega) (by omega)];push_cast;rfl
  ·subst h;push_cast;omega
  ·subst h;rw [wrap64 (by omega) (by omega)];push_cast;omega
 rcases Nat.lt_or_ge o.length a.length with h1|h1
 ·obtain⟨u,hu⟩:=Ad h1
  have g1:=Bm (k:=.i64) hu
  have g2:=B8 (k:=.i64) hu
  rcases Nat.lt_or_ge o.length b.length with h2|h2
  ·obtain⟨v,hv⟩:=Ad h2
   have g3:=Bm (k:=.i64) hv
   have g4:=B8 (k:=.i64) hv
   obtain⟨n,q,d,hn,hq,hd,k1,k2,k3,k4,k5,k6,k7,k8⟩:=fin u v (hx.at hu) (hy.at hv)
   have st:=step u v n q d hn hq hd (hx.at hu) (hy.at hv) (by omega) (fun h=>by omega) (As hu) (As hv)
   (try simp -implicitDefEqProofs [h1,h2,g1,g2,g3,g4,k1,k2,k3,k4,k5,k6,e3,maxLen])
   exact⟨⟨by omega,by omega⟩,o++[d],q,st,by simp;omega,by simp,by rw [Ec];exact .inl (.inl rfl),rfl,by simp⟩
  ·have h2' : ¬o.length<b.length:=by omega
   obtain⟨n,q,d,hn,hq,hd,k1,k2,k3,k4,k5,k6,k7,k8⟩:=fin u 0 (hx.at hu) I7
   have k7:=k7 rfl
   have st:=step u 0 n q d hn hq hd (hx.at hu) I7 (by omega) (fun h=>by omega) (As hu) (tb h2)
   rw [k7] at k5
   (try simp -implicitDefEqProofs [h1,h2',g1,g2,k1,k2,k3,k4,k5,k7,e3,maxLen])
   exact⟨⟨by omega,by omega⟩,o++[d],q,st,by simp;omega,by simp,by rw [Ec];exact .inl (.inl rfl),rfl,by simp⟩
 ·have h1' : ¬o.length<a.length:=by omega
  rcases Nat.lt_or_ge o.length b.length with h2|h2
  ·obtain⟨v,hv⟩:=Ad h2
   have g3:=Bm (k:=.i64) hv
   have g4:=B8 (k:=.i64) hv
   obtain⟨n,q,d,hn,hq,hd,k1,k2,k3,k4,k5,k6,k7,k8⟩:=fin 0 v I7 (hy.at hv)
   have k8:=k8 rfl
   have st:=step 0 v n q d hn hq hd I7 (hy.at hv) (by omega) (fun h=>by omega) (ta h1) (As hv)
   (try simp -implicitDefEqProofs [h1',h2,g3,g4,k1,k2,k3,k4,k8,e3,maxLen])
   exact⟨⟨by omega,by omega⟩,o++[d],q,st,by simp;omega,by simp,by rw [Ec];exact .inl (.inl rfl),rfl,by simp⟩
  ·have h2' : ¬o.length<b.length:=by omega
   have hf:=full h1 h2
   have hlm:m≤o.length:=by omega
   rcases (by omega:c=0∨c=1) with rfl|rfl
   ·rw [Nat.zero_mul,Nat.add_zero] at hf
    have hR:R=o:=by
     rcases (by omega:o.length=m∨o.length=m+1) with h|h
     ·exact hf1 o ho h hf
     ·exact hf2 o ho h hf (hm2 h)
    rw [hR]
    (try simp -implicitDefEqProofs [h1',h2'])
   ·have hom:o.length=m:=by
     rcases (by omega:o.length=m∨o.length=m+1) with h|h
     ·exact h
     ·rw [h] at hf;omega
    have hge:b4 ^ m≤x+y:=by rw [hom] at hf;omega
    have st:=step 0 0 1 0 1 rfl (by decide) (by decide) I7 I7 (by omega) (fun _=>hge) (ta h1) (tb h2)
    have k4:IntKind.i64.wrap 1=1:=by decide
    (try simp -implicitDefEqProofs [h1',h2',e3,maxLen,k4])
    exact⟨⟨by omega,by omega⟩,o++[1],0,st,by simp;omega,by simp,by rw [Ec];exact .inl (.inl rfl),rfl,by simp⟩
namespace E
theorem Rj {α:Type} {l:List α} {j:Nat} (h:j<l.length) (a b:α):l.getD j a=l.getD j b:=by simp [List.getD_eq_getElem?_getD,h]
theorem FnS.frz {P:Program} {f:Nat} {vs:List V} {S:St} {r:V} (h:A4 P f (eras (frzVs vs S).1) r):FnS P f vs S r (frzVs vs S).2:=by
 have hc:=h.call (frzVs vs S).2
 refine⟨hc.1,fun g w us hI hus hrel=>?_⟩
 obtain⟨h1,h0,g1,h2,h3,h4⟩:=frzVs_sound vs (fun j=>us.getD j undef) hI (fun j hj=>by rw [Rj hj .junk .und];exact hrel j hj)
 refine (hc.2 g1 w us h2.inv (by rw [hus,h3]) (fun j hj=>?_)).mono ?_
 ·rw [h1,Rj hj .und .junk];exact h4 j (by rw [h3] at hj;exact hj)
 ·rintro e w' ⟨u,g',he,hr,hm⟩
  exact⟨u,g',he,hr,h2.trans hm⟩
theorem Hj {P:Program} {f:Nat} {vs:List V} {S:St} {K R:V→St→Prop} {r:V} (h:A4 P f (eras (frzVs vs S).1) r) (k:K r (frzVs vs S).2):Gt P false f vs S K R:=Ac (FnS.frz h) k
end E
theorem Zz (x y:Nat) (hxl:(Aa b4 x).length≤1000) (hyx:y≤x):A4 Tryz.prog 185 [.t (lT .i64 (Aa b4 x)),.t (lT .i64 (Aa b4 y))] (.t (lT .i64 (Aa b4 (x-y)))):=by
 have hx:=Ap B1 x
 have hy:=Ap B1 y
 have hlx:=An B1 x
 have hly:=An B1 y
 have hle:=Fa B1 hyx
 have htr : ∀o:List Nat,Lim b4 o→lvl b4 o=x-y→A4 Tryz.prog 149 [.t (.sl (lE .i64 o))] (.t (.sl (lE .i64 (Aa b4 (x-y))))):=fun o h1 h2=>by
  have:=Hh h1
  rw [h2] at this
  exact this
 unfold lT
 generalize Aa b4 (x-y)=R at *
 generalize Aa b4 x=a at *
 generalize Aa b4 y=b at *
 (refine A4.of_code mix Tryz.call185 k_185 (by simp) (fun hB=>?_);(try simp at hB);(try simp -implicitDefEqProofs))
 refine Av [(.slot 5,3,1)] (X:=List Nat×Nat) (fun X=>Lim b4 X.1∧X.2≤1∧X.1.length≤a.length∧lvl b4 X.1+lvl b4 (b.take X.1.length)=lvl b4 (a.take X.1.length)+X.2*b4 ^ X.1.length)
  (fun X=>[(0,.t (.sl (lE .i64 a))),(1,.t (.sl (lE .i64 b))),(5,.own 0 3 1 (lE .i64 X.1)),(6,vI X.2),(7,vI X.1.length)]) (fun X=>⟨[],[X.1.length]⟩) (fun X=>a.length-X.1.length) ([],0) ⟨(fun x hx=>by simp at hx),by simp,by simp,by simp [lvl]⟩ ?hs ?_
 case hs=>simp [Dh]
 rintro ⟨o,r⟩ ⟨ho,hr,hol,he⟩ hbd
 simp only [] at ho hr hol he
 clear hbd
 have e3:IntKind.i64.wrap ((o.length:Int)+1)=(o.length:Int)+1:=wrap64 (by omega) (by omega)
 rcases Nat.lt_or_ge o.length a.length with h1|h1
 ·obtain⟨u,hu⟩:=Ad h1
  have hub:=hx.at hu
  have g1:=Bm (k:=.i64) hu
  have g2:=B8 (k:=.i64) hu
  have step : ∀v d q:Nat,d+r+v=u+q*b4→d<b4→q≤1→lvl b4 (b.take (o.length+1))=lvl b4 (b.take o.length)+b4 ^ o.length*v→
    Lim b4 (o++[d])∧q≤1∧(o++[d]).length≤a.length∧lvl b4 (o++[d])+lvl b4 (b.take (o++[d]).length)=lvl b4 (a.take (o++[d]).length)+q*b4 ^ (o++[d]).length:=fun v d q h2 h3 h4 h5=>by
   have hl1:(o++[d]).length=o.length+1:=by simp
   refine⟨ho.app (Lim.one h3),h4,by omega,?_⟩
   rw [hl1,h5,As hu]
   exact Yx rfl he h2
  have w1:IntKind.i64.wrap ((u:Int)-(r:Int))=(u:Int)-(r:Int):=wrap64 (by omega) (by unfold b4 at hub;omega)
  have go : ∀v:Nat,v<b4→((o.length<b.length∧b[o.length]?=some v)∨(¬o.length<b.length∧v=0))→lvl b4 (b.take (o.length+1))=lvl b4 (b.take o.length)+b4 ^ o.length*v:=fun v hv h=>by
   rcases h with ⟨_,h⟩|⟨h,rfl⟩
   ·exact As h
   ·rw [List.take_of_length_le (by omega),List.take_of_length_le (by omega)];simp
  unfold b4 at hub
  rcases Nat.lt_or_ge o.length b.length with h2|h2
  ·obtain⟨v,hv⟩:=Ad h2
   have hvb:=hy.at hv
   have eb:=go v hvb (.inl ⟨h2,hv⟩)
   unfold b4 at hvb
   have g3:=Bm (k:=.i64) hv
   have g4:=B8 (k:=.i64) hv
   have w2:IntKind.i64.wrap ((u:Int)-(r:Int)-(v:Int))=(u:Int)-(r:Int)-(v:Int):=wrap64 (by omega) (by omega)
   by_cases hn:(u:Int)-(r:Int)-(v:Int)<0
   ·obtain⟨d,hd⟩ : ∃d:Nat,(u:Int)-(r:Int)-(v:Int)+10000=(d:Int):=⟨((u:Int)-(r:Int)-(v:Int)+10000).toNat,by omega⟩
    have w3:IntKind.i64.wrap (d:Int)=(d:Int):=E6 (by omega)
    have st:=step v d 1 (by unfold b4;omega) (by unfold b4;omega) (by omega) eb
    (try simp -implicitDefEqProofs [h1,h2,g1,g2,g3,g4,w1,w2,hn,hd,w3,e3,maxLen])
    all_goals exact⟨⟨by omega,by omega⟩,o++[d],1,st,by simp;omega,by simp,by rw [Ec];exact .inl (.inl rfl),rfl,by simp⟩
   ·obtain⟨d,hd⟩ : ∃d:Nat,(u:Int)-(r:Int)-(v:Int)=(d:Int):=⟨((u:Int)-(r:Int)-(v:Int)).toNat,by omega⟩
    have st:=step v d 0 (by unfold b4;omega) (by unfold b4;omega) (by omega) eb
    have w2:=w2.trans hd
    have hn' : ¬(d:Int)<0:=by omega
    (try simp -implicitDefEqProofs [h1,h2,g1,g2,g3,g4,w1,w2,hn',e3,maxLen])
    all_goals exact⟨⟨by omega,by omega⟩,o++[d],0,st,by simp;omega,by simp,by rw [Ec];exact .inl (.inl rfl),rfl,by simp⟩
  ·have h2' : ¬o.length<b.length:=by omega
   have eb:=go 0 I7 (.inr ⟨h2',rfl⟩)
   by_cases hn:(u:Int)-(r:Int)<0
   ·obtain⟨d,hd⟩ : ∃d:Nat,(u:Int)-(r:Int)+10000=(d:Int):=⟨((u:Int)-(r:Int)+10000).toNat,by omega⟩
    have w3:IntKind.i64.wrap (d:Int)=(d:Int):=E6 (by omega)
    have st:=step 0 d 1 (by unfold b4;omega) (by unfold b4;omega) (by omega) eb
    (try simp -implicitDefEqProofs [h1,h2',g1,g2,w1,hn,hd,w3,e3,maxLen])
    all_goals exact⟨⟨by omega,by omega⟩,o++[d],1,st,by simp;omega,by simp,by rw [Ec];exact .inl (.inl rfl),rfl,by simp⟩
   ·obtain⟨d,hd⟩ : ∃d:Nat,(u:Int)-(r:Int)=(d:Int):=⟨((u:Int)-(r:Int)).toNat,by omega⟩
    have st:=step 0 d 0 (by unfold b4;omega) (by unfold b4;omega) (by omega) eb
    have w1:=w1.trans hd
    have hn' : ¬(d:Int)<0:=by omega
    (try simp -implicitDefEqProofs [h1,h2',g1,g2,w1,hn',e3,maxLen])
    all_goals exact⟨⟨by omega,by omega⟩,o++[d],0,st,by simp;omega,by simp,by rw [Ec];exact .inl (.inl rfl),rfl,by simp⟩
 ·have hoa:o.length=a.length:=by omega
  rw [hoa,List.take_of_length_le (Nat.le_refl _),List.take_of_length_le hle,hlx,hly] at he
  have hr0:r=0:=by
   rcases (by omega:r=0∨r=1) with h|h
   ·exact h
   ·have:=Jv ho
    rw [hoa] at this
    subst h;omega
  subst hr0
  have ht:=htr o ho (by omega)
  have h1' : ¬o.length<a.length:=by omega
  ((try simp at ht);(try simp -implicitDefEqProofs [h1']);repeat' first|(with_reducible apply A0<;>first|(simp only [eras,era,A1];first|with_reducible assumption)|(simp -implicitDefEqProofs [h1'])))
theorem A00 (x y:Nat) (hxl:(Aa b4 x).length≤1000) (hyl:(Aa b4 y).length≤1000):A4 Tryz.prog 186 [.t (lT .i64 (Aa b4 x)),.t (lT .i64 (Aa b4 y))] (.t (lT .i64 (Aa b4 (x*y)))):=by
 have hx:=Ap B1 x
 have hy:=Ap B1 y
 have hlx:=An B1 x
 have hly:=An B1 y
 have htr : ∀o:List Nat,Lim b4 o→lvl b4 o=x*y→A4 Tryz.prog 149 [.t (.sl (lE .i64 o))] (.t (.sl (lE .i64 (Aa b4 (x*y))))):=fun o h1 h2=>by
  have:=Hh h1
  rw [h2] at this
  exact this
 unfold lT
 generalize Aa b4 (x*y)=R at *
 generalize Aa b4 x=a at *
 generalize Aa b4 y=b at *
 have e9:IntKind.i64.wrap ((a.length:Int)+(b.length:Int))=((a.length+b.length:Nat):Int):=by rw [←Int.natCast_add];exact E6 (by omega)
 obtain⟨n,hn⟩ : ∃n,n=a.length+b.length:=⟨_,rfl⟩
 rw [←hn] at e9
 have n1:(n:Int)≤maxLen:=by unfold maxLen;omega
 have n1':n≤maxLen:=by unfold maxLen;omega
 have n2:(n:Int)*8≤140737488355328:=by omega
 (refine A4.of_code mix Tryz.call186 k_186 (by simp) (fun hB=>?_);(try simp at hB);(try simp -implicitDefEqProofs))
 (try simp -implicitDefEqProofs [e9,n1,n1',n2])
 refine A9 (X:=Nat×List Nat) (fun X=>X.1≤a.length∧X.2.length=n∧Lim b4 X.2∧lvl b4 X.2=lvl b4 (a.take X.1)*lvl b4 b∧∀j,X.1+b.length≤j→j<n→X.2[j]?=some 0)
  (fun X=>[(0,.t (.sl (lE .i64 a))),(1,.t (.sl (lE .i64 b))),(5,.bw 0 n),(6,vI X.1)]) (fun X=>⟨[.buf 3 1 (bE .i64 X.2)],[]⟩) (fun X=>a.length-X.1) (0,List.replicate n 0) ?h0 ?hs ?_
 case h0=>exact⟨by simp,by simp,Lim.zeros I7 n,by rw [Ju];simp [lvl],fun j _ h=>by rw [List.getElem?_replicate,if_pos h]⟩
 case hs=>
  simp [B6,bE,List.map_replicate]
  first|done|exact Tt fun v hv=>⟨_,(List.mem_replicate.1 hv).2⟩
 rintro ⟨i,o0⟩ ⟨hi,hol,hoL,hov,hoz⟩ hbd
 simp only [] at hi hol hoL hov hoz
 clear hbd
 rcases Nat.lt_or_ge i a.length with h|h
 ·obtain⟨d,hd⟩:=Ad h
  have hdb:=hx.at hd
  have g1:=Bm (k:=.i64) hd
  have g2:=B8 (k:=.i64) hd
  have e3:IntKind.i64.wrap ((i:Int)+1)=(i:Int)+1:=wrap64 (by omega) (by omega)
  (try simp -implicitDefEqProofs [h,g1,g2,e3])
  refine A9 (X:=Nat×List Nat×Nat) (fun X=>X.1≤b.length∧X.2.1.length=n∧Lim b4 X.2.1∧X.2.2<b4∧lvl b4 X.2.1+X.2.2*b4 ^ (i+X.1)=lvl b4 o0+b4 ^ i*(d*lvl b4 (b.take X.1))∧∀j,i+b.length≤j→j<n→X.2.1[j]?=some 0)
   (fun X=>[(0,.t (.sl (lE .i64 a))),(1,.t (.sl (lE .i64 b))),(5,.bw 0 n),(6,vI i),(7,vI X.2.2),(8,vI X.1)]) (fun X=>⟨[.buf 3 1 (bE .i64 X.2.1)],[]⟩) (fun X=>b.length-X.1) (0,o0,0) ?h1 ?hs1 ?_
  case h1=>exact⟨by simp,hol,hoL,I7,by simp [lvl],hoz⟩
  case hs1=>simp [B6]
  rintro ⟨k,o,c⟩ ⟨hk,ho,hL,hc,he,hz⟩ hbd
  simp only [] at hk ho hL hc he hz
  clear hbd
  rcases Nat.lt_or_ge k b.length with h2|h2
  ·obtain⟨y',hy'⟩:=Ad h2
   obtain⟨u,hu⟩:=Ad (show i+k<o.length by omega)
   have hub:=hL.at hu
   have hyb:=hy.at hy'
   have st:=Qy (a:=a) B1 hdb hy' hu hc hL hy he
   have g3:=Bm (k:=.i64) hy'
   have g4:=B8 (k:=.i64) hy'
   have g5:=Jw (k:=.i64) hu
   have g6:=J8 (k:=.i64) hu
   unfold b4 at hub hyb hdb hc
   have hpr:d*y'≤9999*9999:=Nat.mul_le_mul (by omega) (by omega)
   obtain⟨P,hP⟩ : ∃P,P=d*y':=⟨_,rfl⟩
   rw [←hP] at st hpr
   obtain⟨N,hN⟩ : ∃N,N=P+u+c:=⟨_,rfl⟩
   rw [←hN] at st
   obtain⟨q,hq⟩ : ∃q,q=N / b4:=⟨_,rfl⟩
   obtain⟨r,hr⟩ : ∃r,r=N % b4:=⟨_,rfl⟩
   rw [←hq,←hr] at st
   have v3:IntKind.i64.wrap ((d:Int)*(y':Int))=(P:Int):=by rw [hP];exact E6 (x:=d*y') (by omega)
   have v5:IntKind.i64.wrap ((u:Int)+(P:Int))=(u:Int)+(P:Int):=E6 (x:=u+P) (by omega)
   have v6:IntKind.i64.wrap ((u:Int)+(P:Int)+(c:Int))=(N:Int):=by rw [hN,show P+u+c=u+P+c by omega];exact E6 (x:=u+P+c) (by omega)
   have q1:(N:Int).tdiv 10000=(q:Int):=by rw [hq];rfl
   have q2:IntKind.i64.wrap (q:Int)=(q:Int):=E6 (by rw [hq];unfold b4;omega)
   have r1:(N:Int).tmod 10000=(r:Int):=by rw [hr];rfl
   have r2:IntKind.i64.wrap (r:Int)=(r:Int):=E6 (by rw [hr];unfold b4;omega)
   have e4:IntKind.i64.wrap ((i:Int)+(k:Int))=(i:Int)+(k:Int):=E6 (x:=i+k) (by omega)
   have e5:IntKind.i64.wrap ((k:Int)+1)=(k:Int)+1:=wrap64 (by omega) (by omega)
   have i1:((i:Int)+(k:Int)).toNat=i+k:=by omega
   have i2:(i:Int)+(k:Int)<n:=by omega
   have i3:(0:Int)≤(i:Int)+(k:Int):=by omega
   have i4:i+k+1≤n:=by omega
   have hp:=Du (k:=.i64) r (show i+k<o.length by omega)
   (try simp -implicitDefEqProofs [h,h2,g1,g2,g3,g4,g5,g6,v3,v5,v6,q1,q2,r1,r2,e4,e5,i1,i2,i3,i4,hp,ho])
   refine⟨k+1,o.set (i+k) r,q,⟨by omega,by simp [ho],st.1,st.2.1,st.2.2,fun j h1 h2=>?_⟩,by omega,?_⟩
   ·rw [List.getElem?_set_ne (by omega)];exact hz j h1 h2
   ·simp [B6]
  ·have hkb:k=b.length:=by omega
   subst hkb
   have e4:IntKind.i64.wrap ((i:Int)+(b.length:Int))=((i+b.length:Nat):Int):=E6 (x:=i+b.length) (by omega)
   obtain⟨p,hp⟩ : ∃p,p=i+b.length:=⟨_,rfl⟩
   rw [←hp] at e4 he hz
   have hpz:=hz p (Nat.le_refl _) (by omega)
   have hb1:b.take b.length=b:=List.take_of_length_le (Nat.le_refl _)
   rw [hb1,hly] at he
   have hset:=L3 (B:=b4) (v:=c) hpz
   have hdone:(o.set p c).length=n∧Lim b4 (o.set p c)∧lvl b4 (o.set p c)=lvl b4 (a.take (i+1))*y∧∀j,i+1+b.length≤j→j<n→(o.set p c)[j]?=some 0:=by
    refine⟨by simp [ho],hL.set hc _,?_,fun j h1 h2=>?_⟩
    ·rw [As hd,Nat.add_mul]
     rw [hly] at hov
     have e1:b4 ^ i*d*y=b4 ^ i*(d*y):=Nat.mul_assoc _ _ _
     have e2:c*b4 ^ p=b4 ^ p*c:=Nat.mul_comm _ _
     omega
    ·rw [List.getElem?_set_ne (by omega)];exact hz j (by omega) h2
   rw [hly]
   have i2:p<n:=by omega
   have i4:p+1≤n:=by omega
   have hpp:=Du (k:=.i64) c (show p<o.length by omega)
   (try simp -implicitDefEqProofs [e4,e3,i2,i4,hpp,ho])
   exact⟨i+1,o.set p c,⟨by omega,hdone⟩,by omega,by simp [B6]⟩
 ·have hia:i=a.length:=by omega
  subst hia
  rw [List.take_of_length_le (Nat.le_refl _),hlx,hly] at hov
  have ht:=htr o0 hoL hov
  have hrow:=Dp .i64 o0
  rw [hol] at hrow
  have hbt:(bE .i64 o0).take n=bE .i64 o0:=List.take_of_length_le (by simp;omega)
  (try simp -implicitDefEqProofs)
  refine Hj (r:=.t (.sl (lE .i64 R))) ?_ ?_
  ·simp [frzVs,Br,Ef,hbt,hrow,eras,era]
   exact ht
  ·(try simp -implicitDefEqProofs [hbt,hrow,Br,frzVs,Ef])
end Go.Proofs.YtmlpmdccfmmpoaaGreatDoor
