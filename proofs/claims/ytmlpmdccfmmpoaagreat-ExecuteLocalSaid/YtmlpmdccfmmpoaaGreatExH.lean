/- Chapter 35: Run. -/
import Derived.Test.YtmlpmdccfmmpoaaGreatExE
import Derived.Test.YtmlpmdccfmmpoaaGreatExG
set_option linter.unusedSimpArgs false
set_option linter.unusedVariables false
set_option maxHeartbeats 4000000
set_option maxRecDepth 8000
namespace Go.Proofs.YtmlpmdccfmmpoaaGreat
open E

theorem Wz (x:Item):A7 Tryz.prog 34 [x.v] (vB (!Ah x.amt)):=by
 obtain⟨i1,i2,i3,i4,i5,i6,i7⟩:=x
 have ha:=O9 i7
 (refine A7.of_code mix Tryz.call34 k_34 (by simp) (fun hB=>?_);(try simp at hB);(try simp -implicitDefEqProofs))
 ((try simp at ha);(try simp -implicitDefEqProofs);repeat' first|(with_reducible apply A0<;>first|(simp only [eras,era,A1];first|with_reducible assumption)|(simp -implicitDefEqProofs)))
def Gv (l:List Src) (k:Nat) (s:Src):Bool:=(decide (s.ent<0)||decide (12≤s.ent))||((decide (0<k)&&decide (s.ent≤(l.getD (k-1) ⟨0,false,0,0,[]⟩).ent))||s.items.any fun x=>!Ah x.amt)
theorem Qx (l:List Src):Ca l=(List.range l.length).all fun k=>!Gv l k (l.getD k ⟨0,false,0,0,[]⟩):=by
 rw [Bool.eq_iff_iff]
 constructor
 ·intro h
  have h1:=D8 h
  refine List.all_eq_true.2 fun k hk=>?_
  have hk:=List.mem_range.1 hk
  have hm:l.getD k ⟨0,false,0,0,[]⟩∈l:=by rw [List.getD_eq_getElem?_getD,List.getElem?_eq_getElem hk];exact List.getElem_mem hk
  obtain⟨q1,q2,q3⟩:=Cz h hm
  unfold Gv
  have e3:((l.getD k ⟨0,false,0,0,[]⟩).items.any fun x=>!Ah x.amt)=false:=by
   rw [List.any_eq_false];intro x hx;simp [q3 x hx]
  rw [e3]
  have e1:decide ((l.getD k ⟨0,false,0,0,[]⟩).ent<0)=false:=by simpa using q1
  have e2:decide (12≤(l.getD k ⟨0,false,0,0,[]⟩).ent)=false:=by simpa using q2
  rw [e1,e2]
  rcases Nat.eq_zero_or_pos k with k0|k0
  ·subst k0;simp
  ·have:=List.pairwise_iff_getElem.1 h1 (k-1) k (by omega) hk (by omega)
   simp only [List.getD_eq_getElem?_getD,List.getElem?_eq_getElem hk,List.getElem?_eq_getElem (show k-1<l.length by omega),Option.getD_some]
   simp;omega
 ·intro h
  rw [K2]
  have hb : ∀k (hk:k<l.length),Gv l k l[k]=false:=fun k hk=>by
   have:=List.all_eq_true.1 h k (List.mem_range.2 hk)
   simpa [List.getD_eq_getElem?_getD,hk] using this
  constructor
  ·intro s hs
   obtain⟨k,hk,rfl⟩:=List.mem_iff_getElem.1 hs
   have:=hb k hk
   unfold Gv at this
   simp only [Bool.or_eq_false_iff,decide_eq_false_iff_not] at this
   refine⟨by omega,by omega,fun x hx=>?_⟩
   have h3:=List.any_eq_false.1 this.2.2 x hx
   simpa using h3
  ·apply E8
   intro i x y hx hy
   obtain⟨h1,rfl⟩:=List.getElem?_eq_some_iff.1 hy
   obtain⟨h2,rfl⟩:=List.getElem?_eq_some_iff.1 hx
   have:=hb (i+1) h1
   unfold Gv at this
   simp only [Bool.or_eq_false_iff,decide_eq_false_iff_not] at this
   have h3:=this.2.1
   simp [List.getD_eq_getElem?_getD,h2] at h3
   exact h3
theorem Qy {l:List Src} (h:Ca l=true):l.length≤12:=by
 have h1:=D8 h
 have key : ∀k (hk:k<l.length),(k:Int)≤l[k].ent:=by
  intro k
  induction k with
  | zero=>intro hk;exact (Cz h (List.getElem_mem hk)).1
  | succ k ih=>
   intro hk
   have h2:=ih (by omega)
   have h3:=List.pairwise_iff_getElem.1 h1 k (k+1) (by omega) hk (by omega)
   push_cast;omega
 rcases Nat.lt_or_ge 12 l.length with h2|h2
 ·have h3:=key 12 h2
  have h4:=(Cz h (List.getElem_mem h2)).2.1
  omega
 ·exact h2
theorem J5 (l:List Src) (hl:l.length≤1000000):A7 Tryz.prog 15 [Src.l l] (vB (Ca l)):=by
 obtain⟨R,hR⟩ : ∃R,R=Ca l:=⟨_,rfl⟩
 rw [←hR]
 have hok:=Qx l
 rw [←hR] at hok
 have hcon : ∀it:List Item,A7 Tryz.prog 33 [Item.l it,.fn (.func 34) []] (vB (it.any fun x=>!Ah x.amt)):=fun it=>Mk St0 Wl it 34 [] rfl (fun x=>!Ah x.amt) (fun x _=>Wz x)
 (refine A7.of_code mix Tryz.call15 k_15 (by simp) (fun hB=>?_);(try simp at hB);(try simp -implicitDefEqProofs))
 (try simp -implicitDefEqProofs)
 refine Ac (X:=Nat) (fun k=>k≤l.length∧∀j,j<k→Gv l j (l.getD j ⟨0,false,0,0,[]⟩)=false) (fun k=>[(0,Src.l l),(5,Src.l l),(6,vI l.length),(7,vI k)]) (fun _=>⟨[],[]⟩) (fun k=>l.length-k) 0 ⟨by omega,fun j h=>by omega⟩ ?hs ?_
 case hs=>simp [Src.l,okN]
 rintro k ⟨hk,hb⟩ hbd
 clear hbd
 have e3:IntKind.i64.wrap ((k:Int)+1)=(k:Int)+1:=wrap64 (by omega) (by omega)
 have e4:IntKind.i64.wrap ((k:Int)-1)=(k:Int)-1:=wrap64 (by omega) (by omega)
 rcases Nat.lt_or_ge k l.length with h|h
 ·obtain⟨s,hs⟩:=Aa h
  have hgd:l.getD k ⟨0,false,0,0,[]⟩=s:=by rw [List.getD_eq_getElem?_getD,hs];rfl
  have hsc:(l.map Src.c)[k]?=some s.c:=by simp [hs]
  have hsc' : ∀h,(l.map Src.c)[k]'h=s.c:=fun h=>by rw [List.getElem?_eq_getElem h] at hsc;exact Option.some.inj hsc
  have hcc:s.c=[.int .i64 s.ent,.bool s.full,.bool (nB s.num),.sl (pE s.num),.bool (nB s.den),.sl (pE s.den),.sl (s.items.map Item.c)]:=rfl
  rw [hcc] at hsc hsc'
  have hfail:Gv l k s=true→R=false:=fun hq=>by
   rw [hok,List.all_eq_false]
   exact⟨k,List.mem_range.2 h,by rw [hgd,hq];simp⟩
  have hnext:Gv l k s=false→∀j,j<k+1→Gv l j (l.getD j ⟨0,false,0,0,[]⟩)=false:=fun hq j hj=>by
   rcases Nat.lt_or_ge j k with h1|h1
   ·exact hb j h1
   ·have:j=k:=by omega
    subst this;rw [hgd];exact hq
  have hcon1:=hcon s.items
  by_cases c1:s.ent<0
  ·have hf:=hfail (by simp [Gv,c1])
   rw [hf]
   (try simp -implicitDefEqProofs [h,hsc,hsc',Src.l,c1])
  by_cases c2:12≤s.ent
  ·have hf:=hfail (by simp [Gv,c2])
   rw [hf]
   (try simp -implicitDefEqProofs [h,hsc,hsc',Src.l,c1,c2])
  have hrest:Gv l k s=((decide (0<k)&&decide (s.ent≤(l.getD (k-1) ⟨0,false,0,0,[]⟩).ent))||s.items.any fun x=>!Ah x.amt):=by
   unfold Gv
   have d1:decide (s.ent<0)=false:=by simpa using c1
   have d2:decide (12≤s.ent)=false:=by simpa using c2
   rw [d1,d2];rfl
  rcases Nat.eq_zero_or_pos k with k0|k0
  ·subst k0
   cases ha:(s.items.any fun x=>!Ah x.amt)
   ·have hn:=hnext (by rw [hrest,ha];rfl)
    rw [ha] at hcon1
    ((try simp at hcon1);(try simp -implicitDefEqProofs [h,hsc,hsc',Src.l,c1,c2]);repeat' first|(with_reducible apply A0<;>first|(simp only [eras,era,A1];first|with_reducible assumption)|(simp -implicitDefEqProofs [h,hsc,hsc',Src.l,c1,c2])))
    exact⟨1,⟨by omega,by simpa [List.getD_eq_getElem?_getD] using hn⟩,by omega,rfl⟩
   ·rw [hfail (by rw [hrest,ha];simp)]
    rw [ha] at hcon1
    ((try simp at hcon1);(try simp -implicitDefEqProofs [h,hsc,hsc',Src.l,c1,c2]);repeat' first|(with_reducible apply A0<;>first|(simp only [eras,era,A1];first|with_reducible assumption)|(simp -implicitDefEqProofs [h,hsc,hsc',Src.l,c1,c2])))
  ·obtain⟨q,hq⟩:=Aa (show k-1<l.length by omega)
   have hgq:l.getD (k-1) ⟨0,false,0,0,[]⟩=q:=by rw [List.getD_eq_getElem?_getD,hq];rfl
   rw [hgq] at hrest
   have hqc:(l.map Src.c)[k-1]?=some q.c:=by simp [hq]
   have hqc' : ∀h,(l.map Src.c)[k-1]'h=q.c:=fun h=>by rw [List.getElem?_eq_getElem h] at hqc;exact Option.some.inj hqc
   have hqq:q.c=[.int .i64 q.ent,.bool q.full,.bool (nB q.num),.sl (pE q.num),.bool (nB q.den),.sl (pE q.den),.sl (q.items.map Item.c)]:=rfl
   rw [hqq] at hqc hqc'
   have i1:((k:Int)-1).toNat=k-1:=by omega
   have j1:(1:Int)≤k:=by omega
   have j2:(k:Int)-1<l.length:=by omega
   have d0:decide (0<k)=true:=by simpa using k0
   rw [d0,Bool.true_and] at hrest
   by_cases c3:s.ent≤q.ent
   ·rw [hfail (by rw [hrest];simp [c3])]
    (try simp -implicitDefEqProofs [h,hsc,hsc',hqc,hqc',Src.l,c1,c2,k0,i1,j1,j2,e4,c3])
   ·have d3:decide (s.ent≤q.ent)=false:=by simpa using c3
    rw [d3,Bool.false_or] at hrest
    cases ha:(s.items.any fun x=>!Ah x.amt)
    ·have hn:=hnext (by rw [hrest,ha])
     rw [ha] at hcon1
     ((try simp at hcon1);(try simp -implicitDefEqProofs [h,hsc,hsc',hqc,hqc',Src.l,c1,c2,k0,i1,j1,j2,e4,c3,e3]);repeat' first|(with_reducible apply A0<;>first|(simp only [eras,era,A1];first|with_reducible assumption)|(simp -implicitDefEqProofs [h,hsc,hsc',hqc,hqc',Src.l,c1,c2,k0,i1,j1,j2,e4,c3,e3])))
     exact⟨k+1,⟨by omega,by simpa [List.getD_eq_getElem?_getD] using hn⟩,by omega,by push_cast;rfl⟩
    ·rw [hfail (by rw [hrest,ha])]
     rw [ha] at hcon1
     ((try simp at hcon1);(try simp -implicitDefEqProofs [h,hsc,hsc',hqc,hqc',Src.l,c1,c2,k0,i1,j1,j2,e4,c3]);repeat' first|(with_reducible apply A0<;>first|(simp only [eras,era,A1];first|with_reducible assumption)|(simp -implicitDefEqProofs [h,hsc,hsc',hqc,hqc',Src.l,c1,c2,k0,i1,j1,j2,e4,c3])))
 ·have hkk:k=l.length:=by omega
  subst hkk
  have hRt:R=true:=by
   rw [hok]
   exact List.all_eq_true.2 fun j hj=>by rw [hb j (List.mem_range.1 hj)];rfl
  have h12:(l.length:Int)≤12:=by have:=Qy (by rw [←hR];exact hRt);omega
  have h12':l.length≤12:=by omega
  rw [hRt]
  (try simp -implicitDefEqProofs [Src.l,h12,h12'])
theorem Es : ∀(a:List (Option Posting)) (o:List Posting),Am o a=match Ai a with
  | some q=>(o++q,0)
  | none=>((Am o a).1,2)
 | [],o=>by simp [Am,Ai]
 | none::a,o=>by simp [Am,Ai]
 | some p::a,o=>by
  have ih:=Es a (if p.parts=[] then o else o++[p])
  simp only [Am,Ai]
  rw [ih]
  cases Ai a with
  | none=>simp
  | some q=>by_cases h:p.parts=[]<;>simp [h]
def Td (r:Option (List Posting)):List Posting×Int:=match r with
 | some q=>(q,0)
 | none=>([],2)
theorem V0 {c:List Code} {l:List Src} (h1:Ca l=true) (h2:(c.all fun x=>(Cc x).2)=true):Gc c l=Td (Dy c l):=by
 unfold Gc Td
 rw [if_pos ⟨h1,h2⟩]
 cases Dy c l<;>rfl
theorem Te (a:List (Option Posting)):T9 (Am [] a)=Td (Ai a):=by
 rw [Es]
 cases Ai a<;>simp [T9,Td]
theorem Qz (c:List Code) (l:List Src):Ai (K5 (fun i s o=>B9 (c.getD i ⟨[],false,[]⟩) s o i) l (fun i=>(c.getD i ⟨[],false,[]⟩).pair) (List.range c.length))=Dy c l:=by
 rw [K1]
 unfold K5
 congr 1
 congr 1
 funext i
 exact (K4 (fun s o=>B9 (c.getD i ⟨[],false,[]⟩) s o i) l (c.getD i ⟨[],false,[]⟩).pair).symm
theorem Ml (c:Code) (hlen:c.ins.length≤1000000):A7 Tryz.prog 26 [c.v] (vB (Cc c).2):=by
 have hm:=Yk c hlen
 generalize Cc c=r at *
 obtain⟨n,ok⟩:=r
 obtain⟨cn,pair,ins⟩:=c
 simp only [vO] at hm
 (refine A7.of_code mix Tryz.call26 k_26 (by simp) (fun hB=>?_);(try simp at hB);(try simp -implicitDefEqProofs))
 ((try simp at hm);(try simp -implicitDefEqProofs);repeat' first|(with_reducible apply A0<;>first|(simp only [eras,era,A1];first|with_reducible assumption)|(simp -implicitDefEqProofs)))
theorem Tf (c:Code) (hlen:c.ins.length≤1000000):A7 Tryz.prog 25 [c.v] (vB (!(Cc c).2)):=by
 have hv:=Ml c hlen
 obtain⟨cn,cp,ins⟩:=c
 (refine A7.of_code mix Tryz.call25 k_25 (by simp) (fun hB=>?_);(try simp at hB);(try simp -implicitDefEqProofs))
 ((try simp at hv);(try simp -implicitDefEqProofs);repeat' first|(with_reducible apply A0<;>first|(simp only [eras,era,A1];first|with_reducible assumption)|(simp -implicitDefEqProofs)))
theorem Tg (cs:List Code) (i:Nat) (c:Code) (hc:cs[i]?=some c) (cb:Nat) (S:St) (hS:OkT S) (hcb:S.boxes[cb]?=some (.cells [Code.l cs])):FnS Tryz.prog 28 [vI i,.ptr cb 0] S (vB c.pair) S:=by
 have hci:=A5 hc
 have hcc:(cs.map Code.c)[i]?=some c.c:=by simp [hc]
 have hcc' : ∀h,(cs.map Code.c)[i]'h=c.c:=fun h=>by rw [List.getElem?_eq_getElem h] at hcc;exact Option.some.inj hcc
 obtain⟨cn,cp,ins⟩:=c
 have hS':=hS.S
 simp [OkS] at hS'
 (refine FnS.of_code mix Tryz.call28 k_28 (by simp) (fun hB=>?_);(try simp at hB);(try simp -implicitDefEqProofs))
 (try simp -implicitDefEqProofs [hcb,hcc,hcc',Code.l,Code.c,hci,hS'])
theorem Th (cs:List Code) (l:List Src) (hl:l.length≤13) (hc:cs.length≤100) (hci : ∀c∈cs,c.ins.length≤8000) (hs : ∀s∈l,s.num.natAbs≤100000∧0<s.den∧s.den≤100000∧s.items.length≤1000) :
  A7 Tryz.prog 11 [Code.l cs,Src.l l] (psV (Gc cs l)):=by
 have hv:=J5 l (by omega)
 have hcon:A7 Tryz.prog 24 [Code.l cs,.fn (.func 25) []] (vB (cs.any fun c=>!(Cc c).2)):=He St0 Wl cs 25 [] rfl (fun c=>!(Cc c).2) (fun c hm=>Tf c (by have:=hci c hm;omega))
 cases h1:Ca l
 ·rw [h1] at hv
  unfold Gc
  rw [if_neg (by simp [h1])]
  unfold Src.l at hv ⊢
  (refine A7.of_code mix Tryz.call11 k_11 (by simp) (fun hB=>?_);(try simp at hB);(try simp -implicitDefEqProofs))
  ((try simp at hv);(try simp -implicitDefEqProofs [psV]);repeat' first|(with_reducible apply A0<;>first|(simp only [eras,era,A1];first|with_reducible assumption)|(simp -implicitDefEqProofs [psV])))
 ·rw [h1] at hv
  cases h2:(cs.any fun c=>!(Cc c).2)
  ·rw [h2] at hcon
   have hall:(cs.all fun x=>(Cc x).2)=true:=by
    rw [List.all_eq_true];intro x hx
    have:=List.any_eq_false.1 h2 x hx
    simpa using this
   rw [V0 h1 hall]
   have hcol:=Qw 28 29 [.ptr 0 0] [.ptr 0 0] [.cells [Code.l cs]] (fun n m hn=>⟨⟨A3 _,rfl⟩,trivial⟩) l cs.length (fun i=>(cs.getD i ⟨[],false,[]⟩).pair) (fun i s o=>B9 (cs.getD i ⟨[],false,[]⟩) s o i) hl hc rfl (fun k m hk=>by simp [okNs,okN];simp at hk;omega) (fun k m hk=>by simp [okNs,okN];simp at hk;omega)
    (fun i C tk hi hT=>by
     obtain⟨c,hx⟩:=Aa hi
     have e:cs.getD i ⟨[],false,[]⟩=c:=by rw [List.getD_eq_getElem?_getD,hx];rfl
     rw [e]
     exact Tg cs i c hx 0 _ hT rfl)
    (fun i C tk b mb s oth hi hsm hf hp hT hb hmb=>by
     obtain⟨c,hx⟩:=Aa hi
     have e:cs.getD i ⟨[],false,[]⟩=c:=by rw [List.getD_eq_getElem?_getD,hx];rfl
     rw [e] at hp ⊢
     have hcm:c∈cs:=List.mem_of_getElem? hx
     obtain⟨q1,q2,q3,q4⟩:=hs s hsm
     have q5:=(Cz h1 hsm).2.2
     exact T8 0 b mb i cs c _ hT s oth ⟨q1,q2,q3,q4,q5⟩ rfl hx hb hmb (List.all_eq_true.1 hall c hcm) (hci c hcm) (fun hpp=>by
      rw [if_pos hpp] at hp
      obtain⟨t,ht1,_,ht3,_⟩:=hp
      rw [←ht3];exact (Cz h1 ht1).1))
   rw [Te,Qz] at hcol
   generalize Td (Dy cs l)=W at *
   obtain⟨w1,w2⟩:=W
   unfold psV Src.l at hcol ⊢
   unfold Src.l at hv
   (refine A7.of_code mix Tryz.call11 k_11 (by simp) (fun hB=>?_);(try simp at hB);(try simp -implicitDefEqProofs))
   ((try simp at hv hcon);(try simp -implicitDefEqProofs);repeat' first|(with_reducible apply A0<;>first|(simp only [eras,era,A1];first|with_reducible assumption)|(simp -implicitDefEqProofs)))
   refine Ab hcol ?_
   (try simp -implicitDefEqProofs)
  ·rw [h2] at hcon
   unfold Gc
   rw [if_neg (fun h=>by
    obtain⟨x,hx,hq⟩:=List.any_eq_true.1 h2
    have:=List.all_eq_true.1 h.2 x hx
    rw [this] at hq;cases hq)]
   unfold Src.l at hv ⊢
   (refine A7.of_code mix Tryz.call11 k_11 (by simp) (fun hB=>?_);(try simp at hB);(try simp -implicitDefEqProofs))
   ((try simp at hv hcon);(try simp -implicitDefEqProofs [psV]);repeat' first|(with_reducible apply A0<;>first|(simp only [eras,era,A1];first|with_reducible assumption)|(simp -implicitDefEqProofs [psV])))
end Go.Proofs.YtmlpmdccfmmpoaaGreat
