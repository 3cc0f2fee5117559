/- Integers of any length: the reference's differences and products of limbs. -/
import Derived.Test.YtmlpmdccfmmpoaaGreatDoorExG
import Derived.Test.YtmlpmdccfmmpoaaGreatDoorIn4
import Derived.Test.YtmlpmdccfmmpoaaGreatDoorIn2
set_option linter.unusedSimpArgs false
set_option linter.unusedVariables false
set_option maxHeartbeats 4000000
set_option maxRecDepth 8000
namespace Go.Proofs.YtmlpmdccfmmpoaaGreatDoor
open E
theorem A5r (x:Item):A8 Tryz.prog 66 [x.v] (vB (!Ah x.amt)):=by
 obtain⟨i1,i2,i3,i4,i5,i6,i7⟩:=x
 have ha:=P8 i7
 (refine A8.of_code mix Tryz.call66 k_66 (by simp) (fun hB=>?_);(try simp at hB);(try simp -implicitDefEqProofs))
 ((try simp at ha);(try simp -implicitDefEqProofs);repeat' first|(with_reducible apply A0<;>first|(simp only [eras,era,A1];first|with_reducible assumption)|(simp -implicitDefEqProofs)))
def Ju (l:List Src) (k:Nat) (s:Src):Bool:=(decide (s.ent<0)||decide (12≤s.ent))||((decide (0<k)&&decide (s.ent≤(l.getD (k-1) ⟨0,false,0,0,[]⟩).ent))||s.items.any fun x=>!Ah x.amt)
theorem Xi (l:List Src):Dc l=(List.range l.length).all fun k=>!Ju l k (l.getD k ⟨0,false,0,0,[]⟩):=by
 rw [Bool.eq_iff_iff]
 constructor
 ·intro h
  have h1:=I9 h
  refine List.all_eq_true.2 fun k hk=>?_
  have hk:=List.mem_range.1 hk
  have hm:l.getD k ⟨0,false,0,0,[]⟩∈l:=by rw [List.getD_eq_getElem?_getD,List.getElem?_eq_getElem hk];exact List.getElem_mem hk
  obtain⟨q1,q2,q3⟩:=E2 h hm
  unfold Ju
  have e3:((l.getD k ⟨0,false,0,0,[]⟩).items.any fun x=>!Ah x.amt)=false:=by
   rw [List.any_eq_false];intro x hx;simp [q3 x hx]
  rw [e3]
  have e1:decide ((l.getD k ⟨0,false,0,0,[]⟩).ent<0)=false:=by simpa using q1
  have e2:decide (12≤(l.getD k ⟨0,false,0,0,[]⟩).ent)=false:=by simpa using q2
  rw [e1,e2]
  rcases Nat.eq_zero_or_pos k with k0|k0
  ·subst k0;simp
  ·have:=List.pairwise_iff_getElem.1 h1 (k-1) k (by omega) hk (by omega)
   simp only [List.getD_eq_getElem?_getD,List.getElem?_eq_getElem hk,List.getElem?_eq_getElem (show k-1<l.length by omega),Option.getD_some]
   simp;omega
 ·intro h
  rw [Xd]
  have hb : ∀k (hk:k<l.length),Ju l k l[k]=false:=fun k hk=>by
   have:=List.all_eq_true.1 h k (List.mem_range.2 hk)
   simpa [List.getD_eq_getElem?_getD,hk] using this
  constructor
  ·intro s hs
   obtain⟨k,hk,rfl⟩:=List.mem_iff_getElem.1 hs
   have:=hb k hk
   unfold Ju at this
   simp only [Bool.or_eq_false_iff,decide_eq_false_iff_not] at this
   refine⟨by omega,by omega,fun x hx=>?_⟩
   have h3:=List.any_eq_false.1 this.2.2 x hx
   simpa using h3
  ·apply G4
   intro i x y hx hy
   obtain⟨h1,rfl⟩:=List.getElem?_eq_some_iff.1 hy
   obtain⟨h2,rfl⟩:=List.getElem?_eq_some_iff.1 hx
   have:=hb (i+1) h1
   unfold Ju at this
   simp only [Bool.or_eq_false_iff,decide_eq_false_iff_not] at this
   have h3:=this.2.1
   simp [List.getD_eq_getElem?_getD,h2] at h3
   exact h3
theorem Xj {l:List Src} (h:Dc l=true):l.length≤12:=by
 have h1:=I9 h
 have key : ∀k (hk:k<l.length),(k:Int)≤l[k].ent:=by
  intro k
  induction k with
  | zero=>intro hk;exact (E2 h (List.getElem_mem hk)).1
  | succ k ih=>
   intro hk
   have h2:=ih (by omega)
   have h3:=List.pairwise_iff_getElem.1 h1 k (k+1) (by omega) hk (by omega)
   push_cast;omega
 rcases Nat.lt_or_ge 12 l.length with h2|h2
 ·have h3:=key 12 h2
  have h4:=(E2 h (List.getElem_mem h2)).2.1
  omega
 ·exact h2
theorem Mm (l:List Src) (hl:l.length≤1000000):A8 Tryz.prog 28 [Src.l l] (vB (Dc l)):=by
 obtain⟨R,hR⟩ : ∃R,R=Dc l:=⟨_,rfl⟩
 rw [←hR]
 have hok:=Xi l
 rw [←hR] at hok
 have hcon : ∀it:List Item,A8 Tryz.prog 65 [Item.l it,.fn (.func 66) []] (vB (it.any fun x=>!Ah x.amt)):=fun it=>Ro St0 A1u it 66 [] rfl (fun x=>!Ah x.amt) (fun x _=>A5r x)
 (refine A8.of_code mix Tryz.call28 k_28 (by simp) (fun hB=>?_);(try simp at hB);(try simp -implicitDefEqProofs))
 (try simp -implicitDefEqProofs)
 refine A7 (X:=Nat) (fun k=>k≤l.length∧∀j,j<k→Ju l j (l.getD j ⟨0,false,0,0,[]⟩)=false) (fun k=>[(0,Src.l l),(5,Src.l l),(6,vI l.length),(7,vI k)]) (fun _=>⟨[],[]⟩) (fun k=>l.length-k) 0 ⟨by omega,fun j h=>by omega⟩ ?hs ?_
 case hs=>simp [Src.l,okN]
 rintro k ⟨hk,hb⟩ hbd
 clear hbd
 have e3:IntKind.i64.wrap ((k:Int)+1)=(k:Int)+1:=wrap64 (by omega) (by omega)
 have e4:IntKind.i64.wrap ((k:Int)-1)=(k:Int)-1:=wrap64 (by omega) (by omega)
 rcases Nat.lt_or_ge k l.length with h|h
 ·obtain⟨s,hs⟩:=Aa h
  have hgd:l.getD k ⟨0,false,0,0,[]⟩=s:=by rw [List.getD_eq_getElem?_getD,hs];rfl
  have hsc:(l.map Src.c)[k]?=some s.c:=by simp [hs]
  have hsc' : ∀h,(l.map Src.c)[k]'h=s.c:=fun h=>by rw [List.getElem?_eq_getElem h] at hsc;exact Option.some.inj hsc
  have hcc:s.c=[.int .i64 s.ent,.bool s.full,.bool (nB s.num),.sl (pE s.num),.bool (nB s.den),.sl (pE s.den),.sl (s.items.map Item.c)]:=rfl
  rw [hcc] at hsc hsc'
  have hfail:Ju l k s=true→R=false:=fun hq=>by
   rw [hok,List.all_eq_false]
   exact⟨k,List.mem_range.2 h,by rw [hgd,hq];simp⟩
  have hnext:Ju l k s=false→∀j,j<k+1→Ju l j (l.getD j ⟨0,false,0,0,[]⟩)=false:=fun hq j hj=>by
   rcases Nat.lt_or_ge j k with h1|h1
   ·exact hb j h1
   ·have:j=k:=by omega
    subst this;rw [hgd];exact hq
  have hcon1:=hcon s.items
  by_cases c1:s.ent<0
  ·have hf:=hfail (by simp [Ju,c1])
   rw [hf]
   (try simp -implicitDefEqProofs [h,hsc,hsc',Src.l,c1])
  by_cases c2:12≤s.ent
  ·have hf:=hfail (by simp [Ju,c2])
   rw [hf]
   (try simp -implicitDefEqProofs [h,hsc,hsc',Src.l,c1,c2])
  have hrest:Ju l k s=((decide (0<k)&&decide (s.ent≤(l.getD (k-1) ⟨0,false,0,0,[]⟩).ent))||s.items.any fun x=>!Ah x.amt):=by
   unfold Ju
   have d1:decide (s.ent<0)=false:=by simpa using c1
   have d2:decide (12≤s.ent)=false:=by simpa using c2
   rw [d1,d2];rfl
  rcases Nat.eq_zero_or_pos k with k0|k0
  ·subst k0
   cases ha:(s.items.any fun x=>!Ah x.amt)
   ·have hn:=hnext (by rw [hrest,ha];rfl)
    rw [ha] at hcon1
    ((try simp at hcon1);(try simp -implicitDefEqProofs [h,hsc,hsc',Src.l,c1,c2]);repeat' first|(with_reducible apply A0<;>first|(simp only [eras,era,A1];first|with_reducible assumption)|(simp -implicitDefEqProofs [h,hsc,hsc',Src.l,c1,c2])))
    exact⟨1,⟨by omega,by simpa [List.getD_eq_getElem?_getD] using hn⟩,by omega,rfl⟩
   ·rw [hfail (by rw [hrest,ha];simp)]
    rw [ha] at hcon1
    ((try simp at hcon1);(try simp -implicitDefEqProofs [h,hsc,hsc',Src.l,c1,c2]);repeat' first|(with_reducible apply A0<;>first|(simp only [eras,era,A1];first|with_reducible assumption)|(simp -implicitDefEqProofs [h,hsc,hsc',Src.l,c1,c2])))
  ·obtain⟨q,hq⟩:=Aa (show k-1<l.length by omega)
   have hgq:l.getD (k-1) ⟨0,false,0,0,[]⟩=q:=by rw [List.getD_eq_getElem?_getD,hq];rfl
   rw [hgq] at hrest
   have hqc:(l.map Src.c)[k-1]?=some q.c:=by simp [hq]
   have hqc' : ∀h,(l.map Src.c)[k-1]'h=q.c:=fun h=>by rw [List.getElem?_eq_getElem h] at hqc;exact Option.some.inj hqc
   have hqq:q.c=[.int .i64 q.ent,.bool q.full,.bool (nB q.num),.sl (pE q.num),.bool (nB q.den),.sl (pE q.den),.sl (q.items.map Item.c)]:=rfl
   rw [hqq] at hqc hqc'
   have i1:((k:Int)-1).toNat=k-1:=by omega
   have j1:(1:Int)≤k:=by omega
   have j2:(k:Int)-1<l.length:=by omega
   have d0:decide (0<k)=true:=by simpa using k0
   rw [d0,Bool.true_and] at hrest
   by_cases c3:s.ent≤q.ent
   ·rw [hfail (by rw [hrest];simp [c3])]
    (try simp -implicitDefEqProofs [h,hsc,hsc',hqc,hqc',Src.l,c1,c2,k0,i1,j1,j2,e4,c3])
   ·have d3:decide (s.ent≤q.ent)=false:=by simpa using c3
    rw [d3,Bool.false_or] at hrest
    cases ha:(s.items.any fun x=>!Ah x.amt)
    ·have hn:=hnext (by rw [hrest,ha])
     rw [ha] at hcon1
     ((try simp at hcon1);(try simp -implicitDefEqProofs [h,hsc,hsc',hqc,hqc',Src.l,c1,c2,k0,i1,j1,j2,e4,c3,e3]);repeat' first|(with_reducible apply A0<;>first|(simp only [eras,era,A1];first|with_reducible assumption)|(simp -implicitDefEqProofs [h,hsc,hsc',hqc,hqc',Src.l,c1,c2,k0,i1,j1,j2,e4,c3,e3])))
     exact⟨k+1,⟨by omega,by simpa [List.getD_eq_getElem?_getD] using hn⟩,by omega,by push_cast;rfl⟩
    ·rw [hfail (by rw [hrest,ha])]
     rw [ha] at hcon1
     ((try simp at hcon1);(try simp -implicitDefEqProofs [h,hsc,hsc',hqc,hqc',Src.l,c1,c2,k0,i1,j1,j2,e4,c3]);repeat' first|(with_reducible apply A0<;>first|(simp only [eras,era,A1];first|with_reducible assumption)|(simp -implicitDefEqProofs [h,hsc,hsc',hqc,hqc',Src.l,c1,c2,k0,i1,j1,j2,e4,c3])))
 ·have hkk:k=l.length:=by omega
  subst hkk
  have hRt:R=true:=by
   rw [hok]
   exact List.all_eq_true.2 fun j hj=>by rw [hb j (List.mem_range.1 hj)];rfl
  have h12:(l.length:Int)≤12:=by have:=Xj (by rw [←hR];exact hRt);omega
  have h12':l.length≤12:=by omega
  rw [hRt]
  (try simp -implicitDefEqProofs [Src.l,h12,h12'])
theorem Kk : ∀(a:List (Option Posting)) (o:List Posting),Av o a=match Bi a with
  | some q=>(o++q,0)
  | none=>((Av o a).1,2)
 | [],o=>by simp [Av,Bi]
 | none::a,o=>by simp [Av,Bi]
 | some p::a,o=>by
  have ih:=Kk a (if p.parts=[] then o else o++[p])
  simp only [Av,Bi]
  rw [ih]
  cases Bi a with
  | none=>simp
  | some q=>by_cases h:p.parts=[]<;>simp [h]
def Ud (r:Option (List Posting)):List Posting×Int:=match r with
 | some q=>(q,0)
 | none=>([],2)
theorem Pb {c:List Code} {l:List Src} (h1:Dc l=true) (h2:(c.all fun x=>(D7 x).2)=true):Cx c l=Ud (Ff c l):=by
 unfold Cx Ud
 rw [if_pos ⟨h1,h2⟩]
 cases Ff c l<;>rfl
theorem Mn (a:List (Option Posting)):Rm (Av [] a)=Ud (Bi a):=by
 rw [Kk]
 cases Bi a<;>simp [Rm,Ud]
theorem Jv (c:List Code) (l:List Src):Bi (E5 (fun i s o=>Ce (c.getD i ⟨[],false,[]⟩) s o i) l (fun i=>(c.getD i ⟨[],false,[]⟩).pair) (List.range c.length))=Ff c l:=by
 rw [Xc]
 unfold E5
 congr 1
 congr 1
 funext i
 exact (Xh (fun s o=>Ce (c.getD i ⟨[],false,[]⟩) s o i) l (c.getD i ⟨[],false,[]⟩).pair).symm
theorem A0b (c:Code) (hlen:c.ins.length≤1000000):A8 Tryz.prog 48 [c.v] (vB (D7 c).2):=by
 have hm:=A7m c hlen
 generalize D7 c=r at *
 obtain⟨n,ok⟩:=r
 obtain⟨cn,pair,ins⟩:=c
 simp only [vO] at hm
 (refine A8.of_code mix Tryz.call48 k_48 (by simp) (fun hB=>?_);(try simp at hB);(try simp -implicitDefEqProofs))
 ((try simp at hm);(try simp -implicitDefEqProofs);repeat' first|(with_reducible apply A0<;>first|(simp only [eras,era,A1];first|with_reducible assumption)|(simp -implicitDefEqProofs)))
theorem A5s (c:Code) (hlen:c.ins.length≤1000000):A8 Tryz.prog 54 [c.v] (vB (!(D7 c).2)):=by
 have hv:=A0b c hlen
 obtain⟨cn,cp,ins⟩:=c
 (refine A8.of_code mix Tryz.call54 k_54 (by simp) (fun hB=>?_);(try simp at hB);(try simp -implicitDefEqProofs))
 ((try simp at hv);(try simp -implicitDefEqProofs);repeat' first|(with_reducible apply A0<;>first|(simp only [eras,era,A1];first|with_reducible assumption)|(simp -implicitDefEqProofs)))
theorem A5t (cs:List Code) (i:Nat) (c:Code) (hc:cs[i]?=some c) (cb:Nat) (S:St) (hS:OkT S) (hcb:S.boxes[cb]?=some (.cells [Code.l cs])):FnS Tryz.prog 55 [vI i,.ptr cb 0] S (vB c.pair) S:=by
 have hci:=A4 hc
 have hcc:(cs.map Code.c)[i]?=some c.c:=by simp [hc]
 have hcc' : ∀h,(cs.map Code.c)[i]'h=c.c:=fun h=>by rw [List.getElem?_eq_getElem h] at hcc;exact Option.some.inj hcc
 obtain⟨cn,cp,ins⟩:=c
 have hS':=hS.S
 simp [OkS] at hS'
 (refine FnS.of_code mix Tryz.call55 k_55 (by simp) (fun hB=>?_);(try simp at hB);(try simp -implicitDefEqProofs))
 (try simp -implicitDefEqProofs [hcb,hcc,hcc',Code.l,Code.c,hci,hS'])
theorem A5u (cs:List Code) (l:List Src) (hl:l.length≤13) (hc:cs.length≤100) (hci : ∀c∈cs,c.ins.length≤8000) (hs : ∀s∈l,s.num.natAbs≤100000∧0<s.den∧s.den≤100000∧s.items.length≤1000) :
  A8 Tryz.prog 22 [Code.l cs,Src.l l] (psV (Cx cs l)):=by
 have hv:=Mm l (by omega)
 have hcon:A8 Tryz.prog 53 [Code.l cs,.fn (.func 54) []] (vB (cs.any fun c=>!(D7 c).2)):=Rp St0 A1u cs 54 [] rfl (fun c=>!(D7 c).2) (fun c hm=>A5s c (by have:=hci c hm;omega))
 cases h1:Dc l
 ·rw [h1] at hv
  unfold Cx
  rw [if_neg (by simp [h1])]
  unfold Src.l at hv ⊢
  (refine A8.of_code mix Tryz.call22 k_22 (by simp) (fun hB=>?_);(try simp at hB);(try simp -implicitDefEqProofs))
  ((try simp at hv);(try simp -implicitDefEqProofs [psV]);repeat' first|(with_reducible apply A0<;>first|(simp only [eras,era,A1];first|with_reducible assumption)|(simp -implicitDefEqProofs [psV])))
 ·rw [h1] at hv
  cases h2:(cs.any fun c=>!(D7 c).2)
  ·rw [h2] at hcon
   have hall:(cs.all fun x=>(D7 x).2)=true:=by
    rw [List.all_eq_true];intro x hx
    have:=List.any_eq_false.1 h2 x hx
    simpa using this
   rw [Pb h1 hall]
   have hcol:=O7 55 56 [.ptr 0 0] [.ptr 0 0] [.cells [Code.l cs]] (fun n m hn=>⟨⟨A3 _,rfl⟩,trivial⟩) l cs.length (fun i=>(cs.getD i ⟨[],false,[]⟩).pair) (fun i s o=>Ce (cs.getD i ⟨[],false,[]⟩) s o i) hl hc rfl (fun k m hk=>by simp [okNs,okN];simp at hk;omega) (fun k m hk=>by simp [okNs,okN];simp at hk;omega)
    (fun i C tk hi hT=>by
     obtain⟨c,hx⟩:=Aa hi
     have e:cs.getD i ⟨[],false,[]⟩=c:=by rw [List.getD_eq_getElem?_getD,hx];rfl
     rw [e]
     exact A5t cs i c hx 0 _ hT rfl)
    (fun i C tk b mb s oth hi hsm hf hp hT hb hmb=>by
     obtain⟨c,hx⟩:=Aa hi
     have e:cs.getD i ⟨[],false,[]⟩=c:=by rw [List.getD_eq_getElem?_getD,hx];rfl
     rw [e] at hp ⊢
     have hcm:c∈cs:=List.mem_of_getElem? hx
     obtain⟨q1,q2,q3,q4⟩:=hs s hsm
     have q5:=(E2 h1 hsm).2.2
     exact A5p 0 b mb i cs c _ hT s oth ⟨q1,q2,q3,q4,q5⟩ rfl hx hb hmb (List.all_eq_true.1 hall c hcm) (hci c hcm) (fun hpp=>by
      rw [if_pos hpp] at hp
      obtain⟨t,ht1,_,ht3,_⟩:=hp
      rw [←ht3];exact (E2 h1 ht1).1))
   rw [Mn,Jv] at hcol
   generalize Ud (Ff cs l)=W at *
   obtain⟨w1,w2⟩:=W
   unfold psV Src.l at hcol ⊢
   unfold Src.l at hv
   (refine A8.of_code mix Tryz.call22 k_22 (by simp) (fun hB=>?_);(try simp at hB);(try simp -implicitDefEqProofs))
   ((try simp at hv hcon);(try simp -implicitDefEqProofs);repeat' first|(with_reducible apply A0<;>first|(simp only [eras,era,A1];first|with_reducible assumption)|(simp -implicitDefEqProofs)))
   refine Ab hcol ?_
   (try simp -implicitDefEqProofs)
  ·rw [h2] at hcon
   unfold Cx
   rw [if_neg (fun h=>by
    obtain⟨x,hx,hq⟩:=List.any_eq_true.1 h2
    have:=List.all_eq_true.1 h.2 x hx
    rw [this] at hq;cases hq)]
   unfold Src.l at hv ⊢
   (refine A8.of_code mix Tryz.call22 k_22 (by simp) (fun hB=>?_);(try simp at hB);(try simp -implicitDefEqProofs))
   ((try simp at hv hcon);(try simp -implicitDefEqProofs [psV]);repeat' first|(with_reducible apply A0<;>first|(simp only [eras,era,A1];first|with_reducible assumption)|(simp -implicitDefEqProofs [psV])))

namespace E
theorem Rq {α:Type} {l:List α} {j:Nat} (h:j<l.length) (a b:α):l.getD j a=l.getD j b:=by simp [List.getD_eq_getElem?_getD,h]
theorem FnS.frz {P:Program} {f:Nat} {vs:List V} {S:St} {r:V} (h:A8 P f (eras (frzVs vs S).1) r):FnS P f vs S r (frzVs vs S).2:=by
 have hc:=h.call (frzVs vs S).2
 refine⟨hc.1,fun g w us hI hus hrel=>?_⟩
 obtain⟨h1,h0,g1,h2,h3,h4⟩:=frzVs_sound vs (fun j=>us.getD j undef) hI (fun j hj=>by rw [Rq hj .junk .und];exact hrel j hj)
 refine (hc.2 g1 w us h2.inv (by rw [hus,h3]) (fun j hj=>?_)).mono ?_
 ·rw [h1,Rq hj .und .junk];exact h4 j (by rw [h3] at hj;exact hj)
 ·rintro e w' ⟨u,g',he,hr,hm⟩
  exact⟨u,g',he,hr,h2.trans hm⟩
theorem Jw {P:Program} {f:Nat} {vs:List V} {S:St} {K R:V→St→Prop} {r:V} (h:A8 P f (eras (frzVs vs S).1) r) (k:K r (frzVs vs S).2):Fl P false f vs S K R:=Ab (FnS.frz h) k
end E
theorem A5v (x y:Nat) (hxl:(A9 b4 x).length≤1000) (hyx:y≤x):A8 Tryz.prog 185 [.t (lT .i64 (A9 b4 x)),.t (lT .i64 (A9 b4 y))] (.t (lT .i64 (A9 b4 (x-y)))):=by
 have hx:=Ar Bt x
 have hy:=Ar Bt y
 have hlx:=An Bt x
 have hly:=An Bt y
 have hle:=F7 Bt hyx
 have htr : ∀o:List Nat,Lim b4 o→lvl b4 o=x-y→A8 Tryz.prog 149 [.t (.sl (lE .i64 o))] (.t (.sl (lE .i64 (A9 b4 (x-y))))):=fun o h1 h2=>by
  have:=Hd h1
  rw [h2] at this
  exact this
 unfold lT
 generalize A9 b4 (x-y)=R at *
 generalize A9 b4 x=a at *
 generalize A9 b4 y=b at *
 (refine A8.of_code mix Tryz.call185 k_185 (by simp) (fun hB=>?_);(try simp at hB);(try simp -implicitDefEqProofs))
 refine Bm [(.slot 5,3,1)] (X:=List Nat×Nat) (fun X=>Lim b4 X.1∧X.2≤1∧X.1.length≤a.length∧lvl b4 X.1+lvl b4 (b.take X.1.length)=lvl b4 (a.take X.1.length)+X.2*b4 ^ X.1.length)
  (fun X=>[(0,.t (.sl (lE .i64 a))),(1,.t (.sl (lE .i64 b))),(5,.own 0 3 1 (lE .i64 X.1)),(6,vI X.2),(7,vI X.1.length)]) (fun X=>⟨[],[X.1.length]⟩) (fun X=>a.length-X.1.length) ([],0) ⟨(fun x hx=>by simp at hx),by simp,by simp,by simp [lvl]⟩ ?hs ?_
 case hs=>simp [D4]
 rintro ⟨o,r⟩ ⟨ho,hr,hol,he⟩ hbd
 simp only [] at ho hr hol he
 clear hbd
 have e3:IntKind.i64.wrap ((o.length:Int)+1)=(o.length:Int)+1:=wrap64 (by omega) (by omega)
 rcases Nat.lt_or_ge o.length a.length with h1|h1
 ·obtain⟨u,hu⟩:=Aa h1
  have hub:=hx.at hu
  have g1:=C7 (k:=.i64) hu
  have g2:=Bo (k:=.i64) hu
  have step : ∀v d q:Nat,d+r+v=u+q*b4→d<b4→q≤1→lvl b4 (b.take (o.length+1))=lvl b4 (b.take o.length)+b4 ^ o.length*v→
    Lim b4 (o++[d])∧q≤1∧(o++[d]).length≤a.length∧lvl b4 (o++[d])+lvl b4 (b.take (o++[d]).length)=lvl b4 (a.take (o++[d]).length)+q*b4 ^ (o++[d]).length:=fun v d q h2 h3 h4 h5=>by
   have hl1:(o++[d]).length=o.length+1:=by simp
   refine⟨ho.app (Lim.one h3),h4,by omega,?_⟩
   rw [hl1,h5,Bg hu]
   exact Zc rfl he h2
  have w1:IntKind.i64.wrap ((u:Int)-(r:Int))=(u:Int)-(r:Int):=wrap64 (by omega) (by unfold b4 at hub;omega)
  have go : ∀v:Nat,v<b4→((o.length<b.length∧b[o.length]?=some v)∨(¬o.length<b.length∧v=0))→lvl b4 (b.take (o.length+1))=lvl b4 (b.take o.length)+b4 ^ o.length*v:=fun v hv h=>by
   rcases h with ⟨_,h⟩|⟨h,rfl⟩
   ·exact Bg h
   ·rw [List.take_of_length_le (by omega),List.take_of_length_le (by omega)];simp
  unfold b4 at hub
  rcases Nat.lt_or_ge o.length b.length with h2|h2
  ·obtain⟨v,hv⟩:=Aa h2
   have hvb:=hy.at hv
   have eb:=go v hvb (.inl ⟨h2,hv⟩)
   unfold b4 at hvb
   have g3:=C7 (k:=.i64) hv
   have g4:=Bo (k:=.i64) hv
   have w2:IntKind.i64.wrap ((u:Int)-(r:Int)-(v:Int))=(u:Int)-(r:Int)-(v:Int):=wrap64 (by omega) (by omega)
   by_cases hn:(u:Int)-(r:Int)-(v:Int)<0
   ·obtain⟨d,hd⟩ : ∃d:Nat,(u:Int)-(r:Int)-(v:Int)+10000=(d:Int):=⟨((u:Int)-(r:Int)-(v:Int)+10000).toNat,by omega⟩
    have w3:IntKind.i64.wrap (d:Int)=(d:Int):=Ek (by omega)
    have st:=step v d 1 (by unfold b4;omega) (by unfold b4;omega) (by omega) eb
    (try simp -implicitDefEqProofs [h1,h2,g1,g2,g3,g4,w1,w2,hn,hd,w3,e3,maxLen])
    all_goals exact⟨⟨by omega,by omega⟩,o++[d],1,st,by simp;omega,by simp,by rw [Gx];exact .inl (.inl rfl),rfl,by simp⟩
   ·obtain⟨d,hd⟩ : ∃d:Nat,(u:Int)-(r:Int)-(v:Int)=(d:Int):=⟨((u:Int)-(r:Int)-(v:Int)).toNat,by omega⟩
    have st:=step v d 0 (by unfold b4;omega) (by unfold b4;omega) (by omega) eb
    have w2:=w2.trans hd
    have hn' : ¬(d:Int)<0:=by omega
    (try simp -implicitDefEqProofs [h1,h2,g1,g2,g3,g4,w1,w2,hn',e3,maxLen])
    all_goals exact⟨⟨by omega,by omega⟩,o++[d],0,st,by simp;omega,by simp,by rw [Gx];exact .inl (.inl rfl),rfl,by simp⟩
  ·have h2' : ¬o.length<b.length:=by omega
   have eb:=go 0 Zl (.inr ⟨h2',rfl⟩)
   by_cases hn:(u:Int)-(r:Int)<0
   ·obtain⟨d,hd⟩ : ∃d:Nat,(u:Int)-(r:Int)+10000=(d:Int):=⟨((u:Int)-(r:Int)+10000).toNat,by omega⟩
    have w3:IntKind.i64.wrap (d:Int)=(d:Int):=Ek (by omega)
    have st:=step 0 d 1 (by unfold b4;omega) (by unfold b4;omega) (by omega) eb
    (try simp -implicitDefEqProofs [h1,h2',g1,g2,w1,hn,hd,w3,e3,maxLen])
    all_goals exact⟨⟨by omega,by omega⟩,o++[d],1,st,by simp;omega,by simp,by rw [Gx];exact .inl (.inl rfl),rfl,by simp⟩
   ·obtain⟨d,hd⟩ : ∃d:Nat,(u:Int)-(r:Int)=(d:Int):=⟨((u:Int)-(r:Int)).toNat,by omega⟩
    have st:=step 0 d 0 (by unfold b4;omega) (by unfold b4;omega) (by omega) eb
    have w1:=w1.trans hd
    have hn' : ¬(d:Int)<0:=by omega
    (try simp -implicitDefEqProofs [h1,h2',g1,g2,w1,hn',e3,maxLen])
    all_goals exact⟨⟨by omega,by omega⟩,o++[d],0,st,by simp;omega,by simp,by rw [Gx];exact .inl (.inl rfl),rfl,by simp⟩
 ·have hoa:o.length=a.length:=by omega
  rw [hoa,List.take_of_length_le (Nat.le_refl _),List.take_of_length_le hle,hlx,hly] at he
  have hr0:r=0:=by
   rcases (by omega:r=0∨r=1) with h|h
   ·exact h
   ·have:=Jm ho
    rw [hoa] at this
    subst h;omega
  subst hr0
  have ht:=htr o ho (by omega)
  have h1' : ¬o.length<a.length:=by omega
  ((try simp at ht);(try simp -implicitDefEqProofs [h1']);repeat' first|(with_reducible apply A0<;>first|(simp only [eras,era,A1];first|with_reducible assumption)|(simp -implicitDefEqProofs [h1'])))
theorem A5w (x y:Nat) (hxl:(A9 b4 x).length≤1000) (hyl:(A9 b4 y).length≤1000):A8 Tryz.prog 186 [.t (lT .i64 (A9 b4 x)),.t (lT .i64 (A9 b4 y))] (.t (lT .i64 (A9 b4 (x*y)))):=by
 have hx:=Ar Bt x
 have hy:=Ar Bt y
 have hlx:=An Bt x
 have hly:=An Bt y
 have htr : ∀o:List Nat,Lim b4 o→lvl b4 o=x*y→A8 Tryz.prog 149 [.t (.sl (lE .i64 o))] (.t (.sl (lE .i64 (A9 b4 (x*y))))):=fun o h1 h2=>by
  have:=Hd h1
  rw [h2] at this
  exact this
 unfold lT
 generalize A9 b4 (x*y)=R at *
 generalize A9 b4 x=a at *
 generalize A9 b4 y=b at *
 have e9:IntKind.i64.wrap ((a.length:Int)+(b.length:Int))=((a.length+b.length:Nat):Int):=by rw [←Int.natCast_add];exact Ek (by omega)
 obtain⟨n,hn⟩ : ∃n,n=a.length+b.length:=⟨_,rfl⟩
 rw [←hn] at e9
 have n1:(n:Int)≤maxLen:=by unfold maxLen;omega
 have n1':n≤maxLen:=by unfold maxLen;omega
 have n2:(n:Int)*8≤140737488355328:=by omega
 (refine A8.of_code mix Tryz.call186 k_186 (by simp) (fun hB=>?_);(try simp at hB);(try simp -implicitDefEqProofs))
 (try simp -implicitDefEqProofs [e9,n1,n1',n2])
 refine A7 (X:=Nat×List Nat) (fun X=>X.1≤a.length∧X.2.length=n∧Lim b4 X.2∧lvl b4 X.2=lvl b4 (a.take X.1)*lvl b4 b∧∀j,X.1+b.length≤j→j<n→X.2[j]?=some 0)
  (fun X=>[(0,.t (.sl (lE .i64 a))),(1,.t (.sl (lE .i64 b))),(5,.bw 0 n),(6,vI X.1)]) (fun X=>⟨[.buf 3 1 (bE .i64 X.2)],[]⟩) (fun X=>a.length-X.1) (0,List.replicate n 0) ?h0 ?hs ?_
 case h0=>exact⟨by simp,by simp,Lim.zeros Zl n,by rw [Jl];simp [lvl],fun j _ h=>by rw [List.getElem?_replicate,if_pos h]⟩
 case hs=>
  simp [B9,bE,List.map_replicate]
  first|done|exact U5 fun v hv=>⟨_,(List.mem_replicate.1 hv).2⟩
 rintro ⟨i,o0⟩ ⟨hi,hol,hoL,hov,hoz⟩ hbd
 simp only [] at hi hol hoL hov hoz
 clear hbd
 rcases Nat.lt_or_ge i a.length with h|h
 ·obtain⟨d,hd⟩:=Aa h
  have hdb:=hx.at hd
  have g1:=C7 (k:=.i64) hd
  have g2:=Bo (k:=.i64) hd
  have e3:IntKind.i64.wrap ((i:Int)+1)=(i:Int)+1:=wrap64 (by omega) (by omega)
  (try simp -implicitDefEqProofs [h,g1,g2,e3])
  refine A7 (X:=Nat×List Nat×Nat) (fun X=>X.1≤b.length∧X.2.1.length=n∧Lim b4 X.2.1∧X.2.2<b4∧lvl b4 X.2.1+X.2.2*b4 ^ (i+X.1)=lvl b4 o0+b4 ^ i*(d*lvl b4 (b.take X.1))∧∀j,i+b.length≤j→j<n→X.2.1[j]?=some 0)
   (fun X=>[(0,.t (.sl (lE .i64 a))),(1,.t (.sl (lE .i64 b))),(5,.bw 0 n),(6,vI i),(7,vI X.2.2),(8,vI X.1)]) (fun X=>⟨[.buf 3 1 (bE .i64 X.2.1)],[]⟩) (fun X=>b.length-X.1) (0,o0,0) ?h1 ?hs1 ?_
  case h1=>exact⟨by simp,hol,hoL,Zl,by simp [lvl],hoz⟩
  case hs1=>simp [B9]
  rintro ⟨k,o,c⟩ ⟨hk,ho,hL,hc,he,hz⟩ hbd
  simp only [] at hk ho hL hc he hz
  clear hbd
  rcases Nat.lt_or_ge k b.length with h2|h2
  ·obtain⟨y',hy'⟩:=Aa h2
   obtain⟨u,hu⟩:=Aa (show i+k<o.length by omega)
   have hub:=hL.at hu
   have hyb:=hy.at hy'
   have st:=R9 (a:=a) Bt hdb hy' hu hc hL hy he
   have g3:=C7 (k:=.i64) hy'
   have g4:=Bo (k:=.i64) hy'
   have g5:=Jn (k:=.i64) hu
   have g6:=J2 (k:=.i64) hu
   unfold b4 at hub hyb hdb hc
   have hpr:d*y'≤9999*9999:=Nat.mul_le_mul (by omega) (by omega)
   obtain⟨P,hP⟩ : ∃P,P=d*y':=⟨_,rfl⟩
   rw [←hP] at st hpr
   obtain⟨N,hN⟩ : ∃N,N=P+u+c:=⟨_,rfl⟩
   rw [←hN] at st
   obtain⟨q,hq⟩ : ∃q,q=N / b4:=⟨_,rfl⟩
   obtain⟨r,hr⟩ : ∃r,r=N % b4:=⟨_,rfl⟩
   rw [←hq,←hr] at st
   have v3:IntKind.i64.wrap ((d:Int)*(y':Int))=(P:Int):=by rw [hP];exact Ek (x:=d*y') (by omega)
   have v5:IntKind.i64.wrap ((u:Int)+(P:Int))=(u:Int)+(P:Int):=Ek (x:=u+P) (by omega)
   have v6:IntKind.i64.wrap ((u:Int)+(P:Int)+(c:Int))=(N:Int):=by rw [hN,show P+u+c=u+P+c by omega];exact Ek (x:=u+P+c) (by omega)
   have q1:(N:Int).tdiv 10000=(q:Int):=by rw [hq];rfl
   have q2:IntKind.i64.wrap (q:Int)=(q:Int):=Ek (by rw [hq];unfold b4;omega)
   have r1:(N:Int).tmod 10000=(r:Int):=by rw [hr];rfl
   have r2:IntKind.i64.wrap (r:Int)=(r:Int):=Ek (by rw [hr];unfold b4;omega)
   have e4:IntKind.i64.wrap ((i:Int)+(k:Int))=(i:Int)+(k:Int):=Ek (x:=i+k) (by omega)
   have e5:IntKind.i64.wrap ((k:Int)+1)=(k:Int)+1:=wrap64 (by omega) (by omega)
   have i1:((i:Int)+(k:Int)).toNat=i+k:=by omega
   have i2:(i:Int)+(k:Int)<n:=by omega
   have i3:(0:Int)≤(i:Int)+(k:Int):=by omega
   have i4:i+k+1≤n:=by omega
   have hp:=De (k:=.i64) r (show i+k<o.length by omega)
   (try simp -implicitDefEqProofs [h,h2,g1,g2,g3,g4,g5,g6,v3,v5,v6,q1,q2,r1,r2,e4,e5,i1,i2,i3,i4,hp,ho])
   refine⟨k+1,o.set (i+k) r,q,⟨by omega,by simp [ho],st.1,st.2.1,st.2.2,fun j h1 h2=>?_⟩,by omega,?_⟩
   ·rw [List.getElem?_set_ne (by omega)];exact hz j h1 h2
   ·simp [B9]
  ·have hkb:k=b.length:=by omega
   subst hkb
   have e4:IntKind.i64.wrap ((i:Int)+(b.length:Int))=((i+b.length:Nat):Int):=Ek (x:=i+b.length) (by omega)
   obtain⟨p,hp⟩ : ∃p,p=i+b.length:=⟨_,rfl⟩
   rw [←hp] at e4 he hz
   have hpz:=hz p (Nat.le_refl _) (by omega)
   have hb1:b.take b.length=b:=List.take_of_length_le (Nat.le_refl _)
   rw [hb1,hly] at he
   have hset:=L8 (B:=b4) (v:=c) hpz
   have hdone:(o.set p c).length=n∧Lim b4 (o.set p c)∧lvl b4 (o.set p c)=lvl b4 (a.take (i+1))*y∧∀j,i+1+b.length≤j→j<n→(o.set p c)[j]?=some 0:=by
    refine⟨by simp [ho],hL.set hc _,?_,fun j h1 h2=>?_⟩
    ·rw [Bg hd,Nat.add_mul]
     rw [hly] at hov
     have e1:b4 ^ i*d*y=b4 ^ i*(d*y):=Nat.mul_assoc _ _ _
     have e2:c*b4 ^ p=b4 ^ p*c:=Nat.mul_comm _ _
     omega
    ·rw [List.getElem?_set_ne (by omega)];exact hz j (by omega) h2
   rw [hly]
   have i2:p<n:=by omega
   have i4:p+1≤n:=by omega
   have hpp:=De (k:=.i64) c (show p<o.length by omega)
   (try simp -implicitDefEqProofs [e4,e3,i2,i4,hpp,ho])
   exact⟨i+1,o.set p c,⟨by omega,hdone⟩,by omega,by simp [B9]⟩
 ·have hia:i=a.length:=by omega
  subst hia
  rw [List.take_of_length_le (Nat.le_refl _),hlx,hly] at hov
  have ht:=htr o0 hoL hov
  have hrow:=D6 .i64 o0
  rw [hol] at hrow
  have hbt:(bE .i64 o0).take n=bE .i64 o0:=List.take_of_length_le (by simp;omega)
  (try simp -implicitDefEqProofs)
  refine Jw (r:=.t (.sl (lE .i64 R))) ?_ ?_
  ·simp [frzVs,Bs,Ef,hbt,hrow,eras,era]
   exact ht
  ·(try simp -implicitDefEqProofs [hbt,hrow,Bs,frzVs,Ef])
end Go.Proofs.YtmlpmdccfmmpoaaGreatDoor
