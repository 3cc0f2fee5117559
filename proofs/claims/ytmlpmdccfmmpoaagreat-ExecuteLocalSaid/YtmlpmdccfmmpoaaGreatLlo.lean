/- Chapter 35: the law ExecuteLocal. -/
import Derived.Test.YtmlpmdccfmmpoaaGreatLcE
import Derived.Test.YtmlpmdccfmmpoaaGreatExX
import Derived.Test.YtmlpmdccfmmpoaaGreatLit
set_option linter.unusedSimpArgs false
set_option linter.unusedVariables false
set_option maxHeartbeats 4000000
set_option maxRecDepth 8000
namespace Go.Proofs.YtmlpmdccfmmpoaaGreat
open E
attribute [local simp] Cw.reflU

theorem Mu {l:List Src} {k:Nat} {x:Src} (h:l[k]?=some x):(l.take (k+1)).filter Src.full=(l.take k).filter Src.full++(if x.full=true then [x] else []):=by
 rw [Aq h,List.filter_append]
 congr 1
 by_cases hx:x.full=true
 ·simp [hx]
 ·simp [hx]
def Hj (g:Nat→List Posting) (n:Nat):List Posting:=(List.range n).flatMap fun i=>(g i).map (B6 i)
theorem K9 (g:Nat→List Posting) (n:Nat):Hj g (n+1)=Hj g n++(g n).map (B6 n):=by
 unfold Hj;rw [List.range_succ,List.flatMap_append];simp
theorem J8 (g:Nat→List Posting) (z:Nat) : ∀n,(∀i,i<n→(g i).length≤z)→(Hj g n).length≤n*z
 | 0,_=>by simp [Hj]
 | n+1,h=>by
  have h1:=J8 g z n fun i hi=>h i (by omega)
  have h2:=h n (by omega)
  rw [K9,List.length_append,List.length_map,Nat.succ_mul]
  omega
theorem V9 {c:Code} {l:List Src} {q:List Posting} (hl:l.length≤13) (h:Am [] (Mq c l)=(q,0)):q.length≤182:=by
 have h1:=K7 (Mq c l) []
 have h2:=Mj (fun s o=>B9 c s o 0) l c.pair l
 have h3:l.length*(l.length+1)≤13*14:=Nat.mul_le_mul hl (by omega)
 rw [h] at h1
 unfold Mq at h1
 simp at h1 h2
 omega
def J9 (i:Int) (k:Nat) (o:List Posting):List Posting:=(o.take k).map (B6 i)++o.drop k
theorem Xc {i:Int} {k:Nat} {o:List Posting} {x:Posting} (h:o[k]?=some x) : ∃A D:List T,A.length=k*5∧(J9 i k o).flatMap Posting.c=A++x.c++D∧(J9 i (k+1) o).flatMap Posting.c=A++(B6 i x).c++D:=by
 have hk:=(List.getElem?_eq_some_iff.1 h).1
 have hd:o.drop k=x::o.drop (k+1):=by
  obtain⟨h1,h2⟩:=List.getElem?_eq_some_iff.1 h
  rw [List.drop_eq_getElem_cons h1,h2]
 refine⟨((o.take k).map (B6 i)).flatMap Posting.c,(o.drop (k+1)).flatMap Posting.c,by rw [J7];simp;omega,?_,?_⟩
 ·unfold J9;rw [hd];simp [List.flatMap_append,List.flatMap_cons]
 ·unfold J9;rw [Aq h];simp [List.flatMap_append,List.flatMap_cons]
theorem Va (cs:List Code) (l:List Sou) (hw : ∀x∈l,x.wf):A7 Tryz.prog 7 [Code.l cs,Sou.l l] (vB true):=by
 have ha:=R1
 have hf:=V2 l cs
 cases h:Mo l cs
 ·rw [h] at hf
  (refine A7.of_code mix Tryz.call7 k_7 (by simp) (fun hB=>?_);(try simp at hB);(try simp -implicitDefEqProofs))
  ((try simp at ha hf);(try simp -implicitDefEqProofs);repeat' first|(with_reducible apply A0<;>first|(simp only [eras,era,A1];first|with_reducible assumption)|(simp -implicitDefEqProofs)))
 rw [h] at hf
 obtain⟨f1,f2,f3,f4⟩:=J6 h
 have hs:=R0 l (by omega) hw
 have hcd:=V3 cs (by omega) (fun c hc=>by have:=f3 c hc;omega)
 have hr:=V4 h hw
 have hrm:=Mp h hw
 obtain⟨L,hL⟩ : ∃L,L=l.map Sou.src:=⟨_,rfl⟩
 have hLl:L.length≤13:=by rw [hL];simpa using f1
 rw [←hL] at hs hr hrm
 by_cases hg:Ca L=true∧(cs.all fun x=>(Cc x).2)=true
 case neg=>
  have e:Gc cs L=([],1):=by unfold Gc;rw [if_neg hg]
  rw [e] at hr
  unfold Src.l Src.ql at hs
  unfold Src.l at hr
  generalize L.map Src.c=A at *
  generalize L.map Src.q=A2 at *
  (refine A7.of_code mix Tryz.call7 k_7 (by simp) (fun hB=>?_);(try simp at hB);(try simp -implicitDefEqProofs))
  ((try simp at ha hf hs hcd hr);(try simp -implicitDefEqProofs);repeat' first|(with_reducible apply A0<;>first|(simp only [eras,era,A1];first|with_reducible assumption)|(simp -implicitDefEqProofs)))
 cases hq0:Dy cs L with
 | none=>
  have e:Gc cs L=([],2):=by unfold Gc;rw [if_pos hg,hq0]
  rw [e] at hr
  unfold Src.l Src.ql at hs
  unfold Src.l at hr
  generalize L.map Src.c=A at *
  generalize L.map Src.q=A2 at *
  (refine A7.of_code mix Tryz.call7 k_7 (by simp) (fun hB=>?_);(try simp at hB);(try simp -implicitDefEqProofs))
  ((try simp at ha hf hs hcd hr);(try simp -implicitDefEqProofs);repeat' first|(with_reducible apply A0<;>first|(simp only [eras,era,A1];first|with_reducible assumption)|(simp -implicitDefEqProofs)))
 | some q=>
  have e:Gc cs L=(q,0):=by unfold Gc;rw [if_pos hg,hq0]
  rw [e] at hr
  obtain⟨g,hgi,hq⟩:=Qq hq0
  have hqp : ∀p∈q,p.parts.length≤1000000:=fun p hp=>by
   have:=(P8 (fun c hc=>by have:=f3 c hc;omega) hg.1 hq0 hp).len;omega
  have hsm:=Tk q hqp
  have hA : ∀x∈L.filter Src.full,x∈L:=fun x hx=>(List.mem_filter.1 hx).1
  unfold Src.l Src.ql at hs
  unfold Src.l at hr
  (refine A7.of_code mix Tryz.call7 k_7 (by simp) (fun hB=>?_);(try simp at hB);(try simp -implicitDefEqProofs))
  ((try simp at ha hf hs hcd hr);(try simp -implicitDefEqProofs);repeat' first|(with_reducible apply A0<;>first|(simp only [eras,era,A1];first|with_reducible assumption)|(simp -implicitDefEqProofs)))
  refine Bl [(.slot 10,58,7)] (X:=Nat) (fun k=>k≤L.length) (fun k=>[(5,Src.l L),(7,Code.l cs),(8,Posting.l q),(10,.own 0 58 7 (((L.take k).filter Src.full).map Src.c)),(11,vI k)])
   (fun k=>⟨[],[((L.take k).filter Src.full).length]⟩) (fun k=>L.length-k) 0 (by omega) (by simp [Src.l]) ?_
  rintro k hk hbd
  clear hbd
  rcases Nat.lt_or_ge k L.length with hkl|hkl
  ·obtain⟨x,hx⟩:=Aa hkl
   have e3:IntKind.i64.wrap ((k:Int)+1)=(k:Int)+1:=wrap64 (by omega) (by omega)
   have hxc:(L.map Src.c)[k]?=some x.c:=by simp [hx]
   have hxc' : ∀h,(L.map Src.c)[k]'h=x.c:=fun h=>by rw [List.getElem?_eq_getElem h] at hxc;exact Option.some.inj hxc
   have hfn:=Mu hx
   have hfl:((L.take k).filter Src.full).length≤13:=by
    have:=List.length_filter_le Src.full (L.take k)
    simp at this;omega
   have hcc:x.c=[.int .i64 x.ent,.bool x.full,.bool (nB x.num),.sl (pE x.num),.bool (nB x.den),.sl (pE x.den),.sl (x.items.map Item.c)]:=rfl
   by_cases hxf:x.full=true
   ·rw [if_pos hxf] at hfn
    rw [hcc,hxf] at hxc hxc'
    generalize (L.take k).filter Src.full=F at *
    (try simp -implicitDefEqProofs [hkl,hxc,hxc',e3,Src.l])
    refine⟨⟨by unfold maxLen;omega,by omega⟩,k+1,by omega,by omega,by rw [hfn];simp,?_,by push_cast;rfl⟩
    rw [hfn,List.map_append,List.map_singleton,hcc,hxf]
    exact leA.refl _
   ·rw [if_neg hxf,List.append_nil] at hfn
    have hxf0:x.full=false:=by simpa using hxf
    rw [hcc,hxf0] at hxc hxc'
    generalize (L.take k).filter Src.full=F at *
    (try simp -implicitDefEqProofs [hkl,hxc,hxc',e3,Src.l])
    refine⟨k+1,by omega,by omega,by rw [hfn],?_,by push_cast;rfl⟩
    rw [hfn]
    exact leA.refl _
  ·have hkk:k=L.length:=by omega
   subst hkk
   rw [List.take_length]
   obtain⟨lf,hlf⟩ : ∃lf,lf=L.filter Src.full:=⟨_,rfl⟩
   rw [←hlf]
   (try simp -implicitDefEqProofs [Src.l])
   have hz0:Hj g 0=[]:=rfl
   have hlf13:lf.length≤13:=by rw [hlf];exact Nat.le_trans (List.length_filter_le ..) hLl
   have hgl : ∀i,i<cs.length→(g i).length≤182:=fun i hi=>by
    obtain⟨c,hc⟩:=Aa hi
    have:=hgi i c hc
    rw [←hlf] at this
    exact V9 hlf13 (Mr this)
   refine Bl [(.slot 12,43,5)] (X:=Nat) (fun n=>n≤cs.length) (fun n=>[(5,Src.l L),(7,Code.l cs),(8,Posting.l q),(10,.own 0 58 7 (lf.map Src.c)),(12,.own 1 43 5 ((Hj g n).map Posting.c)),(13,vI n)])
    (fun n=>⟨[],[lf.length,(Hj g n).length]⟩) (fun n=>cs.length-n) 0 (by omega) (by simp [Src.l,Code.l,Posting.l,hz0]) ?_
   rintro n hn hbd
   clear hbd
   have hrn:=K9 g n
   rcases Nat.lt_or_ge n cs.length with hnl|hnl
   ·obtain⟨c,hc⟩:=Aa hnl
    have hcm:c∈cs:=List.mem_of_getElem? hc
    have hgn:=hgi n c hc
    have hcok:(Cc c).2=true:=List.all_eq_true.1 hg.2 c hcm
    have hrun:=Yp (T:=[lf.length,(Hj g n).length]) c lf [] (fun _ _ _=>trivial) (by rw [hlf];exact J1 hg.1) hcok (by rw [hlf];exact Nat.le_trans (List.length_filter_le ..) hLl) (by have:=f3 c hcm;omega) (fun s hs=>by rw [hlf] at hs;exact hrm s (hA s hs))
    rw [Mr (by rw [hlf];exact hgn)] at hrun
    have e3:IntKind.i64.wrap ((n:Int)+1)=(n:Int)+1:=wrap64 (by omega) (by omega)
    have hcc:(cs.map Code.c)[n]?=some c.c:=by simp [hc]
    have hsl:((cs.map Code.c).take (n+1)).drop n=[c.c]:=by
     rw [Aq hcc,List.drop_append_of_le_length (by simp;omega),List.drop_of_length_le (by simp;omega)];rfl
    have hFl:(Hj g n).length≤n*182:=J8 g 182 n fun i hi=>hgl i (by omega)
    have hol:(g n).length≤182:=hgl n hnl
    generalize Hj g n=F at *
    (try simp -implicitDefEqProofs [hnl,hcc,hsl,e3,Src.l,Code.l])
    refine⟨by omega,Rn (FnE.eras (by simp only [eras,era];exact hrun)) ?_⟩
    rintro r S' ⟨B,ov,rfl,hBU,hkp,rfl,ho⟩
    simp only [if_pos] at ho
    generalize g n=o at *
    rcases ho with ⟨rfl,hoe⟩|⟨kb,rfl,hkb⟩
    ·subst hoe
     (try simp -implicitDefEqProofs)
     refine Ac (X:=Nat) (fun k=>k=0) (fun k=>[(5,Src.l L),(7,Code.l cs),(8,Posting.l q),(10,.own 0 58 7 (lf.map Src.c)),(12,.own 1 43 5 (F.map Posting.c)),(13,vI n),(14,.snil),(16,vI (0:Nat))])
      (fun _=>⟨B,[lf.length,F.length]⟩) (fun k=>0) 0 rfl (by simp [Src.l,Code.l,Posting.l];exact hBU _ _ (Nat.le_refl _)) ?_
     rintro k rfl hbd
     clear hbd
     (try simp -implicitDefEqProofs)
     rw [List.map_nil,List.append_nil] at hrn
     refine⟨⟨by unfold maxLen;omega,by omega⟩,n+1,by omega,by omega,by rw [hrn],by exact leA.refl _,by rw [hrn];exact leA.refl _,by rw [e3];push_cast;rfl⟩
    ·(try simp -implicitDefEqProofs)
     refine Ac (X:=Nat) (fun k=>k≤o.length) (fun k=>[(5,Src.l L),(7,Code.l cs),(8,Posting.l q),(10,.own 0 58 7 (lf.map Src.c)),(12,.own 1 43 5 (F.map Posting.c)),(13,vI n),(14,.bw kb o.length),(16,vI k)])
      (fun k=>⟨B.set kb (Gx (J9 n k o)),[lf.length,F.length]⟩) (fun k=>o.length-k) 0 (by omega) ?hs ?_
     case hs=>
      have h0:J9 n 0 o=o:=by simp [J9]
      have h1:B.set kb (Gx o)=B:=by
       obtain⟨h2,h3⟩:=List.getElem?_eq_some_iff.1 hkb
       rw [←h3,List.set_getElem_self]
      simp [Src.l,Code.l,Posting.l,h0,h1]
      exact⟨hBU _ _ (Nat.le_refl _),A5 hkb⟩
     rintro k hk hbd
     clear hbd
     rcases Nat.lt_or_ge k o.length with hkl|hkl
     ·obtain⟨x,hx⟩:=Aa hkl
      have e4:IntKind.i64.wrap ((k:Int)+1)=(k:Int)+1:=wrap64 (by omega) (by omega)
      have hkB:=A5 hkb
      have wget : ∀(v:Bx) (X:List Bx),(B.set kb v++X)[kb]?=some v:=fun v X=>by rw [List.getElem?_append_left (by simpa using hkB),List.getElem?_set_self hkB]
      have wget0 : ∀v:Bx,(B.set kb v)[kb]?=some v:=fun v=>List.getElem?_set_self hkB
      obtain⟨A,D,hA,hm0,hm1⟩:=Xc (i:=(n:Int)) hx
      have hone:=Xb c L n x.ent x.oth hLl (by have:=f3 c hcm;omega) hrm
      have hlo:=Qs hg.1 hcok hgn (List.mem_of_getElem? hx) (r:=n) (by omega)
      rw [hlo] at hone
      have hxp:x.parts.length≤1000000:=by
       have:=(P8 (cs:=[c]) (fun d hd=>by have:=List.mem_singleton.1 hd;subst this;have:=f3 d hcm;omega) (J1 hg.1) hgn (List.mem_of_getElem? hx)).len;omega
      obtain⟨kd,en,ot,ru,ps⟩:=x
      simp only [] at hone hxp
      obtain⟨C0,hC0⟩ : ∃C0,C0=((J9 n k o).flatMap Posting.c).map V.t:=⟨_,rfl⟩
      obtain⟨C1,hC1⟩ : ∃C1,C1=((J9 n (k+1) o).flatMap Posting.c).map V.t:=⟨_,rfl⟩
      have hAl:(A.map V.t).length=k*5:=by rw [List.length_map,hA]
      have g0:C0=A.map V.t++(V.t (.int .i64 kd)::V.t (.int .i64 en)::V.t (.int .i64 ot)::V.t (.int .i64 ru)::V.t (.sl (ps.map Part.c))::D.map V.t):=by rw [hC0,hm0];simp [Posting.c]
      have g1:C1=A.map V.t++(V.t (.int .i64 kd)::V.t (.int .i64 en)::V.t (.int .i64 ot)::V.t (.int .i64 n)::V.t (.sl (ps.map Part.c))::D.map V.t):=by rw [hC1,hm1];simp [Posting.c,B6]
      have hset:C0.take (k*5+3)++V.t (.int .i64 n)::C0.drop (k*5+3+1)=C1:=by
       rw [g0,g1,←hAl,List.take_length_add_append,Nat.add_assoc,List.drop_length_add_append];simp
      have hget : ∀j,C1[k*5+j]?=(V.t (.int .i64 kd)::V.t (.int .i64 en)::V.t (.int .i64 ot)::V.t (.int .i64 n)::V.t (.sl (ps.map Part.c))::D.map V.t)[j]?:=fun j=>by
       rw [g1,List.getElem?_append_right (by omega)];congr 1;omega
      have hl0:k*5+5≤C0.length:=by rw [g0];simp only [List.length_append,hAl,List.length_cons];omega
      have hl1:k*5+5≤C1.length:=by rw [g1];simp only [List.length_append,hAl,List.length_cons];omega
      have q1:=hget 1
      have q2:=hget 2
      simp only [List.getElem?_cons_succ,List.getElem?_cons_zero] at q1 q2
      have l1:k*5+3+1≤C0.length:=by omega
      have l2:k*5+1+1≤C1.length:=by omega
      have l3:k*5+2+1≤C1.length:=by omega
      have l4:k*5+5≤C1.length:=hl1
      simp only [peV,pV,Code.v,Code.c,B6,List.map_cons,List.map_nil] at hone
      unfold Gx
      rw [←hC0]
      have hdt:(C1.drop (k*5)).take 5=(Posting.mk kd en ot n ps).c.map V.t:=by rw [g1,List.drop_left' hAl];rfl
      have hlt:(k:Int)<(k:Int)+1:=by omega
      have hsam : ∀X:List Bx,X[kb]?=some (.buf 43 5 C1)→FnS Tryz.prog 14 [.full [(Posting.mk kd en ot n ps).c],.vw kb (k*5) 1] ⟨X,[lf.length,F.length]⟩ (vB true) ⟨X,[lf.length,F.length]⟩:=fun X hX=>
       FnS.ofOk Tryz.call14 fun hok=>FnS.full (V7 ⟨kd,en,ot,n,ps⟩ hxp hok.1 hX (by omega) (by omega) hdt)
      have hsam0:=hsam
      clear hC0 g0 g1
      (try simp -implicitDefEqProofs [hkl,e4,wget,wget0,hc,Code.c,hset,q1,q2,l1,l2,l3])
      refine⟨hnl,Tz hone (by simp [eras,era,Src.l]) ?_⟩
      (try simp -implicitDefEqProofs [wget,wget0,l4,e4,hlt])
      refine⟨by omega,Lw (hsam0 _ ?_) (fun _=>⟨rfl,fun X=>hsam _ ?_⟩) ?_⟩
      ·exact wget _ _
      ·exact Ad (wget _ _) X
      (try simp -implicitDefEqProofs [e4])
      refine⟨k+1,by omega,by omega,?_,by simp [Src.l,okN],hkB,by push_cast;rfl⟩
      rw [hC1]
      exact A6.ext _ (A6.set (X7 _ _ _ _ _) kb (hBU _ _ (Nat.le_refl _)))
     ·have hkk:k=o.length:=by omega
      subst hkk
      have hkB:=A5 hkb
      have wget0 : ∀v:Bx,(B.set kb v)[kb]?=some v:=fun v=>List.getElem?_set_self hkB
      have hmx:J9 n o.length o=o.map (B6 n):=by unfold J9;rw [List.take_length,List.drop_length,List.append_nil]
      have hr9:=Tl (c:=Posting.c) (z:=5) (fun _=>rfl) (o.map (B6 n))
      rw [List.length_map] at hr9
      have hrow:((((o.map (B6 n)).flatMap Posting.c)).map V.t).take (o.length*5)=(((o.map (B6 n)).flatMap Posting.c)).map V.t:=List.take_of_length_le (by rw [List.length_map,J7,List.length_map];exact Nat.le_refl _)
      (try simp -implicitDefEqProofs [e3,wget0,hmx,Gx])
      rw [hrow,R8,Option.bind_some,hr9]
      have hol2:(F++o.map (B6 n)).length≤cs.length*182:=by rw [←hrn];exact Nat.le_trans (J8 g 182 (n+1) fun i hi=>hgl i (by omega)) (Nat.mul_le_mul_right _ hnl)
      rw [List.length_append,List.length_map] at hol2
      refine⟨fun y hy=>?_,⟨by rw [List.length_map,List.length_map];unfold maxLen;omega,by rw [List.length_map,List.length_map];omega⟩,n+1,by omega,by omega,by rw [hrn];simp,by exact leA.refl _,by rw [hrn,List.map_append];exact leA.refl _,by push_cast;rfl⟩
      obtain⟨z,_,rfl⟩:=List.mem_map.1 hy
      rfl
   ·have hnn:n=cs.length:=by omega
    subst hnn
    have hq':Hj g cs.length=q:=hq.symm
    rw [hq']
    ((try simp at hsm);(try simp -implicitDefEqProofs);repeat' first|(with_reducible apply A0<;>first|(simp only [eras,era,A1];first|with_reducible assumption)|(simp -implicitDefEqProofs)))
end Go.Proofs.YtmlpmdccfmmpoaaGreat
