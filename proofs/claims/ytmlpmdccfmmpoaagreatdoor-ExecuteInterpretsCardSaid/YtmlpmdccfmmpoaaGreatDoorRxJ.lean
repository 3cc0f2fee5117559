/- Chapter 35's reference: Run, and the law ExecuteRuns. -/
import Derived.Test.YtmlpmdccfmmpoaaGreatDoorRxI
import Derived.Test.YtmlpmdccfmmpoaaGreatDoorLit
set_option linter.unusedSimpArgs false
set_option linter.unusedVariables false
set_option maxHeartbeats 4000000
set_option maxRecDepth 8000
namespace Go.Proofs.YtmlpmdccfmmpoaaGreatDoor
open E

def E9 (inst:Src→Int→Option Posting) (l:List Src) (pair:Bool) (s:Src):Nat→List (Option Posting)
 | 0=>if s.full=true∧pair=false then [inst s (-1)] else []
 | m+1=>if s.full=true∧pair=true then Ga inst s (l.getD m ⟨0,false,0,0,[]⟩) else []
theorem Xx (inst:Src→Int→Option Posting) (l:List Src) (pair:Bool) (s:Src):(List.range (l.length+1)).flatMap (E9 inst l pair s)=Di inst l pair s:=by
 rw [List.range_succ_eq_map,List.flatMap_cons,List.flatMap_map]
 unfold Di
 by_cases hf:s.full=true
 ·cases pair
  ·simp [E9,hf]
  ·simp only [E9,hf,if_true,true_and,and_true,Bool.true_eq_false,and_false,if_false,List.nil_append]
   have e : ∀(a:List Src) (n:Nat),(∀i,i<a.length→l.getD (n+i) ⟨0,false,0,0,[]⟩=a.getD i ⟨0,false,0,0,[]⟩)→(List.range' n a.length).flatMap (fun m=>Ga inst s (l.getD m ⟨0,false,0,0,[]⟩))=a.flatMap (Ga inst s):=by
    intro a
    induction a with
    | nil=>intro n _;rfl
    | cons x a ih=>
     intro n h
     rw [List.length_cons,List.range'_succ,List.flatMap_cons,List.flatMap_cons,ih (n+1) (fun i hi=>by
      have:=h (i+1) (by simp;omega)
      rw [show n+(i+1)=n+1+i by omega] at this
      simpa using this)]
     have:=h 0 (by simp)
     rw [Nat.add_zero] at this
     rw [this];rfl
   have:=e l 0 (fun i _=>by rw [Nat.zero_add])
   rw [List.range_eq_range']
   exact this
 ·simp [E9,hf]
theorem Mq {n m:Nat} (h:m<n):(List.range n).drop m=m::(List.range n).drop (m+1):=by
 rw [List.drop_eq_getElem_cons (by simpa using h)]
 simp
structure KS where
 n:Nat
 o:List Posting
structure KS.Ok (R:List Posting×Int) (rest:Nat→List (Option Posting)) (N M z:Nat) (X:KS):Prop where
 n:X.n≤N
 g:Ax X.o (rest X.n)=R
 len:X.o.length≤M+X.n*z
theorem A6c (cs:List Code) (l:List Src) (hl:l.length≤13) (hc:cs.length≤100) (hci : ∀c∈cs,c.ins.length≤8000) (hs : ∀s∈l,s.num.natAbs≤100000∧0<s.den∧s.den≤100000∧s.items.length≤1000) :
  A4 Tryz.prog 43 [Code.l cs,Src.ql l] (psV (G8 cs l)):=by
 have hv:=Mp l (by omega) (fun s h=>by have:=hs s h;omega)
 obtain⟨RE,hRE⟩ : ∃RE,RE=G8 cs l:=⟨_,rfl⟩
 rw [←hRE]
 have hbad:(∃c∈cs,(C4 c).2=false)∨Ds l=false→RE=([],1):=fun h=>by
  rw [hRE];unfold G8
  rw [if_neg]
  rintro ⟨h1,h2⟩
  rcases h with ⟨c,h3,h4⟩|h3
  ·have:=List.all_eq_true.1 h2 c h3
   rw [h4] at this;cases this
  ·rw [h3] at h1;cases h1
 unfold psV
 unfold Src.ql at hv ⊢
 (refine A4.of_code mix Tryz.call43 k_43 (by simp) (fun hB=>?_);(try simp at hB);(try simp -implicitDefEqProofs))
 ((try simp -implicitDefEqProofs);repeat' first|((with_reducible first|apply A7|apply A8|apply A3)<;>(intro hc;have hc':=hc;(try simp at hc');simp -implicitDefEqProofs [hc,hc'])))
 refine A9 (X:=Nat) (fun k=>k≤cs.length∧∀c∈cs.take k,(C4 c).2=true) (fun k=>[(0,Code.l cs),(1,.t (.sl (l.map Src.q))),(6,vI k)]) (fun _=>⟨[],[]⟩) (fun k=>cs.length-k) 0 ⟨by omega,by simp⟩ ?hs ?_
 case hs=>simp [Code.l,okN]
 rintro k ⟨hk,hkv⟩ hbd
 clear hbd
 have e3:IntKind.i64.wrap ((k:Int)+1)=(k:Int)+1:=wrap64 (by omega) (by omega)
 rcases Nat.lt_or_ge k cs.length with h|h
 ·obtain⟨c,hx⟩:=Ad h
  have hcm:=List.mem_of_getElem? hx
  have hxc:(cs.map Code.c)[k]?=some c.c:=by simp [hx]
  have hxc' : ∀h,(cs.map Code.c)[k]'h=c.c:=fun h=>by rw [List.getElem?_eq_getElem h] at hxc;exact Option.some.inj hxc
  have hcv:=A07 c (by have:=hci c hcm;omega)
  have hnx:(C4 c).2=true→∀d∈cs.take (k+1),(C4 d).2=true:=fun hq d hd=>by
   obtain⟨h1,h2⟩:=List.getElem?_eq_some_iff.1 hx
   rw [List.take_succ_eq_append_getElem h1,List.mem_append,h2] at hd
   rcases hd with hd|hd
   ·exact hkv d hd
   ·simp at hd;subst hd;exact hq
  cases hq:(C4 c).2
  ·rw [hq] at hcv
   rw [hbad (.inl ⟨c,hcm,hq⟩)]
   obtain⟨cn,cp,ins⟩:=c
   ((try simp at hcv);(try simp -implicitDefEqProofs [h,hxc,hxc',Code.l,Code.c]);repeat' first|((with_reducible first|apply A7|apply A8|apply A3)<;>(intro hc;have hc':=hc;(try simp at hc');simp -implicitDefEqProofs [hc,hc',h,hxc,hxc',Code.l,Code.c]))|(with_reducible apply A0<;>first|(simp only [eras,era,A1];first|with_reducible assumption)|(simp -implicitDefEqProofs [h,hxc,hxc',Code.l,Code.c])))
  ·rw [hq] at hcv
   have hnx2:=hnx hq
   obtain⟨cn,cp,ins⟩:=c
   ((try simp at hcv);(try simp -implicitDefEqProofs [h,hxc,hxc',Code.l,Code.c,e3]);repeat' first|((with_reducible first|apply A7|apply A8|apply A3)<;>(intro hc;have hc':=hc;(try simp at hc');simp -implicitDefEqProofs [hc,hc',h,hxc,hxc',Code.l,Code.c,e3]))|(with_reducible apply A0<;>first|(simp only [eras,era,A1];first|with_reducible assumption)|(simp -implicitDefEqProofs [h,hxc,hxc',Code.l,Code.c,e3])))
   exact⟨k+1,⟨by omega,hnx2⟩,by omega,by push_cast;rfl⟩
 ·have hkk:k=cs.length:=by omega
  subst hkk
  rw [List.take_of_length_le (Nat.le_refl _)] at hkv
  clear hk e3 h
  cases hok:Ds l
  ·rw [hok] at hv
   rw [hbad (.inr hok)]
   ((try simp at hv);(try simp -implicitDefEqProofs [Code.l]);repeat' first|((with_reducible first|apply A7|apply A8|apply A3)<;>(intro hc;have hc':=hc;(try simp at hc');simp -implicitDefEqProofs [hc,hc',Code.l]))|(with_reducible apply A0<;>first|(simp only [eras,era,A1];first|with_reducible assumption)|(simp -implicitDefEqProofs [Code.l])))
  rw [hok] at hv
  have hall:(cs.all fun x=>(C4 x).2)=true:=List.all_eq_true.2 hkv
  rw [P1 hok hall,←K2,←Mg] at hRE
  obtain⟨R,hR⟩ : ∃R,R=Ax [] (H6 (fun i s o=>Cx (cs.getD i ⟨[],false,[]⟩) s o i) l (fun i=>(cs.getD i ⟨[],false,[]⟩).pair) (List.range cs.length)):=⟨_,rfl⟩
  rw [←hR] at hRE
  unfold H6 at hR
  have hRerr : ∀o r,Ax o (none::r)=R→RE=([],2):=fun o r h=>by
   rw [hRE,←h];rfl
  have hsort:=G7 hok
  obtain⟨F,hF⟩ : ∃F:Nat→List (Option Posting),F=fun i=>l.flatMap (Di (fun s o=>Cx (cs.getD i ⟨[],false,[]⟩) s o i) l (cs.getD i ⟨[],false,[]⟩).pair):=⟨_,rfl⟩
  have hR:Ax [] ((List.range cs.length).flatMap F)=R:=by rw [hR,hF]
  ((try simp at hv);(try simp -implicitDefEqProofs [Code.l]);repeat' first|((with_reducible first|apply A7|apply A8|apply A3)<;>(intro hc;have hc':=hc;(try simp at hc');simp -implicitDefEqProofs [hc,hc',Code.l]))|(with_reducible apply A0<;>first|(simp only [eras,era,A1];first|with_reducible assumption)|(simp -implicitDefEqProofs [Code.l])))
  refine Av [(.slot 7,75,5)] (X:=KS) (fun X=>X.Ok R (fun i=>((List.range cs.length).drop i).flatMap F) cs.length 0 200)
   (fun X=>[(0,Code.l cs),(1,.t (.sl (l.map Src.q))),(7,.own 0 75 5 (X.o.map Posting.c)),(8,vI X.n)]) (fun X=>⟨[],[X.o.length]⟩) (fun X=>cs.length-X.n) ⟨0,[]⟩ ⟨by simp,by simpa using hR,by simp⟩ ?hs1 ?_
  case hs1=>simp [Code.l,okN]
  rintro ⟨i,o1⟩ ⟨hi,hg1,ho1⟩ hbd
  simp only [] at hi hg1 ho1
  clear hbd
  have e3:IntKind.i64.wrap ((i:Int)+1)=(i:Int)+1:=wrap64 (by omega) (by omega)
  rcases Nat.lt_or_ge i cs.length with h|h
  ·obtain⟨c,hx⟩:=Ad h
   have hcm:=List.mem_of_getElem? hx
   have hxc:(cs.map Code.c)[i]?=some c.c:=by simp [hx]
   have hxc' : ∀h,(cs.map Code.c)[i]'h=c.c:=fun h=>by rw [List.getElem?_eq_getElem h] at hxc;exact Option.some.inj hxc
   have hgd:cs.getD i ⟨[],false,[]⟩=c:=by rw [List.getD_eq_getElem?_getD,hx];rfl
   have hFi:F i=l.flatMap (Di (fun s o=>Cx c s o i) l c.pair):=by rw [hF];simp only [hgd]
   rw [Mq h,List.flatMap_cons,hFi] at hg1
   obtain⟨inst,hinst⟩ : ∃inst:Src→Int→Option Posting,inst=fun s o=>Cx c s o i:=⟨_,rfl⟩
   rw [←hinst] at hg1
   generalize hG1:((List.range cs.length).drop (i+1)).flatMap F=G1 at hg1
   have hI : ∀s∈l,∀oth:Int,(c.pair=true→0≤oth)→oth≠-2→A4 Tryz.prog 90 [c.v,s.qv,vI i,vI oth] (peV (Cb (inst s oth))):=fun s hsm oth q1 q2=>by
    obtain⟨r1,r2,r3,r4⟩:=hs s hsm
    rw [hinst]
    exact A3c c s ⟨r1,r2,r3,r4,(Et hok hsm).2.2⟩ i oth (hkv c hcm) (hci c hcm) q1 q2
   obtain⟨cn,cp,ins⟩:=c
   simp only [] at hI hg1
   ((try simp -implicitDefEqProofs [h,hxc,hxc',Code.l,Code.c]);repeat' first|((with_reducible first|apply A7|apply A8|apply A3)<;>(intro hc;have hc':=hc;(try simp at hc');simp -implicitDefEqProofs [hc,hc',h,hxc,hxc',Code.l,Code.c])))
   refine A9 (X:=KS) (fun X=>X.Ok R (fun j=>(l.drop j).flatMap (Di inst l cp)++G1) l.length (i*200) 14)
    (fun X=>[(0,Code.l cs),(1,.t (.sl (l.map Src.q))),(7,.own 0 75 5 (X.o.map Posting.c)),(8,vI i),(9,vI X.n)]) (fun X=>⟨[],[X.o.length]⟩) (fun X=>l.length-X.n) ⟨0,o1⟩ ⟨by simp,by simpa using hg1,by simp only [];omega⟩ ?hs2 ?_
   case hs2=>simp [Code.l,okN]
   rintro ⟨j,o2⟩ ⟨hj,hg2,ho2⟩ hbd
   simp only [] at hj hg2 ho2
   clear hbd
   have f3:IntKind.i64.wrap ((j:Int)+1)=(j:Int)+1:=wrap64 (by omega) (by omega)
   rcases Nat.lt_or_ge j l.length with g|g
   ·obtain⟨s,hsj⟩:=Ad g
    have hsm:s∈l:=List.mem_of_getElem? hsj
    have hdr2:l.drop j=s::l.drop (j+1):=by
     obtain⟨h1,h2⟩:=List.getElem?_eq_some_iff.1 hsj
     rw [List.drop_eq_getElem_cons h1,h2]
    rw [hdr2,List.flatMap_cons,←Xx,List.append_assoc] at hg2
    generalize hG2:(l.drop (j+1)).flatMap (Di inst l cp)++G1=G2 at hg2
    have hsc:(l.map Src.q)[j]?=some s.q:=by simp [hsj]
    have hsc' : ∀h,(l.map Src.q)[j]'h=s.q:=fun h=>by rw [List.getElem?_eq_getElem h] at hsc;exact Option.some.inj hsc
    have hI:=hI s hsm
    obtain⟨fl,hfl⟩ : ∃fl,fl=s.full:=⟨_,rfl⟩
    have hqc:s.q=[.int .i64 s.ent,.bool fl,.bool (nB s.num),.sl (qE s.num),.bool (nB s.den),.sl (qE s.den),.sl (s.items.map Item.c)]:=by rw [hfl];rfl
    rw [hqc] at hsc hsc'
    unfold Src.qv at hI
    rw [←hfl] at hI
    ((try simp -implicitDefEqProofs [h,g]);repeat' first|((with_reducible first|apply A7|apply A8|apply A3)<;>(intro hc;have hc':=hc;(try simp at hc');simp -implicitDefEqProofs [hc,hc',h,g])))
    refine A9 (X:=KS) (fun X=>X.Ok R (fun m=>((List.range (l.length+1)).drop m).flatMap (E9 inst l cp s)++G2) (l.length+1) (i*200+j*14) 1)
     (fun X=>[(0,Code.l cs),(1,.t (.sl (l.map Src.q))),(7,.own 0 75 5 (X.o.map Posting.c)),(8,vI i),(9,vI j),(10,vI ((X.n:Int)-1))]) (fun X=>⟨[],[X.o.length]⟩) (fun X=>l.length+1-X.n) ⟨0,o2⟩ ⟨by simp,by simpa using hg2,by simp only [];omega⟩ ?hs3 ?_
    case hs3=>simp [Code.l,okN]
    rintro ⟨m,o3⟩ ⟨hm,hg3,ho3⟩ hbd
    simp only [] at hm hg3 ho3
    clear hbd
    have k3:IntKind.i64.wrap (((m:Int)-1)+1)=(m:Int):=by rw [Int.sub_add_cancel];exact wrap64 (by omega) (by omega)
    rcases Nat.lt_or_ge m (l.length+1) with w|w
    ·have hm1:(m:Int)-1<l.length:=by omega
     rw [Mq w,List.flatMap_cons,List.append_assoc] at hg3
     generalize hG3:((List.range (l.length+1)).drop (m+1)).flatMap (E9 inst l cp s)++G2=G3 at hg3
     have hskip:E9 inst l cp s m=[]→Ax o3 G3=R:=fun q=>by rw [q] at hg3;exact hg3
     rcases Nat.eq_zero_or_pos m with m0|m0
     ·subst m0
      have hm1n:(-1:Int)<l.length:=by omega
      cases fl
      ·have hg4:=hskip (by simp [E9,←hfl])
       ((try simp -implicitDefEqProofs [hm1n,hxc,hxc',Code.c,hsc,hsc',h,g]);repeat' first|((with_reducible first|apply A7|apply A8|apply A3)<;>(intro hc;have hc':=hc;(try simp at hc');simp -implicitDefEqProofs [hc,hc',hm1n,hxc,hxc',Code.c,hsc,hsc',h,g])))
       exact⟨⟨0+1,o3⟩,⟨by simp only [];omega,by rw [←hG3] at hg4;exact hg4,by simp;omega⟩,by simp only [];omega,by simp [k3,Posting.c]⟩
      cases cp
      ·have hst:E9 inst l false s 0=[inst s (-1)]:=by simp [E9,←hfl]
       rw [hst] at hg3
       have hj0:((-1:Int)==(j:Int))=false:=by rw [beq_eq_false_iff_ne];omega
       have hI1:=hI (-1) (fun q=>by cases q) (by decide)
       cases hr:inst s (-1) with
       | none=>
        rw [hr] at hI1 hg3
        rw [hRerr _ _ hg3]
        simp only [Cb,peV,pV,B9] at hI1
        ((try simp at hI1);(try simp -implicitDefEqProofs [hm1n,hxc,hxc',Code.c,hsc,hsc',h,g,hj0]);repeat' first|((with_reducible first|apply A7|apply A8|apply A3)<;>(intro hc;have hc':=hc;(try simp at hc');simp -implicitDefEqProofs [hc,hc',hm1n,hxc,hxc',Code.c,hsc,hsc',h,g,hj0]))|(with_reducible apply A0<;>first|(simp only [eras,era,A1];first|with_reducible assumption)|(simp -implicitDefEqProofs [hm1n,hxc,hxc',Code.c,hsc,hsc',h,g,hj0])))
        all_goals (repeat' with_reducible apply And.intro)
        all_goals ((try simp at hI1);(try simp -implicitDefEqProofs [hm1n,hxc,hxc',Code.c,hsc,hsc',h,g,hj0]);repeat' first|((with_reducible first|apply A7|apply A8|apply A3)<;>(intro hc;have hc':=hc;(try simp at hc');simp -implicitDefEqProofs [hc,hc',hm1n,hxc,hxc',Code.c,hsc,hsc',h,g,hj0]))|(with_reducible apply A0<;>first|(simp only [eras,era,A1];first|with_reducible assumption)|(simp -implicitDefEqProofs [hm1n,hxc,hxc',Code.c,hsc,hsc',h,g,hj0])))
       | some p=>
        rw [hr] at hI1 hg3
        obtain⟨p1,p2,p3,p4,p5⟩:=p
        simp only [Cb,peV,pV] at hI1
        by_cases h5:p5=[]
        ·subst h5
         have hg4:Ax o3 G3=R:=hg3
         ((try simp at hI1);(try simp -implicitDefEqProofs [hm1n,hxc,hxc',Code.c,hsc,hsc',h,g,hj0]);repeat' first|((with_reducible first|apply A7|apply A8|apply A3)<;>(intro hc;have hc':=hc;(try simp at hc');simp -implicitDefEqProofs [hc,hc',hm1n,hxc,hxc',Code.c,hsc,hsc',h,g,hj0]))|(with_reducible apply A0<;>first|(simp only [eras,era,A1];first|with_reducible assumption)|(simp -implicitDefEqProofs [hm1n,hxc,hxc',Code.c,hsc,hsc',h,g,hj0])))
         all_goals (repeat' with_reducible apply And.intro)
         all_goals ((try simp at hI1);(try simp -implicitDefEqProofs [hm1n,hxc,hxc',Code.c,hsc,hsc',h,g,hj0]);repeat' first|((with_reducible first|apply A7|apply A8|apply A3)<;>(intro hc;have hc':=hc;(try simp at hc');simp -implicitDefEqProofs [hc,hc',hm1n,hxc,hxc',Code.c,hsc,hsc',h,g,hj0]))|(with_reducible apply A0<;>first|(simp only [eras,era,A1];first|with_reducible assumption)|(simp -implicitDefEqProofs [hm1n,hxc,hxc',Code.c,hsc,hsc',h,g,hj0])))
         all_goals exact⟨⟨0+1,o3⟩,⟨by simp only [];omega,by rw [←hG3] at hg4;exact hg4,by simp;omega⟩,by simp only [];omega,by simp [k3,Posting.c]⟩
        ·have hg4:Ax (o3++[⟨p1,p2,p3,p4,p5⟩]) G3=R:=by
          have:=hg3
          simp only [List.singleton_append,Ax] at this
          rw [if_neg h5] at this;exact this
         have h6:0<p5.length:=List.length_pos_iff.2 h5
         have j1:o3.length≤9223372036854775806:=by omega
         have j2:(o3.length+1)*56≤140737488355328:=by omega
         ((try simp at hI1);(try simp -implicitDefEqProofs [hm1n,hxc,hxc',Code.c,hsc,hsc',h,g,hj0,h6,Posting.c,maxLen,j1,j2]);repeat' first|((with_reducible first|apply A7|apply A8|apply A3)<;>(intro hc;have hc':=hc;(try simp at hc');simp -implicitDefEqProofs [hc,hc',hm1n,hxc,hxc',Code.c,hsc,hsc',h,g,hj0,h6,Posting.c,maxLen,j1,j2]))|(with_reducible apply A0<;>first|(simp only [eras,era,A1];first|with_reducible assumption)|(simp -implicitDefEqProofs [hm1n,hxc,hxc',Code.c,hsc,hsc',h,g,hj0,h6,Posting.c,maxLen,j1,j2])))
         all_goals (repeat' with_reducible apply And.intro)
         all_goals ((try simp at hI1);(try simp -implicitDefEqProofs [hm1n,hxc,hxc',Code.c,hsc,hsc',h,g,hj0,h6,Posting.c,maxLen,j1,j2]);repeat' first|((with_reducible first|apply A7|apply A8|apply A3)<;>(intro hc;have hc':=hc;(try simp at hc');simp -implicitDefEqProofs [hc,hc',hm1n,hxc,hxc',Code.c,hsc,hsc',h,g,hj0,h6,Posting.c,maxLen,j1,j2]))|(with_reducible apply A0<;>first|(simp only [eras,era,A1];first|with_reducible assumption)|(simp -implicitDefEqProofs [hm1n,hxc,hxc',Code.c,hsc,hsc',h,g,hj0,h6,Posting.c,maxLen,j1,j2])))
         all_goals exact⟨⟨0+1,(o3++[⟨p1,p2,p3,p4,p5⟩])⟩,⟨by simp only [];omega,by rw [←hG3] at hg4;exact hg4,by simp;omega⟩,by simp only [];omega,by simp [k3,Posting.c]⟩
      ·have hg4:=hskip (by simp [E9])
       ((try simp -implicitDefEqProofs [hm1n,hxc,hxc',Code.c,hsc,hsc',h,g]);repeat' first|((with_reducible first|apply A7|apply A8|apply A3)<;>(intro hc;have hc':=hc;(try simp at hc');simp -implicitDefEqProofs [hc,hc',hm1n,hxc,hxc',Code.c,hsc,hsc',h,g])))
       exact⟨⟨0+1,o3⟩,⟨by simp only [];omega,by rw [←hG3] at hg4;exact hg4,by simp;omega⟩,by simp only [];omega,by simp [k3,Posting.c]⟩
     ·obtain⟨q,rfl⟩ : ∃q,m=q+1:=⟨m-1,by omega⟩
      have e0:((q+1:Nat):Int)-1=(q:Int):=by omega
      rw [e0] at hm1 k3
      have hql:q<l.length:=by omega
      obtain⟨t,ht⟩:=Ad hql
      have htm:t∈l:=List.mem_of_getElem? ht
      have htd:l.getD q ⟨0,false,0,0,[]⟩=t:=by rw [List.getD_eq_getElem?_getD,ht];rfl
      have htc:(l.map Src.q)[q]?=some t.q:=by simp [ht]
      have htc' : ∀h,(l.map Src.q)[q]'h=t.q:=fun h=>by rw [List.getElem?_eq_getElem h] at htc;exact Option.some.inj htc
      obtain⟨tf,htf⟩ : ∃tf,tf=t.full:=⟨_,rfl⟩
      have htq:t.q=[.int .i64 t.ent,.bool tf,.bool (nB t.num),.sl (qE t.num),.bool (nB t.den),.sl (qE t.den),.sl (t.items.map Item.c)]:=by rw [htf];rfl
      rw [htq] at htc htc'
      have hqn : ¬(q:Int)<0:=by omega
      rw [e0]
      cases fl
      ·have hg4:=hskip (by simp [E9,←hfl])
       ((try simp -implicitDefEqProofs [hm1,hxc,hxc',Code.c,hsc,hsc',h,g,htc,htc',hql,hqn]);repeat' first|((with_reducible first|apply A7|apply A8|apply A3)<;>(intro hc;have hc':=hc;(try simp at hc');simp -implicitDefEqProofs [hc,hc',hm1,hxc,hxc',Code.c,hsc,hsc',h,g,htc,htc',hql,hqn])))
       exact⟨⟨q+1+1,o3⟩,⟨by simp only [];omega,by rw [←hG3] at hg4;exact hg4,by simp;omega⟩,by simp only [];omega,by simp [k3,Posting.c]⟩
      cases cp
      ·have hg4:=hskip (by simp [E9])
       ((try simp -implicitDefEqProofs [hm1,hxc,hxc',Code.c,hsc,hsc',h,g,htc,htc',hql,hqn]);repeat' first|((with_reducible first|apply A7|apply A8|apply A3)<;>(intro hc;have hc':=hc;(try simp at hc');simp -implicitDefEqProofs [hc,hc',hm1,hxc,hxc',Code.c,hsc,hsc',h,g,htc,htc',hql,hqn])))
       exact⟨⟨q+1+1,o3⟩,⟨by simp only [];omega,by rw [←hG3] at hg4;exact hg4,by simp;omega⟩,by simp only [];omega,by simp [k3,Posting.c]⟩
      by_cases hqj:q=j
      ·have hts:t=s:=by rw [hqj,hsj] at ht;exact (Option.some.inj ht).symm
       have hg4:=hskip (by simp only [E9,htd,hts,Ga];simp)
       have hqj0:((q:Int)==(j:Int))=true:=by rw [beq_iff_eq];omega
       ((try simp -implicitDefEqProofs [hm1,hxc,hxc',Code.c,hsc,hsc',h,g,htc,htc',hql,hqn,hqj0]);repeat' first|((with_reducible first|apply A7|apply A8|apply A3)<;>(intro hc;have hc':=hc;(try simp at hc');simp -implicitDefEqProofs [hc,hc',hm1,hxc,hxc',Code.c,hsc,hsc',h,g,htc,htc',hql,hqn,hqj0])))
       exact⟨⟨q+1+1,o3⟩,⟨by simp only [];omega,by rw [←hG3] at hg4;exact hg4,by simp;omega⟩,by simp only [];omega,by simp [k3,Posting.c]⟩
      have hqj0:((q:Int)==(j:Int))=false:=by rw [beq_eq_false_iff_ne];omega
      cases tf
      ·have hg4:=hskip (by simp only [E9,htd,Ga,←htf];simp)
       ((try simp -implicitDefEqProofs [hm1,hxc,hxc',Code.c,hsc,hsc',h,g,htc,htc',hql,hqn,hqj0]);repeat' first|((with_reducible first|apply A7|apply A8|apply A3)<;>(intro hc;have hc':=hc;(try simp at hc');simp -implicitDefEqProofs [hc,hc',hm1,hxc,hxc',Code.c,hsc,hsc',h,g,htc,htc',hql,hqn,hqj0])))
       exact⟨⟨q+1+1,o3⟩,⟨by simp only [];omega,by rw [←hG3] at hg4;exact hg4,by simp;omega⟩,by simp only [];omega,by simp [k3,Posting.c]⟩
      ·have hne:t.ent≠s.ent:=by
        obtain⟨u1,u2⟩:=List.getElem?_eq_some_iff.1 ht
        obtain⟨u3,u4⟩:=List.getElem?_eq_some_iff.1 hsj
        rcases Nat.lt_or_ge q j with u5|u5
        ·have:=List.pairwise_iff_getElem.1 hsort q j u1 u3 u5
         rw [u2,u4] at this;omega
        ·have:=List.pairwise_iff_getElem.1 hsort j q u3 u1 (by omega)
         rw [u2,u4] at this;omega
       have hst:E9 inst l true s (q+1)=[inst s t.ent]:=by
        simp only [E9,htd,Ga,←htf,←hfl]
        rw [if_pos (by simp),if_pos (by simpa using hne)]
       rw [hst] at hg3
       have ht0:=(Et hok htm).1
       have hI1:=hI t.ent (fun _=>ht0) (by omega)
       cases hr:inst s t.ent with
       | none=>
        rw [hr] at hI1 hg3
        rw [hRerr _ _ hg3]
        simp only [Cb,peV,pV,B9] at hI1
        ((try simp at hI1);(try simp -implicitDefEqProofs [hm1,hxc,hxc',Code.c,hsc,hsc',h,g,htc,htc',hql,hqn,hqj0]);repeat' first|((with_reducible first|apply A7|apply A8|apply A3)<;>(intro hc;have hc':=hc;(try simp at hc');simp -implicitDefEqProofs [hc,hc',hm1,hxc,hxc',Code.c,hsc,hsc',h,g,htc,htc',hql,hqn,hqj0]))|(with_reducible apply A0<;>first|(simp only [eras,era,A1];first|with_reducible assumption)|(simp -implicitDefEqProofs [hm1,hxc,hxc',Code.c,hsc,hsc',h,g,htc,htc',hql,hqn,hqj0])))
        all_goals (repeat' with_reducible apply And.intro)
        all_goals ((try simp at hI1);(try simp -implicitDefEqProofs [hm1,hxc,hxc',Code.c,hsc,hsc',h,g,htc,htc',hql,hqn,hqj0]);repeat' first|((with_reducible first|apply A7|apply A8|apply A3)<;>(intro hc;have hc':=hc;(try simp at hc');simp -implicitDefEqProofs [hc,hc',hm1,hxc,hxc',Code.c,hsc,hsc',h,g,htc,htc',hql,hqn,hqj0]))|(with_reducible apply A0<;>first|(simp only [eras,era,A1];first|with_reducible assumption)|(simp -implicitDefEqProofs [hm1,hxc,hxc',Code.c,hsc,hsc',h,g,htc,htc',hql,hqn,hqj0])))
       | some p=>
        rw [hr] at hI1 hg3
        obtain⟨p1,p2,p3,p4,p5⟩:=p
        simp only [Cb,peV,pV] at hI1
        by_cases h5:p5=[]
        ·subst h5
         have hg4:Ax o3 G3=R:=hg3
         ((try simp at hI1);(try simp -implicitDefEqProofs [hm1,hxc,hxc',Code.c,hsc,hsc',h,g,htc,htc',hql,hqn,hqj0]);repeat' first|((with_reducible first|apply A7|apply A8|apply A3)<;>(intro hc;have hc':=hc;(try simp at hc');simp -implicitDefEqProofs [hc,hc',hm1,hxc,hxc',Code.c,hsc,hsc',h,g,htc,htc',hql,hqn,hqj0]))|(with_reducible apply A0<;>first|(simp only [eras,era,A1];first|with_reducible assumption)|(simp -implicitDefEqProofs [hm1,hxc,hxc',Code.c,hsc,hsc',h,g,htc,htc',hql,hqn,hqj0])))
         all_goals (repeat' with_reducible apply And.intro)
         all_goals ((try simp at hI1);(try simp -implicitDefEqProofs [hm1,hxc,hxc',Code.c,hsc,hsc',h,g,htc,htc',hql,hqn,hqj0]);repeat' first|((with_reducible first|apply A7|apply A8|apply A3)<;>(intro hc;have hc':=hc;(try simp at hc');simp -implicitDefEqProofs [hc,hc',hm1,hxc,hxc',Code.c,hsc,hsc',h,g,htc,htc',hql,hqn,hqj0]))|(with_reducible apply A0<;>first|(simp only [eras,era,A1];first|with_reducible assumption)|(simp -implicitDefEqProofs [hm1,hxc,hxc',Code.c,hsc,hsc',h,g,htc,htc',hql,hqn,hqj0])))
         all_goals exact⟨⟨q+1+1,o3⟩,⟨by simp only [];omega,by rw [←hG3] at hg4;exact hg4,by simp;omega⟩,by simp only [];omega,by simp [k3,Posting.c]⟩
        ·have hg4:Ax (o3++[⟨p1,p2,p3,p4,p5⟩]) G3=R:=by
          have:=hg3
          simp only [List.singleton_append,Ax] at this
          rw [if_neg h5] at this;exact this
         have h6:0<p5.length:=List.length_pos_iff.2 h5
         have j1:o3.length≤9223372036854775806:=by omega
         have j2:(o3.length+1)*56≤140737488355328:=by omega
         ((try simp at hI1);(try simp -implicitDefEqProofs [hm1,hxc,hxc',Code.c,hsc,hsc',h,g,htc,htc',hql,hqn,hqj0,h6,Posting.c,maxLen,j1,j2]);repeat' first|((with_reducible first|apply A7|apply A8|apply A3)<;>(intro hc;have hc':=hc;(try simp at hc');simp -implicitDefEqProofs [hc,hc',hm1,hxc,hxc',Code.c,hsc,hsc',h,g,htc,htc',hql,hqn,hqj0,h6,Posting.c,maxLen,j1,j2]))|(with_reducible apply A0<;>first|(simp only [eras,era,A1];first|with_reducible assumption)|(simp -implicitDefEqProofs [hm1,hxc,hxc',Code.c,hsc,hsc',h,g,htc,htc',hql,hqn,hqj0,h6,Posting.c,maxLen,j1,j2])))
         all_goals (repeat' with_reducible apply And.intro)
         all_goals ((try simp at hI1);(try simp -implicitDefEqProofs [hm1,hxc,hxc',Code.c,hsc,hsc',h,g,htc,htc',hql,hqn,hqj0,h6,Posting.c,maxLen,j1,j2]);repeat' first|((with_reducible first|apply A7|apply A8|apply A3)<;>(intro hc;have hc':=hc;(try simp at hc');simp -implicitDefEqProofs [hc,hc',hm1,hxc,hxc',Code.c,hsc,hsc',h,g,htc,htc',hql,hqn,hqj0,h6,Posting.c,maxLen,j1,j2]))|(with_reducible apply A0<;>first|(simp only [eras,era,A1];first|with_reducible assumption)|(simp -implicitDefEqProofs [hm1,hxc,hxc',Code.c,hsc,hsc',h,g,htc,htc',hql,hqn,hqj0,h6,Posting.c,maxLen,j1,j2])))
         all_goals exact⟨⟨q+1+1,(o3++[⟨p1,p2,p3,p4,p5⟩])⟩,⟨by simp only [];omega,by rw [←hG3] at hg4;exact hg4,by simp;omega⟩,by simp only [];omega,by simp [k3,Posting.c]⟩
    ·have hmm:m=l.length+1:=by omega
     subst hmm
     rw [List.drop_of_length_le (by simp)] at hg3
     have hg4:Ax o3 G2=R:=hg3
     have e0:((l.length+1:Nat):Int)-1=(l.length:Int):=by omega
     rw [e0]
     ((try simp -implicitDefEqProofs [f3]);repeat' first|((with_reducible first|apply A7|apply A8|apply A3)<;>(intro hc;have hc':=hc;(try simp at hc');simp -implicitDefEqProofs [hc,hc',f3])))
     exact⟨⟨j+1,o3⟩,⟨g,by rw [hG2];exact hg4,by simp only [];omega⟩,by simp only [];omega,by simp⟩
   ·have hjj:j=l.length:=by omega
    subst hjj
    rw [List.drop_of_length_le (Nat.le_refl _)] at hg2
    have hg3:Ax o2 G1=R:=hg2
    ((try simp -implicitDefEqProofs [e3]);repeat' first|((with_reducible first|apply A7|apply A8|apply A3)<;>(intro hc;have hc':=hc;(try simp at hc');simp -implicitDefEqProofs [hc,hc',e3])))
    exact⟨⟨i+1,o2⟩,⟨h,by rw [hG1];exact hg3,by simp only [];omega⟩,by simp only [];omega,by simp⟩
  ·have hii:i=cs.length:=by omega
   subst hii
   rw [List.drop_of_length_le (by simp)] at hg1
   have hg2:(o1,(0:Int))=R:=hg1
   rw [hRE,←hg2]
   ((try simp -implicitDefEqProofs [Code.l,U1]);repeat' first|((with_reducible first|apply A7|apply A8|apply A3)<;>(intro hc;have hc':=hc;(try simp at hc');simp -implicitDefEqProofs [hc,hc',Code.l,U1])))
end Go.Proofs.YtmlpmdccfmmpoaaGreatDoor
