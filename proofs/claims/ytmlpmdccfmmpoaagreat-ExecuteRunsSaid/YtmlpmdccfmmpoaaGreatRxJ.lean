/- Chapter 35's reference: Run, and the law ExecuteRuns. -/
import Derived.Test.YtmlpmdccfmmpoaaGreatRxI
import Derived.Test.YtmlpmdccfmmpoaaGreatLit
set_option linter.unusedSimpArgs false
set_option linter.unusedVariables false
set_option maxHeartbeats 4000000
set_option maxRecDepth 8000
namespace Go.Proofs.YtmlpmdccfmmpoaaGreat
open E

def stepK (inst:Src→Int→Option Posting) (l:List Src) (pair:Bool) (s:Src):Nat→List (Option Posting)
 | 0=>if s.full=true∧pair=false then [inst s (-1)] else []
 | m+1=>if s.full=true∧pair=true then othL inst s (l.getD m ⟨0,false,0,0,[]⟩) else []
theorem stepK_all (inst:Src→Int→Option Posting) (l:List Src) (pair:Bool) (s:Src):(List.range (l.length+1)).flatMap (stepK inst l pair s)=ownL inst l pair s:=by
 rw [List.range_succ_eq_map,List.flatMap_cons,List.flatMap_map]
 unfold ownL
 by_cases hf:s.full=true
 ·cases pair
  ·simp [stepK,hf]
  ·simp only [stepK,hf,if_true,true_and,and_true,Bool.true_eq_false,and_false,if_false,List.nil_append]
   have e : ∀(a:List Src) (n:Nat),(∀i,i<a.length→l.getD (n+i) ⟨0,false,0,0,[]⟩=a.getD i ⟨0,false,0,0,[]⟩)→(List.range' n a.length).flatMap (fun m=>othL inst s (l.getD m ⟨0,false,0,0,[]⟩))=a.flatMap (othL inst s):=by
    intro a
    induction a with
    | nil=>intro n _; rfl
    | cons x a ih=>
     intro n h
     rw [List.length_cons,List.range'_succ,List.flatMap_cons,List.flatMap_cons,ih (n+1) (fun i hi=>by
      have:=h (i+1) (by simp; omega)
      rw [show n+(i+1)=n+1+i by omega] at this
      simpa using this)]
     have:=h 0 (by simp)
     rw [Nat.add_zero] at this
     rw [this]; rfl
   have:=e l 0 (fun i _=>by rw [Nat.zero_add])
   rw [List.range_eq_range']
   exact this
 ·simp [stepK,hf]
theorem drop_range {n m:Nat} (h:m<n):(List.range n).drop m=m::(List.range n).drop (m+1):=by
 rw [List.drop_eq_getElem_cons (by simpa using h)]
 simp
structure KS where
 n:Nat
 o:List Posting
structure KS.Ok (R:List Posting×Int) (rest:Nat→List (Option Posting)) (N M z:Nat) (X:KS):Prop where
 n:X.n≤N
 g:gath X.o (rest X.n)=R
 len:X.o.length≤M+X.n*z
theorem w_qRun (cs:List Code) (l:List Src) (hl:l.length≤13) (hc:cs.length≤100) (hci : ∀c∈cs,c.ins.length≤1000) (hs : ∀s∈l,s.num.natAbs≤100000∧0<s.den∧s.den≤100000∧s.items.length≤1000) :
  Pure Tryz.prog 13 [Code.l cs,Src.ql l] (psV (runE cs l)):=by
 have hv:=w_rvalid35 l (by omega) (fun s h=>by have:=hs s h; omega)
 obtain⟨RE,hRE⟩ : ∃RE,RE=runE cs l:=⟨_,rfl⟩
 rw [←hRE]
 have hbad:(∃c∈cs,(meaR c).2=false)∨srcOk l=false→RE=([],1):=fun h=>by
  rw [hRE]; unfold runE
  rw [if_neg]
  rintro ⟨h1,h2⟩
  rcases h with ⟨c,h3,h4⟩ | h3
  ·have:=List.all_eq_true.1 h2 c h3
   rw [h4] at this; cases this
  ·rw [h3] at h1; cases h1
 unfold psV
 unfold Src.ql at hv ⊢
 (refine Pure.of_code mix Tryz.call13 k_13 (by simp) (fun hB=>?_); (try simp at hB); (try simp -implicitDefEqProofs [qc_13]))
 ((try simp -implicitDefEqProofs); repeat' first | ((with_reducible first | apply gdK_em | apply cdK_em | apply pickK_em)<;>(intro hc; have hc':=hc; (try simp at hc'); simp -implicitDefEqProofs [hc,hc'])))
 refine loop_rule (X:=Nat) (fun k=>k≤cs.length∧∀c∈cs.take k,(meaR c).2=true) (fun k=>[(0,Code.l cs),(1,.t (.sl (l.map Src.q))),(6,vI k)]) (fun _=>⟨[],[]⟩) (fun k=>cs.length-k) 0 ⟨by omega,by simp⟩ ?hs ?_
 case hs=>simp [Code.l,okN]
 rintro k ⟨hk,hkv⟩ hbd
 clear hbd
 have e3:IntKind.i64.wrap ((k:Int)+1)=(k:Int)+1:=wrap64 (by omega) (by omega)
 rcases Nat.lt_or_ge k cs.length with h | h
 ·obtain⟨c,hx⟩:=get_of_lt h
  have hcm:=List.mem_of_getElem? hx
  have hxc:(cs.map Code.c)[k]?=some c.c:=by simp [hx]
  have hxc' : ∀h,(cs.map Code.c)[k]'h=c.c:=fun h=>by rw [List.getElem?_eq_getElem h] at hxc; exact Option.some.inj hxc
  have hcv:=w_rvalid c (by have:=hci c hcm; omega)
  have hnx:(meaR c).2=true→∀d∈cs.take (k+1),(meaR d).2=true:=fun hq d hd=>by
   obtain⟨h1,h2⟩:=List.getElem?_eq_some_iff.1 hx
   rw [List.take_succ_eq_append_getElem h1,List.mem_append,h2] at hd
   rcases hd with hd | hd
   ·exact hkv d hd
   ·simp at hd; subst hd; exact hq
  cases hq:(meaR c).2
  ·rw [hq] at hcv
   rw [hbad (.inl ⟨c,hcm,hq⟩)]
   obtain⟨cn,cp,ins⟩:=c
   ((try simp at hcv); (try simp -implicitDefEqProofs [h,hxc,hxc',Code.l,Code.c]); repeat' first | ((with_reducible first | apply gdK_em | apply cdK_em | apply pickK_em)<;>(intro hc; have hc':=hc; (try simp at hc'); simp -implicitDefEqProofs [hc,hc',h,hxc,hxc',Code.l,Code.c])) | (with_reducible apply callK_pure<;>first | (simp only [eras,era,eras_map]; first | with_reducible exact hcv | simpa using hcv) | (simp -implicitDefEqProofs [h,hxc,hxc',Code.l,Code.c])))
  ·rw [hq] at hcv
   have hnx2:=hnx hq
   obtain⟨cn,cp,ins⟩:=c
   ((try simp at hcv); (try simp -implicitDefEqProofs [h,hxc,hxc',Code.l,Code.c,e3]); repeat' first | ((with_reducible first | apply gdK_em | apply cdK_em | apply pickK_em)<;>(intro hc; have hc':=hc; (try simp at hc'); simp -implicitDefEqProofs [hc,hc',h,hxc,hxc',Code.l,Code.c,e3])) | (with_reducible apply callK_pure<;>first | (simp only [eras,era,eras_map]; first | with_reducible exact hcv | simpa using hcv) | (simp -implicitDefEqProofs [h,hxc,hxc',Code.l,Code.c,e3])))
   exact⟨k+1,⟨by omega,hnx2⟩,by omega,by push_cast; rfl⟩
 ·have hkk:k=cs.length:=by omega
  subst hkk
  rw [List.take_of_length_le (Nat.le_refl _)] at hkv
  clear hk e3 h
  cases hok:srcOk l
  ·rw [hok] at hv
   rw [hbad (.inr hok)]
   ((try simp at hv); (try simp -implicitDefEqProofs [Code.l]); repeat' first | ((with_reducible first | apply gdK_em | apply cdK_em | apply pickK_em)<;>(intro hc; have hc':=hc; (try simp at hc'); simp -implicitDefEqProofs [hc,hc',Code.l])) | (with_reducible apply callK_pure<;>first | (simp only [eras,era,eras_map]; first | with_reducible exact hv | simpa using hv) | (simp -implicitDefEqProofs [Code.l])))
  rw [hok] at hv
  have hall:(cs.all fun x=>(meaR x).2)=true:=List.all_eq_true.2 hkv
  rw [runE_ok hok hall,←runsL_run,←colE_run] at hRE
  obtain⟨R,hR⟩ : ∃R,R=gath [] (runsL (fun i s o=>instR (cs.getD i ⟨[],false,[]⟩) s o i) l (fun i=>(cs.getD i ⟨[],false,[]⟩).pair) (List.range cs.length)):=⟨_,rfl⟩
  rw [←hR] at hRE
  unfold runsL at hR
  have hRerr : ∀o r,gath o (none::r)=R→RE=([],2):=fun o r h=>by
   rw [hRE,←h]; rfl
  have hsort:=src_sorted hok
  obtain⟨F,hF⟩ : ∃F:Nat→List (Option Posting),F=fun i=>l.flatMap (ownL (fun s o=>instR (cs.getD i ⟨[],false,[]⟩) s o i) l (cs.getD i ⟨[],false,[]⟩).pair):=⟨_,rfl⟩
  have hR:gath [] ((List.range cs.length).flatMap F)=R:=by rw [hR,hF]
  ((try simp at hv); (try simp -implicitDefEqProofs [Code.l]); repeat' first | ((with_reducible first | apply gdK_em | apply cdK_em | apply pickK_em)<;>(intro hc; have hc':=hc; (try simp at hc'); simp -implicitDefEqProofs [hc,hc',Code.l])) | (with_reducible apply callK_pure<;>first | (simp only [eras,era,eras_map]; first | with_reducible exact hv | simpa using hv) | (simp -implicitDefEqProofs [Code.l])))
  refine loop_grow [(.slot 7,43,5)] (X:=KS) (fun X=>X.Ok R (fun i=>((List.range cs.length).drop i).flatMap F) cs.length 0 200)
   (fun X=>[(0,Code.l cs),(1,.t (.sl (l.map Src.q))),(7,.own 0 43 5 (X.o.map Posting.c)),(8,vI X.n)]) (fun X=>⟨[],[X.o.length]⟩) (fun X=>cs.length-X.n) ⟨0,[]⟩ ⟨by simp,by simpa using hR,by simp⟩ ?hs1 ?_
  case hs1=>simp [Code.l,okN]
  rintro ⟨i,o1⟩ ⟨hi,hg1,ho1⟩ hbd
  simp only [] at hi hg1 ho1
  clear hbd
  have e3:IntKind.i64.wrap ((i:Int)+1)=(i:Int)+1:=wrap64 (by omega) (by omega)
  rcases Nat.lt_or_ge i cs.length with h | h
  ·obtain⟨c,hx⟩:=get_of_lt h
   have hcm:=List.mem_of_getElem? hx
   have hxc:(cs.map Code.c)[i]?=some c.c:=by simp [hx]
   have hxc' : ∀h,(cs.map Code.c)[i]'h=c.c:=fun h=>by rw [List.getElem?_eq_getElem h] at hxc; exact Option.some.inj hxc
   have hgd:cs.getD i ⟨[],false,[]⟩=c:=by rw [List.getD_eq_getElem?_getD,hx]; rfl
   have hFi:F i=l.flatMap (ownL (fun s o=>instR c s o i) l c.pair):=by rw [hF]; simp only [hgd]
   rw [drop_range h,List.flatMap_cons,hFi] at hg1
   obtain⟨inst,hinst⟩ : ∃inst:Src→Int→Option Posting,inst=fun s o=>instR c s o i:=⟨_,rfl⟩
   rw [←hinst] at hg1
   generalize hG1:((List.range cs.length).drop (i+1)).flatMap F=G1 at hg1
   have hI : ∀s∈l,∀oth:Int,(c.pair=true→0≤oth)→oth≠-2→Pure Tryz.prog 32 [c.v,s.qv,vI i,vI oth] (peV (instE (inst s oth))):=fun s hsm oth q1 q2=>by
    obtain⟨r1,r2,r3,r4⟩:=hs s hsm
    rw [hinst]
    exact w_qinst c s ⟨r1,r2,r3,r4,(src_in hok hsm).2.2⟩ i oth (hkv c hcm) (hci c hcm) q1 q2
   obtain⟨cn,cp,ins⟩:=c
   simp only [] at hI hg1
   ((try simp -implicitDefEqProofs [h,hxc,hxc',Code.l,Code.c]); repeat' first | ((with_reducible first | apply gdK_em | apply cdK_em | apply pickK_em)<;>(intro hc; have hc':=hc; (try simp at hc'); simp -implicitDefEqProofs [hc,hc',h,hxc,hxc',Code.l,Code.c])))
   refine loop_rule (X:=KS) (fun X=>X.Ok R (fun j=>(l.drop j).flatMap (ownL inst l cp)++G1) l.length (i*200) 14)
    (fun X=>[(0,Code.l cs),(1,.t (.sl (l.map Src.q))),(7,.own 0 43 5 (X.o.map Posting.c)),(8,vI i),(9,vI X.n)]) (fun X=>⟨[],[X.o.length]⟩) (fun X=>l.length-X.n) ⟨0,o1⟩ ⟨by simp,by simpa using hg1,by simp only []; omega⟩ ?hs2 ?_
   case hs2=>simp [Code.l,okN]
   rintro ⟨j,o2⟩ ⟨hj,hg2,ho2⟩ hbd
   simp only [] at hj hg2 ho2
   clear hbd
   have f3:IntKind.i64.wrap ((j:Int)+1)=(j:Int)+1:=wrap64 (by omega) (by omega)
   rcases Nat.lt_or_ge j l.length with g | g
   ·obtain⟨s,hsj⟩:=get_of_lt g
    have hsm:s∈l:=List.mem_of_getElem? hsj
    have hdr2:l.drop j=s::l.drop (j+1):=by
     obtain⟨h1,h2⟩:=List.getElem?_eq_some_iff.1 hsj
     rw [List.drop_eq_getElem_cons h1,h2]
    rw [hdr2,List.flatMap_cons,←stepK_all,List.append_assoc] at hg2
    generalize hG2:(l.drop (j+1)).flatMap (ownL inst l cp)++G1=G2 at hg2
    have hsc:(l.map Src.q)[j]?=some s.q:=by simp [hsj]
    have hsc' : ∀h,(l.map Src.q)[j]'h=s.q:=fun h=>by rw [List.getElem?_eq_getElem h] at hsc; exact Option.some.inj hsc
    have hI:=hI s hsm
    obtain⟨fl,hfl⟩ : ∃fl,fl=s.full:=⟨_,rfl⟩
    have hqc:s.q=[.int .i64 s.ent,.bool fl,.bool (nB s.num),.sl (qE s.num),.bool (nB s.den),.sl (qE s.den),.sl (s.items.map Item.c)]:=by rw [hfl]; rfl
    rw [hqc] at hsc hsc'
    unfold Src.qv at hI
    rw [←hfl] at hI
    ((try simp -implicitDefEqProofs [h,g]); repeat' first | ((with_reducible first | apply gdK_em | apply cdK_em | apply pickK_em)<;>(intro hc; have hc':=hc; (try simp at hc'); simp -implicitDefEqProofs [hc,hc',h,g])))
    refine loop_rule (X:=KS) (fun X=>X.Ok R (fun m=>((List.range (l.length+1)).drop m).flatMap (stepK inst l cp s)++G2) (l.length+1) (i*200+j*14) 1)
     (fun X=>[(0,Code.l cs),(1,.t (.sl (l.map Src.q))),(7,.own 0 43 5 (X.o.map Posting.c)),(8,vI i),(9,vI j),(10,vI ((X.n:Int)-1))]) (fun X=>⟨[],[X.o.length]⟩) (fun X=>l.length+1-X.n) ⟨0,o2⟩ ⟨by simp,by simpa using hg2,by simp only []; omega⟩ ?hs3 ?_
    case hs3=>simp [Code.l,okN]
    rintro ⟨m,o3⟩ ⟨hm,hg3,ho3⟩ hbd
    simp only [] at hm hg3 ho3
    clear hbd
    have k3:IntKind.i64.wrap (((m:Int)-1)+1)=(m:Int):=by rw [Int.sub_add_cancel]; exact wrap64 (by omega) (by omega)
    rcases Nat.lt_or_ge m (l.length+1) with w | w
    ·have hm1:(m:Int)-1<l.length:=by omega
     rw [drop_range w,List.flatMap_cons,List.append_assoc] at hg3
     generalize hG3:((List.range (l.length+1)).drop (m+1)).flatMap (stepK inst l cp s)++G2=G3 at hg3
     have hskip:stepK inst l cp s m=[]→gath o3 G3=R:=fun q=>by rw [q] at hg3; exact hg3
     rcases Nat.eq_zero_or_pos m with m0 | m0
     ·subst m0
      have hm1n:(-1:Int)<l.length:=by omega
      cases fl
      ·have hg4:=hskip (by simp [stepK,←hfl])
       ((try simp -implicitDefEqProofs [hm1n,hxc,hxc',Code.c,hsc,hsc',h,g]); repeat' first | ((with_reducible first | apply gdK_em | apply cdK_em | apply pickK_em)<;>(intro hc; have hc':=hc; (try simp at hc'); simp -implicitDefEqProofs [hc,hc',hm1n,hxc,hxc',Code.c,hsc,hsc',h,g])))
       exact⟨⟨0+1,o3⟩,⟨by simp only []; omega,by rw [←hG3] at hg4; exact hg4,by simp; omega⟩,by simp only []; omega,by simp [k3,Posting.c]⟩
      cases cp
      ·have hst:stepK inst l false s 0=[inst s (-1)]:=by simp [stepK,←hfl]
       rw [hst] at hg3
       have hj0:((-1:Int)==(j:Int))=false:=by rw [beq_eq_false_iff_ne]; omega
       have hI1:=hI (-1) (fun q=>by cases q) (by decide)
       cases hr:inst s (-1) with
       | none=>
        rw [hr] at hI1 hg3
        rw [hRerr _ _ hg3]
        simp only [instE,peV,pV,zeroP] at hI1
        ((try simp at hI1); (try simp -implicitDefEqProofs [hm1n,hxc,hxc',Code.c,hsc,hsc',h,g,hj0]); repeat' first | ((with_reducible first | apply gdK_em | apply cdK_em | apply pickK_em)<;>(intro hc; have hc':=hc; (try simp at hc'); simp -implicitDefEqProofs [hc,hc',hm1n,hxc,hxc',Code.c,hsc,hsc',h,g,hj0])) | (with_reducible apply callK_pure<;>first | (simp only [eras,era,eras_map]; first | with_reducible exact hI1 | simpa using hI1) | (simp -implicitDefEqProofs [hm1n,hxc,hxc',Code.c,hsc,hsc',h,g,hj0])))
        all_goals (repeat' with_reducible apply And.intro)
        all_goals ((try simp at hI1); (try simp -implicitDefEqProofs [hm1n,hxc,hxc',Code.c,hsc,hsc',h,g,hj0]); repeat' first | ((with_reducible first | apply gdK_em | apply cdK_em | apply pickK_em)<;>(intro hc; have hc':=hc; (try simp at hc'); simp -implicitDefEqProofs [hc,hc',hm1n,hxc,hxc',Code.c,hsc,hsc',h,g,hj0])) | (with_reducible apply callK_pure<;>first | (simp only [eras,era,eras_map]; first | with_reducible exact hI1 | simpa using hI1) | (simp -implicitDefEqProofs [hm1n,hxc,hxc',Code.c,hsc,hsc',h,g,hj0])))
       | some p=>
        rw [hr] at hI1 hg3
        obtain⟨p1,p2,p3,p4,p5⟩:=p
        simp only [instE,peV,pV] at hI1
        by_cases h5:p5=[]
        ·subst h5
         have hg4:gath o3 G3=R:=hg3
         ((try simp at hI1); (try simp -implicitDefEqProofs [hm1n,hxc,hxc',Code.c,hsc,hsc',h,g,hj0]); repeat' first | ((with_reducible first | apply gdK_em | apply cdK_em | apply pickK_em)<;>(intro hc; have hc':=hc; (try simp at hc'); simp -implicitDefEqProofs [hc,hc',hm1n,hxc,hxc',Code.c,hsc,hsc',h,g,hj0])) | (with_reducible apply callK_pure<;>first | (simp only [eras,era,eras_map]; first | with_reducible exact hI1 | simpa using hI1) | (simp -implicitDefEqProofs [hm1n,hxc,hxc',Code.c,hsc,hsc',h,g,hj0])))
         all_goals (repeat' with_reducible apply And.intro)
         all_goals ((try simp at hI1); (try simp -implicitDefEqProofs [hm1n,hxc,hxc',Code.c,hsc,hsc',h,g,hj0]); repeat' first | ((with_reducible first | apply gdK_em | apply cdK_em | apply pickK_em)<;>(intro hc; have hc':=hc; (try simp at hc'); simp -implicitDefEqProofs [hc,hc',hm1n,hxc,hxc',Code.c,hsc,hsc',h,g,hj0])) | (with_reducible apply callK_pure<;>first | (simp only [eras,era,eras_map]; first | with_reducible exact hI1 | simpa using hI1) | (simp -implicitDefEqProofs [hm1n,hxc,hxc',Code.c,hsc,hsc',h,g,hj0])))
         all_goals exact⟨⟨0+1,o3⟩,⟨by simp only []; omega,by rw [←hG3] at hg4; exact hg4,by simp; omega⟩,by simp only []; omega,by simp [k3,Posting.c]⟩
        ·have hg4:gath (o3++[⟨p1,p2,p3,p4,p5⟩]) G3=R:=by
          have:=hg3
          simp only [List.singleton_append,gath] at this
          rw [if_neg h5] at this; exact this
         have h6:0<p5.length:=List.length_pos_iff.2 h5
         have j1:o3.length≤9223372036854775806:=by omega
         have j2:(o3.length+1)*56≤140737488355328:=by omega
         ((try simp at hI1); (try simp -implicitDefEqProofs [hm1n,hxc,hxc',Code.c,hsc,hsc',h,g,hj0,h6,Posting.c,maxLen,j1,j2]); repeat' first | ((with_reducible first | apply gdK_em | apply cdK_em | apply pickK_em)<;>(intro hc; have hc':=hc; (try simp at hc'); simp -implicitDefEqProofs [hc,hc',hm1n,hxc,hxc',Code.c,hsc,hsc',h,g,hj0,h6,Posting.c,maxLen,j1,j2])) | (with_reducible apply callK_pure<;>first | (simp only [eras,era,eras_map]; first | with_reducible exact hI1 | simpa using hI1) | (simp -implicitDefEqProofs [hm1n,hxc,hxc',Code.c,hsc,hsc',h,g,hj0,h6,Posting.c,maxLen,j1,j2])))
         all_goals (repeat' with_reducible apply And.intro)
         all_goals ((try simp at hI1); (try simp -implicitDefEqProofs [hm1n,hxc,hxc',Code.c,hsc,hsc',h,g,hj0,h6,Posting.c,maxLen,j1,j2]); repeat' first | ((with_reducible first | apply gdK_em | apply cdK_em | apply pickK_em)<;>(intro hc; have hc':=hc; (try simp at hc'); simp -implicitDefEqProofs [hc,hc',hm1n,hxc,hxc',Code.c,hsc,hsc',h,g,hj0,h6,Posting.c,maxLen,j1,j2])) | (with_reducible apply callK_pure<;>first | (simp only [eras,era,eras_map]; first | with_reducible exact hI1 | simpa using hI1) | (simp -implicitDefEqProofs [hm1n,hxc,hxc',Code.c,hsc,hsc',h,g,hj0,h6,Posting.c,maxLen,j1,j2])))
         all_goals exact⟨⟨0+1,(o3++[⟨p1,p2,p3,p4,p5⟩])⟩,⟨by simp only []; omega,by rw [←hG3] at hg4; exact hg4,by simp; omega⟩,by simp only []; omega,by simp [k3,Posting.c]⟩
      ·have hg4:=hskip (by simp [stepK])
       ((try simp -implicitDefEqProofs [hm1n,hxc,hxc',Code.c,hsc,hsc',h,g]); repeat' first | ((with_reducible first | apply gdK_em | apply cdK_em | apply pickK_em)<;>(intro hc; have hc':=hc; (try simp at hc'); simp -implicitDefEqProofs [hc,hc',hm1n,hxc,hxc',Code.c,hsc,hsc',h,g])))
       exact⟨⟨0+1,o3⟩,⟨by simp only []; omega,by rw [←hG3] at hg4; exact hg4,by simp; omega⟩,by simp only []; omega,by simp [k3,Posting.c]⟩
     ·obtain⟨q,rfl⟩ : ∃q,m=q+1:=⟨m-1,by omega⟩
      have e0:((q+1:Nat):Int)-1=(q:Int):=by omega
      rw [e0] at hm1 k3
      have hql:q<l.length:=by omega
      obtain⟨t,ht⟩:=get_of_lt hql
      have htm:t∈l:=List.mem_of_getElem? ht
      have htd:l.getD q ⟨0,false,0,0,[]⟩=t:=by rw [List.getD_eq_getElem?_getD,ht]; rfl
      have htc:(l.map Src.q)[q]?=some t.q:=by simp [ht]
      have htc' : ∀h,(l.map Src.q)[q]'h=t.q:=fun h=>by rw [List.getElem?_eq_getElem h] at htc; exact Option.some.inj htc
      obtain⟨tf,htf⟩ : ∃tf,tf=t.full:=⟨_,rfl⟩
      have htq:t.q=[.int .i64 t.ent,.bool tf,.bool (nB t.num),.sl (qE t.num),.bool (nB t.den),.sl (qE t.den),.sl (t.items.map Item.c)]:=by rw [htf]; rfl
      rw [htq] at htc htc'
      have hqn : ¬(q:Int)<0:=by omega
      rw [e0]
      cases fl
      ·have hg4:=hskip (by simp [stepK,←hfl])
       ((try simp -implicitDefEqProofs [hm1,hxc,hxc',Code.c,hsc,hsc',h,g,htc,htc',hql,hqn]); repeat' first | ((with_reducible first | apply gdK_em | apply cdK_em | apply pickK_em)<;>(intro hc; have hc':=hc; (try simp at hc'); simp -implicitDefEqProofs [hc,hc',hm1,hxc,hxc',Code.c,hsc,hsc',h,g,htc,htc',hql,hqn])))
       exact⟨⟨q+1+1,o3⟩,⟨by simp only []; omega,by rw [←hG3] at hg4; exact hg4,by simp; omega⟩,by simp only []; omega,by simp [k3,Posting.c]⟩
      cases cp
      ·have hg4:=hskip (by simp [stepK])
       ((try simp -implicitDefEqProofs [hm1,hxc,hxc',Code.c,hsc,hsc',h,g,htc,htc',hql,hqn]); repeat' first | ((with_reducible first | apply gdK_em | apply cdK_em | apply pickK_em)<;>(intro hc; have hc':=hc; (try simp at hc'); simp -implicitDefEqProofs [hc,hc',hm1,hxc,hxc',Code.c,hsc,hsc',h,g,htc,htc',hql,hqn])))
       exact⟨⟨q+1+1,o3⟩,⟨by simp only []; omega,by rw [←hG3] at hg4; exact hg4,by simp; omega⟩,by simp only []; omega,by simp [k3,Posting.c]⟩
      by_cases hqj:q=j
      ·have hts:t=s:=by rw [hqj,hsj] at ht; exact (Option.some.inj ht).symm
       have hg4:=hskip (by simp only [stepK,htd,hts,othL]; simp)
       have hqj0:((q:Int)==(j:Int))=true:=by rw [beq_iff_eq]; omega
       ((try simp -implicitDefEqProofs [hm1,hxc,hxc',Code.c,hsc,hsc',h,g,htc,htc',hql,hqn,hqj0]); repeat' first | ((with_reducible first | apply gdK_em | apply cdK_em | apply pickK_em)<;>(intro hc; have hc':=hc; (try simp at hc'); simp -implicitDefEqProofs [hc,hc',hm1,hxc,hxc',Code.c,hsc,hsc',h,g,htc,htc',hql,hqn,hqj0])))
       exact⟨⟨q+1+1,o3⟩,⟨by simp only []; omega,by rw [←hG3] at hg4; exact hg4,by simp; omega⟩,by simp only []; omega,by simp [k3,Posting.c]⟩
      have hqj0:((q:Int)==(j:Int))=false:=by rw [beq_eq_false_iff_ne]; omega
      cases tf
      ·have hg4:=hskip (by simp only [stepK,htd,othL,←htf]; simp)
       ((try simp -implicitDefEqProofs [hm1,hxc,hxc',Code.c,hsc,hsc',h,g,htc,htc',hql,hqn,hqj0]); repeat' first | ((with_reducible first | apply gdK_em | apply cdK_em | apply pickK_em)<;>(intro hc; have hc':=hc; (try simp at hc'); simp -implicitDefEqProofs [hc,hc',hm1,hxc,hxc',Code.c,hsc,hsc',h,g,htc,htc',hql,hqn,hqj0])))
       exact⟨⟨q+1+1,o3⟩,⟨by simp only []; omega,by rw [←hG3] at hg4; exact hg4,by simp; omega⟩,by simp only []; omega,by simp [k3,Posting.c]⟩
      ·have hne:t.ent≠s.ent:=by
        obtain⟨u1,u2⟩:=List.getElem?_eq_some_iff.1 ht
        obtain⟨u3,u4⟩:=List.getElem?_eq_some_iff.1 hsj
        rcases Nat.lt_or_ge q j with u5 | u5
        ·have:=List.pairwise_iff_getElem.1 hsort q j u1 u3 u5
         rw [u2,u4] at this; omega
        ·have:=List.pairwise_iff_getElem.1 hsort j q u3 u1 (by omega)
         rw [u2,u4] at this; omega
       have hst:stepK inst l true s (q+1)=[inst s t.ent]:=by
        simp only [stepK,htd,othL,←htf,←hfl]
        rw [if_pos (by simp),if_pos (by simpa using hne)]
       rw [hst] at hg3
       have ht0:=(src_in hok htm).1
       have hI1:=hI t.ent (fun _=>ht0) (by omega)
       cases hr:inst s t.ent with
       | none=>
        rw [hr] at hI1 hg3
        rw [hRerr _ _ hg3]
        simp only [instE,peV,pV,zeroP] at hI1
        ((try simp at hI1); (try simp -implicitDefEqProofs [hm1,hxc,hxc',Code.c,hsc,hsc',h,g,htc,htc',hql,hqn,hqj0]); repeat' first | ((with_reducible first | apply gdK_em | apply cdK_em | apply pickK_em)<;>(intro hc; have hc':=hc; (try simp at hc'); simp -implicitDefEqProofs [hc,hc',hm1,hxc,hxc',Code.c,hsc,hsc',h,g,htc,htc',hql,hqn,hqj0])) | (with_reducible apply callK_pure<;>first | (simp only [eras,era,eras_map]; first | with_reducible exact hI1 | simpa using hI1) | (simp -implicitDefEqProofs [hm1,hxc,hxc',Code.c,hsc,hsc',h,g,htc,htc',hql,hqn,hqj0])))
        all_goals (repeat' with_reducible apply And.intro)
        all_goals ((try simp at hI1); (try simp -implicitDefEqProofs [hm1,hxc,hxc',Code.c,hsc,hsc',h,g,htc,htc',hql,hqn,hqj0]); repeat' first | ((with_reducible first | apply gdK_em | apply cdK_em | apply pickK_em)<;>(intro hc; have hc':=hc; (try simp at hc'); simp -implicitDefEqProofs [hc,hc',hm1,hxc,hxc',Code.c,hsc,hsc',h,g,htc,htc',hql,hqn,hqj0])) | (with_reducible apply callK_pure<;>first | (simp only [eras,era,eras_map]; first | with_reducible exact hI1 | simpa using hI1) | (simp -implicitDefEqProofs [hm1,hxc,hxc',Code.c,hsc,hsc',h,g,htc,htc',hql,hqn,hqj0])))
       | some p=>
        rw [hr] at hI1 hg3
        obtain⟨p1,p2,p3,p4,p5⟩:=p
        simp only [instE,peV,pV] at hI1
        by_cases h5:p5=[]
        ·subst h5
         have hg4:gath o3 G3=R:=hg3
         ((try simp at hI1); (try simp -implicitDefEqProofs [hm1,hxc,hxc',Code.c,hsc,hsc',h,g,htc,htc',hql,hqn,hqj0]); repeat' first | ((with_reducible first | apply gdK_em | apply cdK_em | apply pickK_em)<;>(intro hc; have hc':=hc; (try simp at hc'); simp -implicitDefEqProofs [hc,hc',hm1,hxc,hxc',Code.c,hsc,hsc',h,g,htc,htc',hql,hqn,hqj0])) | (with_reducible apply callK_pure<;>first | (simp only [eras,era,eras_map]; first | with_reducible exact hI1 | simpa using hI1) | (simp -implicitDefEqProofs [hm1,hxc,hxc',Code.c,hsc,hsc',h,g,htc,htc',hql,hqn,hqj0])))
         all_goals (repeat' with_reducible apply And.intro)
         all_goals ((try simp at hI1); (try simp -implicitDefEqProofs [hm1,hxc,hxc',Code.c,hsc,hsc',h,g,htc,htc',hql,hqn,hqj0]); repeat' first | ((with_reducible first | apply gdK_em | apply cdK_em | apply pickK_em)<;>(intro hc; have hc':=hc; (try simp at hc'); simp -implicitDefEqProofs [hc,hc',hm1,hxc,hxc',Code.c,hsc,hsc',h,g,htc,htc',hql,hqn,hqj0])) | (with_reducible apply callK_pure<;>first | (simp only [eras,era,eras_map]; first | with_reducible exact hI1 | simpa using hI1) | (simp -implicitDefEqProofs [hm1,hxc,hxc',Code.c,hsc,hsc',h,g,htc,htc',hql,hqn,hqj0])))
         all_goals exact⟨⟨q+1+1,o3⟩,⟨by simp only []; omega,by rw [←hG3] at hg4; exact hg4,by simp; omega⟩,by simp only []; omega,by simp [k3,Posting.c]⟩
        ·have hg4:gath (o3++[⟨p1,p2,p3,p4,p5⟩]) G3=R:=by
          have:=hg3
          simp only [List.singleton_append,gath] at this
          rw [if_neg h5] at this; exact this
         have h6:0<p5.length:=List.length_pos_iff.2 h5
         have j1:o3.length≤9223372036854775806:=by omega
         have j2:(o3.length+1)*56≤140737488355328:=by omega
         ((try simp at hI1); (try simp -implicitDefEqProofs [hm1,hxc,hxc',Code.c,hsc,hsc',h,g,htc,htc',hql,hqn,hqj0,h6,Posting.c,maxLen,j1,j2]); repeat' first | ((with_reducible first | apply gdK_em | apply cdK_em | apply pickK_em)<;>(intro hc; have hc':=hc; (try simp at hc'); simp -implicitDefEqProofs [hc,hc',hm1,hxc,hxc',Code.c,hsc,hsc',h,g,htc,htc',hql,hqn,hqj0,h6,Posting.c,maxLen,j1,j2])) | (with_reducible apply callK_pure<;>first | (simp only [eras,era,eras_map]; first | with_reducible exact hI1 | simpa using hI1) | (simp -implicitDefEqProofs [hm1,hxc,hxc',Code.c,hsc,hsc',h,g,htc,htc',hql,hqn,hqj0,h6,Posting.c,maxLen,j1,j2])))
         all_goals (repeat' with_reducible apply And.intro)
         all_goals ((try simp at hI1); (try simp -implicitDefEqProofs [hm1,hxc,hxc',Code.c,hsc,hsc',h,g,htc,htc',hql,hqn,hqj0,h6,Posting.c,maxLen,j1,j2]); repeat' first | ((with_reducible first | apply gdK_em | apply cdK_em | apply pickK_em)<;>(intro hc; have hc':=hc; (try simp at hc'); simp -implicitDefEqProofs [hc,hc',hm1,hxc,hxc',Code.c,hsc,hsc',h,g,htc,htc',hql,hqn,hqj0,h6,Posting.c,maxLen,j1,j2])) | (with_reducible apply callK_pure<;>first | (simp only [eras,era,eras_map]; first | with_reducible exact hI1 | simpa using hI1) | (simp -implicitDefEqProofs [hm1,hxc,hxc',Code.c,hsc,hsc',h,g,htc,htc',hql,hqn,hqj0,h6,Posting.c,maxLen,j1,j2])))
         all_goals exact⟨⟨q+1+1,(o3++[⟨p1,p2,p3,p4,p5⟩])⟩,⟨by simp only []; omega,by rw [←hG3] at hg4; exact hg4,by simp; omega⟩,by simp only []; omega,by simp [k3,Posting.c]⟩
    ·have hmm:m=l.length+1:=by omega
     subst hmm
     rw [List.drop_of_length_le (by simp)] at hg3
     have hg4:gath o3 G2=R:=hg3
     have e0:((l.length+1:Nat):Int)-1=(l.length:Int):=by omega
     rw [e0]
     ((try simp -implicitDefEqProofs [f3]); repeat' first | ((with_reducible first | apply gdK_em | apply cdK_em | apply pickK_em)<;>(intro hc; have hc':=hc; (try simp at hc'); simp -implicitDefEqProofs [hc,hc',f3])))
     exact⟨⟨j+1,o3⟩,⟨g,by rw [hG2]; exact hg4,by simp only []; omega⟩,by simp only []; omega,by simp⟩
   ·have hjj:j=l.length:=by omega
    subst hjj
    rw [List.drop_of_length_le (Nat.le_refl _)] at hg2
    have hg3:gath o2 G1=R:=hg2
    ((try simp -implicitDefEqProofs [e3]); repeat' first | ((with_reducible first | apply gdK_em | apply cdK_em | apply pickK_em)<;>(intro hc; have hc':=hc; (try simp at hc'); simp -implicitDefEqProofs [hc,hc',e3])))
    exact⟨⟨i+1,o2⟩,⟨h,by rw [hG1]; exact hg3,by simp only []; omega⟩,by simp only []; omega,by simp⟩
  ·have hii:i=cs.length:=by omega
   subst hii
   rw [List.drop_of_length_le (by simp)] at hg1
   have hg2:(o1,(0:Int))=R:=hg1
   rw [hRE,←hg2]
   ((try simp -implicitDefEqProofs [Code.l,colE]); repeat' first | ((with_reducible first | apply gdK_em | apply cdK_em | apply pickK_em)<;>(intro hc; have hc':=hc; (try simp at hc'); simp -implicitDefEqProofs [hc,hc',Code.l,colE])))
theorem l_runs (cs:List Code) (l:List Sou) (hw : ∀x∈l,x.wf):Pure Tryz.prog 3 [Code.l cs,Sou.l l] (vB true):=by
 have ha:=w_awake35
 have hf:=w_few35 l cs
 cases h:fewE l cs
 ·rw [h] at hf
  (refine Pure.of_code mix Tryz.call3 k_3 (by simp) (fun hB=>?_); (try simp at hB); (try simp -implicitDefEqProofs [qc_3]))
  ((try simp at ha); (try simp at hf); (try simp -implicitDefEqProofs); repeat' first | ((with_reducible first | apply gdK_em | apply cdK_em | apply pickK_em)<;>(intro hc; have hc':=hc; (try simp at hc'); simp -implicitDefEqProofs [hc,hc'])) | (with_reducible apply callK_pure<;>first | (simp only [eras,era,eras_map]; first | with_reducible exact ha | with_reducible exact hf | simpa using ha | simpa using hf) | (simp -implicitDefEqProofs)))
 rw [h] at hf
 obtain⟨f1,f2,f3,f4⟩:=few35_of h
 have hs:=w_sources l (by omega) hw
 have hcd:=w_codes cs (by omega) (fun c hc=>by have:=f3 c hc; omega)
 have hr:=w_runOf h hw
 have hrm:=src_room h hw
 have hLl:(l.map Sou.src).length=l.length:=by simp
 have hv:=w_rvalid35 (l.map Sou.src) (by simp; omega) (fun s hs=>by have:=(hrm s hs).2.2.2; omega)
 have hv2:=w_xvalid (l.map Sou.src) (by simp; omega)
 have hq:=w_qRun cs (l.map Sou.src) (by simp; omega) (by omega) (fun c hc=>by have:=f3 c hc; omega) hrm
 obtain⟨L,hL⟩ : ∃L,L=l.map Sou.src:=⟨_,rfl⟩
 rw [←hL] at hs hr hrm hv hv2 hq
 have hpl : ∀p∈(runE cs L).1,p.parts.length≤1000000:=by
  intro p hp
  unfold runE at hp
  split at hp
  ·rename_i g
   cases hrr:runR cs L with
   | none=>rw [hrr] at hp; simp at hp
   | some q=>rw [hrr] at hp; have:=(balP_of (fun c hc=>by have:=f3 c hc; omega) g.1 hrr hp).len; omega
  ·simp at hp
 have hsm:=w_rsamep (runE cs L).1 hpl
 unfold Src.l Src.ql at hs
 unfold Src.l at hr hv2
 unfold Src.ql at hv hq
 unfold psV at hq
 generalize L.map Src.c=A at *
 generalize L.map Src.q=A2 at *
 generalize runE cs L=R at *
 obtain⟨R1,R2⟩:=R
 (refine Pure.of_code mix Tryz.call3 k_3 (by simp) (fun hB=>?_); (try simp at hB); (try simp -implicitDefEqProofs [qc_3]))
 ((try simp at ha); (try simp at hf); (try simp at hs); (try simp at hcd); (try simp at hr); (try simp at hv); (try simp at hv2); (try simp at hq); (try simp at hsm); (try simp -implicitDefEqProofs); repeat' first | ((with_reducible first | apply gdK_em | apply cdK_em | apply pickK_em)<;>(intro hc; have hc':=hc; (try simp at hc'); simp -implicitDefEqProofs [hc,hc'])) | (with_reducible apply callK_pure<;>first | (simp only [eras,era,eras_map]; first | with_reducible exact ha | with_reducible exact hf | with_reducible exact hs | with_reducible exact hcd | with_reducible exact hr | with_reducible exact hv | with_reducible exact hv2 | with_reducible exact hq | with_reducible exact hsm | simpa using ha | simpa using hf | simpa using hs | simpa using hcd | simpa using hr | simpa using hv | simpa using hv2 | simpa using hq | simpa using hsm) | (simp -implicitDefEqProofs)))
end Go.Proofs.YtmlpmdccfmmpoaaGreat
