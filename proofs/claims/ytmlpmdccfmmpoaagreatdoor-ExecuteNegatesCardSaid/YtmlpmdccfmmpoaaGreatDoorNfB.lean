/- Chapter 35: the program's interpret, the parts in a buffer. -/
import Derived.Test.YtmlpmdccfmmpoaaGreatDoorIpW
import Derived.Test.YtmlpmdccfmmpoaaGreatDoorNfA
set_option linter.unusedSimpArgs false
set_option linter.unusedVariables false
set_option maxHeartbeats 4000000
set_option maxRecDepth 8000
namespace Go.Proofs.YtmlpmdccfmmpoaaGreatDoor
open E
attribute [local simp] Cv.reflU

theorem Sc (b mb:Nat) (r:Rul) (rule:Int) (B:List Bx) (hU:OkU B) (s:Src) (oth:Int) (hs:s.Ok) (hb:B[b]?=some (.cells (mC s oth .snil mb 0))) (hmb:B[mb]?=some (.mp [])) (hrb:D1 r=true)
  (pair:Bool) (hpo:pair=true→0≤oth) (hty : ∀x∈r.stmts,∃kn,(x.ex.inf kn pair).2=0) :
  FnE Tryz.prog 41 [.ptr b 0,r.v,vI rule] ⟨B,[]⟩ (FinN B [b,mb] (Bn s oth rule (Ap s oth r.to [] r.stmts []))):=by
 have hne:b≠mb:=fun e=>by rw [e,hmb] at hb;cases hb
 have hbl:=A4 hb
 have hml:=A4 hmb
 have hst:=Ml hb hmb
 obtain⟨nm,pr,ss,to⟩:=r
 simp only [D1,Bool.and_eq_true,decide_eq_true_eq,List.all_eq_true] at hrb hty
 obtain⟨⟨⟨_,hlen⟩,hto⟩,hstm⟩:=hrb
 obtain⟨R,hR⟩ : ∃R,R=Ap s oth to [] ss []:=⟨_,rfl⟩
 simp only [] 
 rw [←hR]
 obtain⟨P,hP⟩ : ∃P,P=B.length:=⟨_,rfl⟩
 have hgz : ∀(l:List Bx),(B++l)[P]?=l[0]?:=fun l=>by rw [List.getElem?_append_right (by omega)];congr 1;omega
 have hg1 : ∀(l:List Bx) (j:Nat),(B++l)[P+j]?=l[j]?:=fun l j=>by rw [List.getElem?_append_right (by omega)];congr 1;omega
 have hrv:Rul.v ⟨nm,pr,ss,to⟩=.agg [vS nm,vB pr,.t (.sl (ss.map Stm.c)),vI to]:=rfl
 rw [hrv]
 generalize hR0:Bn s oth rule R=R0
 (refine FnE.of_code mix Tryz.call41 k_41 (by simp) (fun hB=>?_);(try simp at hB);(try simp -implicitDefEqProofs))
 ((try simp -implicitDefEqProofs [hgz,hg1,←hP]);repeat' first|((with_reducible first|apply Ac|apply Ad|apply A5)<;>(intro hc;have hc':=hc;(try simp at hc');simp -implicitDefEqProofs [hc,hc',hgz,hg1,←hP])))
 refine A7 (X:=IpS) (fun X=>X.Ok ss s oth to R)
  (fun X=>[(0,.ptr b 0),(2,vI rule),(4,.ptr P 0),(6,.ptr (P+1) 0),(8,.mp (P+2)),(15,.t (.sl (ss.map Stm.c))),(16,vI ss.length),(17,vI X.k)])
  (fun X=>⟨MB B b mb s oth .snil X.ps++[.cells [vS nm,vB pr,.t (.sl (ss.map Stm.c)),vI to],.cells [vI 0,vI 0,vI 0,vI 0,.snil],.mp (mS vI X.L)],[]⟩) (fun X=>ss.length-X.k) ⟨0,[],[]⟩ ⟨by simp,hR.symm,by simp,by simp,by simp,fun n=>(by decide:Ah 0=true),by simp⟩ ?hs ?_
 case hs=>
  have hle:=fun (l l':List Bx) n m h=>A6.appU (l:=l) (l':=l') (hU n m h)
  simp [hst,hle,E.leB,A3,okNs,okN,←hP,mS]
  omega
 rintro ⟨k,L,ps⟩ ⟨hk,hex,ham,hacc,hpl,henv,hLl⟩ hbd
 simp only [] at hk hex ham hacc hpl henv hLl
 clear hbd
 have e3:IntKind.i64.wrap ((k:Int)+1)=(k:Int)+1:=wrap64 (by omega) (by omega)
 obtain⟨M,hM⟩ : ∃M,M=MB B b mb s oth .snil ps:=⟨_,rfl⟩
 have hML:M.length=P:=by rw [hM,G6,hP]
 have hMb:M[b]?=some (.cells (mC s oth .snil mb (ps.map Part.amt).sum)):=by rw [hM,A5k hbl]
 have hMm:M[mb]?=some (.mp (mI vI (B6 ps))):=by rw [hM,A5l hml hne]
 have hMbE : ∀l:List Bx,(M++l)[b]?=some (.cells (mC s oth .snil mb (ps.map Part.amt).sum)):=fun l=>Ae hMb l
 have hMmE : ∀l:List Bx,(M++l)[mb]?=some (.mp (mI vI (B6 ps))):=fun l=>Ae hMm l
 have gz : ∀l:List Bx,(M++l)[P]?=l[0]?:=fun l=>by rw [List.getElem?_append_right (by omega)];congr 1;omega
 have g1 : ∀(l:List Bx) (j:Nat),(M++l)[P+j]?=l[j]?:=fun l j=>by rw [List.getElem?_append_right (by omega)];congr 1;omega
 have s1 : ∀(l:List Bx) (j:Nat) (v:Bx),(M++l).set (P+j) v=M++l.set j v:=fun l j v=>by rw [List.set_append_right _ _ (by omega)];congr 2;omega
 have hMU : ∀l:List Bx,(∀n m,P+3≤n→A6 n m l l)→∀n m,P+3≤n→A6 n m (M++l) (M++l):=fun l hl n m h=>by
  rw [hM]
  exact (A6.appU (O4 hU hml (by omega) (.inl rfl))).2 (hl n m h)
 have hkept : ∀l:List Bx,A0u B (M++l) [b,mb]:=fun l=>⟨by simp;omega,fun j x hj hn=>by
  simp at hn
  refine Ae ?_ l
  rw [hM];unfold MB
  rw [List.getElem?_set_ne (Ne.symm ?_),List.getElem?_set_ne (Ne.symm ?_)]
  ·exact hj
  all_goals first|exact hn.1|exact hn.2⟩
 have hdead : ∀l:List Bx,A6 P 0 (M++l) ((B.set mb .dead).set b .dead):=fun l=>by rw [hM];exact Lb hU l (by omega)
 obtain⟨T0,hT0⟩ : ∃T0:List Bx,T0=[.cells [vS nm,vB pr,.t (.sl (ss.map Stm.c)),vI to],.cells [vI 0,vI 0,vI 0,vI 0,.snil],.mp (mS vI L)]:=⟨_,rfl⟩
 have hT0U : ∀n m,A6 n m T0 T0:=fun n m=>by rw [hT0];exact⟨⟨A3 _,rfl⟩,⟨A3 _,rfl⟩,Vu L n m,trivial⟩
 rw [←hM]
 have hnext : ∀(z:IpS) (rest:List Bx),z.Ok ss s oth to R→z.k=k+1→k<ss.length→∃z',IpS.Ok ss s oth to R z'∧ss.length-z'.k<ss.length-k∧P≤(MB B b mb s oth .snil z'.ps).length+3∧
   A6 ((MB B b mb s oth .snil z'.ps).length+3) 0 (MB B b mb s oth .snil z.ps++(.cells [vS nm,vB pr,.t (.sl (ss.map Stm.c)),vI to]::.cells [vI 0,vI 0,vI 0,vI 0,.snil]::.mp (mS vI z.L)::rest)) (MB B b mb s oth .snil z'.ps++[.cells [vS nm,vB pr,.t (.sl (ss.map Stm.c)),vI to],.cells [vI 0,vI 0,vI 0,vI 0,.snil],.mp (mS vI z'.L)])∧
   b<(MB B b mb s oth .snil z'.ps).length+3∧P<(MB B b mb s oth .snil z'.ps).length+3∧P<(MB B b mb s oth .snil z'.ps).length+2∧P<(MB B b mb s oth .snil z'.ps).length+1∧(z'.k:Int)=(k:Int)+1:=fun z rest hz hzk hkl=>by
  have hl:(MB B b mb s oth .snil z.ps).length=P:=by rw [G6,hP]
  refine⟨z,hz,by omega,by omega,?_,by omega,by omega,by omega,by omega,by rw [hzk];push_cast;rfl⟩
  rw [hl]
  exact (A6.appU (O4 hU hml (by omega) (.inl rfl))).2 ⟨⟨A3 _,rfl⟩,⟨A3 _,rfl⟩,Vu _ _ _,by cases rest<;>trivial⟩
 rcases Nat.lt_or_ge k ss.length with h|h
 ·obtain⟨x,hx⟩:=Aa h
  have hxm:=List.mem_of_getElem? hx
  have hdr:ss.drop k=x::ss.drop (k+1):=by
   obtain⟨h1,h2⟩:=List.getElem?_eq_some_iff.1 hx
   rw [List.drop_eq_getElem_cons h1,h2]
  rw [hdr,Ap] at hex
  have hxc:(ss.map Stm.c)[k]?=some x.c:=by simp [hx]
  have hxc' : ∀h,(ss.map Stm.c)[k]'h=x.c:=fun h=>by rw [List.getElem?_eq_getElem h] at hxc;exact Option.some.inj hxc
  have hsb:=hstm x hxm
  unfold Eu at hsb
  simp only [Bool.and_eq_true,decide_eq_true_eq] at hsb
  obtain⟨⟨hsh,_⟩,hpr⟩:=hsb
  obtain⟨kn,hin⟩:=hty x hxm
  have hxU : ∀n m,E.leB n m (.cells (x.c.map .t)) (.cells (x.c.map .t)):=fun n m=>⟨A3 _,Dq _ _ _⟩
  have hvU : ∀n m,(M++(T0++[Bx.cells (x.c.map .t)])).length≤n→A6 n m (M++(T0++[Bx.cells (x.c.map .t)])) (M++(T0++[Bx.cells (x.c.map .t)])):=fun n m hn=>hMU (T0++[Bx.cells (x.c.map .t)]) (fun n m _=>(A6.appU (hT0U n m)).2 ⟨hxU n m,trivial⟩) n m (by rw [hT0] at hn;simp at hn;omega)
  have hcall:=Vt s hs oth kn pair (fun n=>(B7 L n).getD 0) hpo x.ex hpr hin (M++(T0++[Bx.cells (x.c.map .t)])) hvU b .snil mb _ (hMbE _) (.mp (P+2)) (.inr ⟨P+2,L,rfl,by rw [g1,hT0];rfl,fun _=>rfl⟩)
  have hva:=S8 (s:=s) (oth:=oth) henv hpr
  obtain⟨w,hw⟩ : ∃w,w=x.ex.valE s oth fun n=>(B7 L n).getD 0:=⟨_,rfl⟩
  rw [←hw] at hcall hex hva
  obtain⟨w1,w2⟩:=w
  simp only [] at hex hva
  unfold vO at hcall
  obtain⟨kd,ac,sn,ex⟩:=x
  obtain⟨ek,ev,ef,et,en,exs⟩:=ex
  simp only [] at hex hsh
  have hc9:Stm.c ⟨kd,ac,sn,.mk ek ev ef et en exs⟩=[.int .i64 kd,.int .i64 ac,.str sn,.int .i64 ek,.int .i64 ev,.int .i64 ef,.int .i64 et,.str en,.sl (exs.map Xp.c)]:=by unfold Stm.c;rw [Xp.c_mk]
  rw [hc9] at hxc hcall hvU
  simp only [hc9] at hxc'
  rw [show (Xp.mk ek ev ef et en exs).v=.agg [vI ek,vI ev,vI ef,vI et,vS en,.t (.sl (exs.map Xp.c))] from by show V.agg _=_;rw [Xp.c_mk];rfl,hT0] at hcall
  simp only [List.map_cons,List.map_nil,List.cons_append,List.nil_append] at hcall
  have hvU2:=hvU
  rw [hT0] at hvU2
  simp only [List.map_cons,List.map_nil,List.cons_append,List.nil_append] at hvU2
  cases w2
  ·rw [if_neg (by decide)] at hex
   rw [←hex] at hR0
   subst hR0
   (try simp -implicitDefEqProofs [h,hxc,hxc',gz,g1,s1,hML])
   refine Ab hcall ?_
   (try simp -implicitDefEqProofs [gz,g1,s1])
   refine⟨.tup [pVN Bb .snil,vI 2],⟨_,[]⟩,⟨_,.snil,rfl,rfl,.inl ⟨rfl,rfl⟩,hvU2,hkept _⟩,.inl ?_⟩
   simp [gz,g1,pVN,Bb,okN,okNs]
   exact⟨by omega,hvU2 _ _ (by simp)⟩
  rw [if_pos rfl] at hex
  unfold Qv at hsh
  by_cases k1:kd=1
  ·rw [if_pos k1] at hex
   subst k1
   have hset:=M8 vI sn w1 L
   ((try simp -implicitDefEqProofs [h,hxc,hxc',gz,g1,s1,hML]);repeat' first|((with_reducible first|apply Ac|apply Ad|apply A5)<;>(intro hc;have hc':=hc;(try simp at hc');simp -implicitDefEqProofs [hc,hc',h,hxc,hxc',gz,g1,s1,hML])))
   refine Ab hcall ?_
   ((try simp -implicitDefEqProofs [gz,g1,s1,hset,e3]);repeat' first|((with_reducible first|apply Ac|apply Ad|apply A5)<;>(intro hc;have hc':=hc;(try simp at hc');simp -implicitDefEqProofs [hc,hc',gz,g1,s1,hset,e3])))
   have hal:=F6 L sn w1
   refine⟨by unfold maxLen;omega,?_⟩
   rw [hM]
   refine hnext ⟨k+1,Ca L sn w1,ps⟩ _ ⟨h,hex,ham,hacc,Nat.le_succ_of_le hpl,fun n=>?_,by simp only [];omega⟩ rfl h
   simp only [H9]
   by_cases hn:n=sn
   ·rw [if_pos hn];exact hva rfl
   ·rw [if_neg hn];exact henv n
  rw [if_neg k1] at hsh hex
  have d1:(kd==1)=false:=by simpa using k1
  by_cases k2:kd=2
  ·rw [if_pos k2] at hex
   subst k2
   by_cases w0:w1=0
   ·rw [if_pos w0] at hex
    subst w0
    rw [←hex] at hR0
    subst hR0
    (try simp -implicitDefEqProofs [h,hxc,hxc',gz,g1,s1,hML])
    refine Ab hcall ?_
    (try simp -implicitDefEqProofs [gz,g1,s1])
    refine⟨.tup [pVN Bb .snil,vI 0],⟨_,[]⟩,⟨_,.snil,rfl,rfl,.inl ⟨rfl,rfl⟩,hvU2,hkept _⟩,.inl ?_⟩
    simp [gz,g1,pVN,Bb,okN,okNs]
    exact⟨by omega,hvU2 _ _ (by simp)⟩
   ·rw [if_neg w0] at hex
    have w0':(w1==0)=false:=by simpa using w0
    ((try simp -implicitDefEqProofs [h,hxc,hxc',gz,g1,s1,hML]);repeat' first|((with_reducible first|apply Ac|apply Ad|apply A5)<;>(intro hc;have hc':=hc;(try simp at hc');simp -implicitDefEqProofs [hc,hc',h,hxc,hxc',gz,g1,s1,hML])))
    refine Ab hcall ?_
    ((try simp -implicitDefEqProofs [gz,g1,s1,e3,w0,w0']);repeat' first|((with_reducible first|apply Ac|apply Ad|apply A5)<;>(intro hc;have hc':=hc;(try simp at hc');simp -implicitDefEqProofs [hc,hc',gz,g1,s1,e3,w0,w0'])))
    rw [hM]
    exact hnext ⟨k+1,L,ps⟩ _ ⟨h,hex,ham,hacc,Nat.le_succ_of_le hpl,henv,Nat.le_succ_of_le hLl⟩ rfl h
  ·rw [if_neg k2] at hsh hex
   have d2:(kd==2)=false:=by simpa using k2
   have k3:kd=3:=by
    by_cases k3:kd=3
    ·exact k3
    ·rw [if_neg k3] at hsh;cases hsh
   subst k3
   rw [if_pos rfl] at hsh
   have hac:1≤ac∧ac≤99999:=by
    simp only [Bool.and_eq_true,acB,decide_eq_true_eq] at hsh
    exact hsh.2
   have hv0:=hva rfl
   have hv0b:=G3 hv0
   have hsb:=Jt ham
   have hsa:=Fs (k:=ac) ham
   have hplen:=Eo ps
   have hpss:=En ps ac
   have hsm:((ps++[(⟨ac,w1⟩:Part)]).map Part.amt).sum=(ps.map Part.amt).sum+w1:=by rw [List.map_append,List.sum_append];simp
   have hpo2:=Mh b mb ac w1 ⟨M++(T0++[Bx.cells [vI 3,vI ac,vS sn,vI ek,vI ev,vI ef,vI et,vS en,.t (.sl (exs.map Xp.c))]]),[]⟩ ⟨hvU _ 0 (Nat.le_refl _),trivial⟩ s oth .snil (ps.map Part.amt).sum (B6 ps) (hMbE _) (hMmE _) (by omega) rfl (by rw [hpss];exact wrap64 (by omega) (by omega)) (wrap64 (by omega) (by omega))
   have hpost0:=Pa (B:=B) (s:=s) (oth:=oth) (lv:=.snil) (ps:=ps) (ps':=ps++[(⟨ac,w1⟩:Part)]) hne
   rw [hsm,Ed] at hpost0
   have hMp : ∀l:List Bx,((M++l).set mb (.mp (mI vI (Ca (B6 ps) ac ((B7 (B6 ps) ac).getD 0+w1))))).set b (.cells (mC s oth .snil mb ((ps.map Part.amt).sum+w1)))=MB B b mb s oth .snil (ps++[⟨ac,w1⟩])++l:=fun l=>by
    rw [List.set_append_left _ _ (by omega),List.set_append_left _ _ (by simp;omega),hM,hpost0]
   simp only [hMp] at hpo2
   rw [hT0] at hpo2
   simp only [List.cons_append,List.nil_append] at hpo2
   ((try simp -implicitDefEqProofs [h,hxc,hxc',gz,g1,s1,hML]);repeat' first|((with_reducible first|apply Ac|apply Ad|apply A5)<;>(intro hc;have hc':=hc;(try simp at hc');simp -implicitDefEqProofs [hc,hc',h,hxc,hxc',gz,g1,s1,hML])))
   refine Ab hcall ?_
   ((try simp -implicitDefEqProofs [gz,g1,s1]);repeat' first|((with_reducible first|apply Ac|apply Ad|apply A5)<;>(intro hc;have hc':=hc;(try simp at hc');simp -implicitDefEqProofs [hc,hc',gz,g1,s1])))
   refine Ab hpo2 ?_
   ((try simp -implicitDefEqProofs [e3]);repeat' first|((with_reducible first|apply Ac|apply Ad|apply A5)<;>(intro hc;have hc':=hc;(try simp at hc');simp -implicitDefEqProofs [hc,hc',e3])))
   exact hnext ⟨k+1,L,ps++[⟨ac,w1⟩]⟩ _ ⟨h,hex,fun p hp=>by
    rcases List.mem_append.1 hp with hp|hp
    ·exact ham p hp
    ·simp at hp;subst hp;exact hv0,fun p hp=>by
    rcases List.mem_append.1 hp with hp|hp
    ·exact hacc p hp
    ·simp at hp;subst hp;exact⟨by simp only [];omega,by simp only [];omega⟩,by simp;omega,henv,Nat.le_succ_of_le hLl⟩ rfl h
 ·have hkk:k=ss.length:=by omega
  subst hkk
  rw [List.drop_of_length_le (Nat.le_refl _),Ap] at hex
  have hto2:1≤to∧to≤99999:=by simp only [acB,Bool.and_eq_true,decide_eq_true_eq] at hto;exact hto
  have hfin:=A0v b mb to rule (M++T0) (fun n m hn=>hMU T0 (fun n m _=>hT0U n m) n m (by rw [hT0] at hn;simp at hn;omega)) s oth .snil ps (hMbE _) (hMmE _) (by omega) ham hacc (by omega) (.inl rfl)
  rw [hex,hR0] at hfin
  rw [hT0] at hfin
  (try simp -implicitDefEqProofs [gz,g1,s1])
  refine Ke hfin ?_
  rintro r S' ⟨B',pv,rfl,rfl,hpa,hBU,hkp⟩
  have hq1:B'[P+1]?=some (.cells [vI 0,vI 0,vI 0,vI 0,.snil]):=hkp.2 _ _ (by rw [g1];rfl) (by simp;omega)
  have hql:=A4 hq1
  have hq2 : ∀v,(B'.set (P+1) v)[P+1]?=some v:=fun v=>List.getElem?_set_self hql
  have hkP:=hkp.1
  simp at hkP
  have hpo2 : ∀n m,B'.length≤n→okN n m pv=true:=fun n m hn=>by
   rcases hpa with ⟨rfl,_⟩|⟨kb,rfl,_,hkb⟩
   ·rfl
   ·have:=A4 hkb
    simp [okN];omega
  obtain⟨⟨p1,p2,p3,p4,p5⟩,p6⟩:=R0
  have hcell:cellB pv=true:=by rcases hpa with ⟨rfl,_⟩|⟨kb,rfl,_⟩<;>rfl
  obtain⟨V5,hV5⟩ : ∃V5:List V,V5=[vI p1,vI p2,vI p3,vI p4,pv]:=⟨_,rfl⟩
  have hfinal2:FinN B [b,mb] (⟨p1,p2,p3,p4,p5⟩,p6) (.tup [pVN ⟨p1,p2,p3,p4,p5⟩ pv,vI p6]) ⟨B'.set (P+1) (.cells V5),[]⟩:=by
   refine⟨_,pv,rfl,rfl,?_,fun n m hn=>?_,by simp;omega,fun j x hj hn=>?_⟩
   ·rcases hpa with h|⟨kb,e1,e2,e3⟩
    ·exact .inl h
    ·simp at e2
     exact .inr ⟨kb,e1,by omega,by rw [List.getElem?_set_ne (by omega)];exact e3⟩
   ·simp at hn
    exact A6.set (show E.leB n m (.cells V5) (.cells V5) from ⟨A3 _,by rw [hV5];simp [okNs,okN,hpo2 n m hn]⟩) (P+1) (hBU n m hn)
   ·have hjl:=A4 hj
    rw [List.getElem?_set_ne (by omega)]
    exact hkp.2 j x ((hkept _).2 j x hj hn) hn
  have hfU:OkU (B'.set (P+1) (.cells V5)):=fun n m hn=>by
   simp at hn
   exact A6.set (show E.leB n m (.cells V5) (.cells V5) from ⟨A3 _,by rw [hV5];simp [okNs,okN,hpo2 n m hn]⟩) (P+1) (hBU n m hn)
  rw [hV5] at hfinal2 hfU
  unfold pVN
  rcases hpa with ⟨rfl,_⟩|⟨kb,rfl,_,hkb⟩
  all_goals
   (try simp -implicitDefEqProofs [hq1,hq2])
   refine⟨_,_,hfinal2,.inl ?_⟩
   simp [hq2,pVN,okN,okNs]
   have hL5:=hfU B'.length 0 (by simp)
   first|exact⟨by omega,hL5⟩|exact⟨by omega,hL5,A4 hkb⟩
end Go.Proofs.YtmlpmdccfmmpoaaGreatDoor
