/- Chapter 32: the reference's Valid and Few. -/
import Derived.Test.YtmlpmdccfmmpoaaGreatDoorMaps
set_option linter.unusedSimpArgs false
set_option linter.unusedVariables false
set_option maxHeartbeats 4000000
set_option maxRecDepth 8000
namespace Go.Proofs.YtmlpmdccfmmpoaaGreatDoor
open E
def P7 (k a:Int) (n:List UInt8):Bool:=
 if k=1 then Cf n&&(a==0) else if k=2 then n.isEmpty&&(a==0) else if k=3 then n.isEmpty&&acB a else false
def Dv (s:Stm):Bool:=P7 s.kind s.acc s.name&&decide (s.ex.dep≤30)&&s.ex.prop
def Ec (r:Rul):Bool:=Cf r.name&&decide (r.stmts.length≤30)&&acB r.to&&r.stmts.all Dv
def Kr (p:List Rul):Bool:=p.all Ec&&decide (p.length≤40)

theorem A2l (s:Stm) (hc:s.ex.cnt≤100000):A3 Tryz.prog 97 [s.v] (vB (Dv s)):=by
 obtain⟨k,a,n,x⟩:=s
 simp only [] at hc
 have hn:=M8 n
 have ha:=Ym a
 have hd:=Yo x hc
 have hp:=w_proper x
 have hlc:=C1 x
 have htc:=Bf x
 generalize hR:vB (Dv ⟨k,a,n,x⟩)=R
 unfold Dv P7 at hR
 simp only [] at hR
 generalize x.dep=d at *
 generalize x.prop=pb at *
 generalize Cf n=nb at *
 generalize acB a=ab at *
 rw [Stm.v,Stm.c]
 simp only []
 have hcases:k=1∨k=2∨k=3∨((k==1)=false∧(k==2)=false∧(k==3)=false):=by
  simp only [beq_eq_false_iff_ne,ne_eq];omega
 rcases hcases with rfl|rfl|rfl|⟨n1,n2,n3⟩
 ·(refine A3.of_code mix Tryz.call97 k_97 (by simp) (fun hB=>?_);(try simp at hB);(try simp -implicitDefEqProofs))
  ((try simp at hn ha hd hp);(try simp -implicitDefEqProofs [hlc,htc]);repeat' first|((with_reducible first|apply Ad|apply Ae|apply A8)<;>(intro hc;have hc':=hc;(try simp at hc');simp -implicitDefEqProofs [hc,hc',hlc,htc]))|(with_reducible apply A0<;>first|(simp only [eras,era,A1];first|with_reducible assumption)|(simp -implicitDefEqProofs [hlc,htc])))
  all_goals (subst hR;simp_all<;>(intros;omega))
 ·(refine A3.of_code mix Tryz.call97 k_97 (by simp) (fun hB=>?_);(try simp at hB);(try simp -implicitDefEqProofs))
  ((try simp at hn ha hd hp);(try simp -implicitDefEqProofs [hlc,htc]);repeat' first|((with_reducible first|apply Ad|apply Ae|apply A8)<;>(intro hc;have hc':=hc;(try simp at hc');simp -implicitDefEqProofs [hc,hc',hlc,htc]))|(with_reducible apply A0<;>first|(simp only [eras,era,A1];first|with_reducible assumption)|(simp -implicitDefEqProofs [hlc,htc])))
  all_goals (subst hR;simp_all<;>(intros;omega))
 ·(refine A3.of_code mix Tryz.call97 k_97 (by simp) (fun hB=>?_);(try simp at hB);(try simp -implicitDefEqProofs))
  ((try simp at hn ha hd hp);(try simp -implicitDefEqProofs [hlc,htc]);repeat' first|((with_reducible first|apply Ad|apply Ae|apply A8)<;>(intro hc;have hc':=hc;(try simp at hc');simp -implicitDefEqProofs [hc,hc',hlc,htc]))|(with_reducible apply A0<;>first|(simp only [eras,era,A1];first|with_reducible assumption)|(simp -implicitDefEqProofs [hlc,htc])))
  all_goals (subst hR;simp_all<;>(intros;omega))
 ·(refine A3.of_code mix Tryz.call97 k_97 (by simp) (fun hB=>?_);(try simp at hB);(try simp -implicitDefEqProofs))
  ((try simp at hn ha hd hp);(try simp -implicitDefEqProofs [hlc,htc,n1,n2,n3]);repeat' first|(with_reducible apply A0<;>first|(simp only [eras,era,A1];first|with_reducible assumption)|(simp -implicitDefEqProofs [hlc,htc,n1,n2,n3])))
  all_goals (subst hR;simp_all<;>(intros;omega))
theorem Zn (s:Stm) (hc:s.ex.cnt≤100000):A3 Tryz.prog 96 [s.v] (vB (!Dv s)):=by
 have h:=A2l s hc
 generalize Dv s=b at *
 have hlc:=Ju s
 have htc:=Ix s
 (refine A3.of_code mix Tryz.call96 k_96 (by simp) (fun hB=>?_);(try simp at hB);(try simp -implicitDefEqProofs))
 ((try simp at h);(try simp -implicitDefEqProofs [hlc,htc]);repeat' first|(with_reducible apply A0<;>first|(simp only [eras,era,A1];first|with_reducible assumption)|(simp -implicitDefEqProofs [hlc,htc])))
theorem Sa (p:List Rul) (hc : ∀r∈p,∀s∈r.stmts,s.ex.cnt≤100000):A3 Tryz.prog 45 [Rul.l p] (vB (Kr p)):=by
 generalize hR:vB (Kr p)=R
 unfold Kr at hR
 (refine A3.of_code mix Tryz.call45 k_45 (by simp) (fun hB=>?_);(try simp at hB);(try simp -implicitDefEqProofs))
 refine A6 (X:=Nat) (fun k=>k≤p.length∧∀y∈p.take k,Ec y=true) (fun k=>[(0,Rul.l p),(5,Rul.l p),(6,vI p.length),(7,vI k)]) (fun _=>St0) (fun k=>p.length-k) 0 ⟨by simp,by simp⟩ (by simp) ?_
 rintro k ⟨hk,hn⟩ hbd
 rcases Nat.lt_or_ge k p.length with h|h
 ·have hx:p[k]?=some p[k]:=by simp [h]
  have e3:IntKind.i64.wrap ((k:Int)+1)=(k:Int)+1:=wrap64 (by omega) (by simp [maxLen] at hB;omega)
  have hlc:=Ma p[k]
  have htc:=Mc p[k]
  have hcs:=hc p[k] (List.getElem_mem h)
  have hstep:Ec p[k]=true→∃z':Nat,(z'≤p.length∧∀y∈p.take z',Ec y=true)∧p.length-z'<p.length-k∧(z':Int)=(k:Int)+1:=by
   intro hr
   refine⟨k+1,⟨by omega,fun y hy=>?_⟩,by omega,by push_cast;rfl⟩
   rw [Ah hx] at hy
   rcases List.mem_append.1 hy with h1|h1
   ·exact hn y h1
   ·simp at h1;subst h1;exact hr
  have hout:Ec p[k]=false→p.all Ec=false:=by
   intro hr
   rw [List.all_eq_false]
   exact⟨p[k],List.getElem_mem h,by simp [hr]⟩
  have hrul:Ec p[k]=(Cf p[k].name&&decide (p[k].stmts.length≤30)&&acB p[k].to&&p[k].stmts.all Dv):=rfl
  have hcc:p[k].c=[.str p[k].name,.bool p[k].pair,.sl (p[k].stmts.map Stm.c),.int .i64 p[k].to]:=rfl
  generalize hrk:p[k]=r at *
  obtain⟨nm,pr,ss,to⟩:=r
  simp only [] at *
  have h1:=M8 nm
  have h2:=Ym to
  have h3:A3 Tryz.prog 95 [Stm.l ss,.fn (.func 96) []] (vB (ss.any fun s=>!Dv s)):=
   A1o St0 Yf ss 96 [] rfl (fun s=>!Dv s) (fun s hs=>Zn s (hcs s hs))
  have hall:ss.all Dv = !(ss.any fun s=>!Dv s):=by simp [List.all_eq_not_any_not]
  rw [hall] at hrul
  generalize (ss.any fun s=>!Dv s)=an at *
  generalize Cf nm=nb at *
  generalize acB to=ab at *
  by_cases h30:ss.length≤30
  ·have h30':decide ((30:Int)<ss.length)=false:=by simp;omega
   rw [decide_eq_true h30] at hrul
   cases nb
   ·rw [hout (by rw [hrul];rfl),Bool.false_and] at hR
    subst hR
    ((try simp at h1 h2 h3);(try simp -implicitDefEqProofs [h,hrk,hcc,h30',e3,hlc,htc]);repeat' first|(with_reducible apply A0<;>first|(simp only [eras,era,A1];first|with_reducible assumption)|(simp -implicitDefEqProofs [h,hrk,hcc,h30',e3,hlc,htc])))
   ·cases ab
    ·rw [hout (by rw [hrul];rfl),Bool.false_and] at hR
     subst hR
     ((try simp at h1 h2 h3);(try simp -implicitDefEqProofs [h,hrk,hcc,h30',e3,hlc,htc]);repeat' first|(with_reducible apply A0<;>first|(simp only [eras,era,A1];first|with_reducible assumption)|(simp -implicitDefEqProofs [h,hrk,hcc,h30',e3,hlc,htc])))
    ·cases an
     ·have hst:=hstep (by rw [hrul];rfl)
      ((try simp at h1 h2 h3);(try simp -implicitDefEqProofs [h,hrk,hcc,h30',e3,hlc,htc]);repeat' first|(with_reducible apply A0<;>first|(simp only [eras,era,A1];first|with_reducible assumption)|(simp -implicitDefEqProofs [h,hrk,hcc,h30',e3,hlc,htc])))
      exact hst
     ·rw [hout (by rw [hrul];rfl),Bool.false_and] at hR
      subst hR
      ((try simp at h1 h2 h3);(try simp -implicitDefEqProofs [h,hrk,hcc,h30',e3,hlc,htc]);repeat' first|(with_reducible apply A0<;>first|(simp only [eras,era,A1];first|with_reducible assumption)|(simp -implicitDefEqProofs [h,hrk,hcc,h30',e3,hlc,htc])))
  ·have h30':decide ((30:Int)<ss.length)=true:=by simp;omega
   rw [decide_eq_false h30] at hrul
   simp only [Bool.and_false,Bool.false_and] at hrul
   have hR2:=hR
   rw [hout hrul,Bool.false_and] at hR2
   subst hR2
   cases nb
   ·((try simp at h1 h2 h3);(try simp -implicitDefEqProofs [h,hrk,hcc,h30',e3,hlc,htc]);repeat' first|(with_reducible apply A0<;>first|(simp only [eras,era,A1];first|with_reducible assumption)|(simp -implicitDefEqProofs [h,hrk,hcc,h30',e3,hlc,htc])))
   ·((try simp at h1 h2 h3);(try simp -implicitDefEqProofs [h,hrk,hcc,h30',e3,hlc,htc]);repeat' first|(with_reducible apply A0<;>first|(simp only [eras,era,A1];first|with_reducible assumption)|(simp -implicitDefEqProofs [h,hrk,hcc,h30',e3,hlc,htc])))
 ·have:k=p.length:=by omega
  subst this
  rw [List.take_length] at hn
  have hall:p.all Ec=true:=List.all_eq_true.2 hn
  rw [hall,Bool.true_and] at hR
  subst hR
  (try simp -implicitDefEqProofs)
  omega
def Stm.ok (s:Stm):Prop:=s.name.length≤maxLen∧s.ex.ok
def Rul.ok (r:Rul):Prop:=r.name.length≤maxLen∧∀s∈r.stmts,s.ok
theorem Ud:Cf []=false:=rfl
theorem A2m (k a:Int) (n:List UInt8):P7 k a n = !(decide (k<1)||decide (3<k)||((k==1) != (n != []))||((k==1) && !Cf n)||((k==3) && !acB a)||((k != 3)&&(a != 0))):=by
 unfold P7
 by_cases h1:k=1
 ·subst h1
  cases n with
  | nil=>rw [Ud];simp
  | cons c n=>cases Cf (c::n)<;>simp [bne]
 by_cases h2:k=2
 ·subst h2
  cases n with
  | nil=>simp [bne]
  | cons c n=>simp [bne]
 by_cases h3:k=3
 ·subst h3
  cases n with
  | nil=>cases acB a<;>simp
  | cons c n=>cases acB a<;>simp [bne]
 ·rw [if_neg h1,if_neg h2,if_neg h3]
  have:decide (k<1)=true∨decide (3<k)=true:=by simp;omega
  rcases this with h|h<;>rw [h]<;>simp
theorem X6 (p:List Rul) (hok : ∀r∈p,r.ok) (hc : ∀r∈p,∀s∈r.stmts,s.ex.cnt≤100000):A3 Tryz.prog 74 [Rul.l p] (vB (Kr p)):=by
 generalize hR:vB (Kr p)=R
 unfold Kr at hR
 (refine A3.of_code mix Tryz.call74 k_74 (by simp) (fun hB=>?_);(try simp at hB);(try simp -implicitDefEqProofs))
 refine A6 (X:=Nat) (fun k=>k≤p.length∧∀y∈p.take k,Ec y=true) (fun k=>[(0,Rul.l p),(3,vI k)]) (fun _=>St0) (fun k=>p.length-k) 0 ⟨by simp,by simp⟩ (by simp) ?_
 rintro k ⟨hk,hn⟩ hbd
 rcases Nat.lt_or_ge k p.length with h|h
 ·have hx:p[k]?=some p[k]:=by simp [h]
  have e3:IntKind.i64.wrap ((k:Int)+1)=(k:Int)+1:=wrap64 (by omega) (by simp [maxLen] at hB;omega)
  have hlc:=Ma p[k]
  have htc:=Mc p[k]
  have hcs:=hc p[k] (List.getElem_mem h)
  have hoks:=hok p[k] (List.getElem_mem h)
  have hstep:Ec p[k]=true→∃z':Nat,(z'≤p.length∧∀y∈p.take z',Ec y=true)∧p.length-z'<p.length-k∧(z':Int)=(k:Int)+1:=by
   intro hr
   refine⟨k+1,⟨by omega,fun y hy=>?_⟩,by omega,by push_cast;rfl⟩
   rw [Ah hx] at hy
   rcases List.mem_append.1 hy with h1|h1
   ·exact hn y h1
   ·simp at h1;subst h1;exact hr
  have hout:Ec p[k]=false→p.all Ec=false:=by
   intro hr
   rw [List.all_eq_false]
   exact⟨p[k],List.getElem_mem h,by simp [hr]⟩
  have hrul:Ec p[k]=(Cf p[k].name&&decide (p[k].stmts.length≤30)&&acB p[k].to&&p[k].stmts.all Dv):=rfl
  have hcc:p[k].c=[.str p[k].name,.bool p[k].pair,.sl (p[k].stmts.map Stm.c),.int .i64 p[k].to]:=rfl
  have hpk : ∀hlt:k<p.length,(p[k]'hlt)=p[k]:=fun _=>rfl
  generalize hrk:p[k]=r at *
  obtain⟨nm,pr,ss,to⟩:=r
  simp only [] at *
  have h1:=M9 nm hoks.1
  have h2:=Rq to
  have hbn:=Cf nm
  generalize hnbe:Cf nm=nb at *
  generalize habe:acB to=ab at *
  by_cases hhd:(nb&&decide (ss.length≤30)&&ab)=true
  ·rw [hhd,Bool.true_and] at hrul
   rw [Bool.and_eq_true,Bool.and_eq_true] at hhd
   obtain⟨⟨rfl,h30⟩,rfl⟩:=hhd
   have h30:=of_decide_eq_true h30
   have h30':decide ((30:Int)<ss.length)=false:=by simp;omega
   ((try simp at h1 h2);(try simp -implicitDefEqProofs [h,hrk,hcc,h30',e3,hlc,htc]);repeat' first|(with_reducible apply A0<;>first|(simp only [eras,era,A1];first|with_reducible assumption)|(simp -implicitDefEqProofs [h,hrk,hcc,h30',e3,hlc,htc])))
   refine A6 (X:=Nat) (fun j=>j≤ss.length∧∀y∈ss.take j,Dv y=true) (fun j=>[(0,Rul.l p),(3,vI k),(4,vI j)]) (fun _=>St0) (fun j=>ss.length-j) 0 ⟨by simp,by simp⟩ (by simp) ?_
   rintro j ⟨hj,hjn⟩ hbd2
   clear hbd2
   rcases Nat.lt_or_ge j ss.length with g|g
   ·have gx:ss[j]?=some ss[j]:=by simp [g]
    have gl:=Ju ss[j]
    have gt:=Ix ss[j]
    have gc:=hcs ss[j] (List.getElem_mem g)
    have go:=hoks.2 ss[j] (List.getElem_mem g)
    have gb:ss.length≤30:=h30
    have g3:IntKind.i64.wrap ((j:Int)+1)=(j:Int)+1:=wrap64 (by omega) (by omega)
    have gstep:Dv ss[j]=true→∃z':Nat,(z'≤ss.length∧∀y∈ss.take z',Dv y=true)∧ss.length-z'<ss.length-j∧(z':Int)=(j:Int)+1:=by
     intro hr
     refine⟨j+1,⟨by omega,fun y hy=>?_⟩,by omega,by push_cast;rfl⟩
     rw [Ah gx] at hy
     rcases List.mem_append.1 hy with h1|h1
     ·exact hjn y h1
     ·simp at h1;subst h1;exact hr
    have gout:Dv ss[j]=false→p.all Ec=false:=by
     intro hr
     refine hout ?_
     rw [hrul,List.all_eq_false]
     exact⟨ss[j],List.getElem_mem g,by simp [hr]⟩
    have gcc:ss[j].c=.int .i64 ss[j].kind::.int .i64 ss[j].acc::.str ss[j].name::ss[j].ex.c:=rfl
    have gd:Dv ss[j]=(P7 ss[j].kind ss[j].acc ss[j].name&&decide (ss[j].ex.dep≤30)&&ss[j].ex.prop):=rfl
    generalize gsj:ss[j]=st at *
    obtain⟨sk,sa,sn,sx⟩:=st
    simp only [] at *
    have gnl:sn.length≤maxLen:=go.1
    have gxo:sx.ok:=go.2
    have q1:=M9 sn gnl
    have q2:=Rq sa
    have q3:=Vj sx gc
    have q4:=Tq sx gxo
    have ql:=C1 sx
    have qt:=Bf sx
    rw [A2m] at gd
    generalize Cf sn=snb at *
    generalize acB sa=sab at *
    generalize sx.dep=sd at *
    generalize sx.prop=sp at *
    have hcases:sk=1∨sk=2∨sk=3∨((sk==1)=false∧(sk==2)=false∧(sk==3)=false):=by
     simp only [beq_eq_false_iff_ne,ne_eq];omega
    by_cases hs:Dv ⟨sk,sa,sn,sx⟩=true
    ·have gst:=gstep hs
     rw [gd] at hs
     rcases hcases with rfl|rfl|rfl|⟨n1,n2,n3⟩
     ·((try simp at q1 q2 q3 q4);(try simp -implicitDefEqProofs [h,hrk,hcc,g,gsj,gcc,gl,gt,ql,qt,e3,g3,hlc,htc]);repeat' first|((with_reducible first|apply Ad|apply Ae|apply A8)<;>(intro hc;have hc':=hc;(try simp at hc');simp -implicitDefEqProofs [hc,hc',h,hrk,hcc,g,gsj,gcc,gl,gt,ql,qt,e3,g3,hlc,htc]))|(with_reducible apply A0<;>first|(simp only [eras,era,A1];first|with_reducible assumption)|(simp -implicitDefEqProofs [h,hrk,hcc,g,gsj,gcc,gl,gt,ql,qt,e3,g3,hlc,htc])))
      all_goals (first|exact gst|(exfalso;simp_all;done)|(exfalso;simp_all;omega))
     ·((try simp at q1 q2 q3 q4);(try simp -implicitDefEqProofs [h,hrk,hcc,g,gsj,gcc,gl,gt,ql,qt,e3,g3,hlc,htc]);repeat' first|((with_reducible first|apply Ad|apply Ae|apply A8)<;>(intro hc;have hc':=hc;(try simp at hc');simp -implicitDefEqProofs [hc,hc',h,hrk,hcc,g,gsj,gcc,gl,gt,ql,qt,e3,g3,hlc,htc]))|(with_reducible apply A0<;>first|(simp only [eras,era,A1];first|with_reducible assumption)|(simp -implicitDefEqProofs [h,hrk,hcc,g,gsj,gcc,gl,gt,ql,qt,e3,g3,hlc,htc])))
      all_goals (first|exact gst|(exfalso;simp_all;done)|(exfalso;simp_all;omega))
     ·((try simp at q1 q2 q3 q4);(try simp -implicitDefEqProofs [h,hrk,hcc,g,gsj,gcc,gl,gt,ql,qt,e3,g3,hlc,htc]);repeat' first|((with_reducible first|apply Ad|apply Ae|apply A8)<;>(intro hc;have hc':=hc;(try simp at hc');simp -implicitDefEqProofs [hc,hc',h,hrk,hcc,g,gsj,gcc,gl,gt,ql,qt,e3,g3,hlc,htc]))|(with_reducible apply A0<;>first|(simp only [eras,era,A1];first|with_reducible assumption)|(simp -implicitDefEqProofs [h,hrk,hcc,g,gsj,gcc,gl,gt,ql,qt,e3,g3,hlc,htc])))
      all_goals (first|exact gst|(exfalso;simp_all;done)|(exfalso;simp_all;omega))
     ·exfalso
      have:decide (sk<1)=true∨decide (3<sk)=true:=by
       simp only [beq_eq_false_iff_ne,ne_eq] at n1 n2 n3
       simp;omega
      rcases this with e|e<;>(rw [e] at hs;simp at hs)
    ·have hs':Dv ⟨sk,sa,sn,sx⟩=false:=by simpa using hs
     rw [gout hs',Bool.false_and] at hR
     subst hR
     rw [gd] at hs'
     rcases hcases with rfl|rfl|rfl|⟨n1,n2,n3⟩
     ·((try simp at q1 q2 q3 q4);(try simp -implicitDefEqProofs [h,hrk,hcc,g,gsj,gcc,gl,gt,ql,qt,e3,g3,hlc,htc]);repeat' first|((with_reducible first|apply Ad|apply Ae|apply A8)<;>(intro hc;have hc':=hc;(try simp at hc');simp -implicitDefEqProofs [hc,hc',h,hrk,hcc,g,gsj,gcc,gl,gt,ql,qt,e3,g3,hlc,htc]))|(with_reducible apply A0<;>first|(simp only [eras,era,A1];first|with_reducible assumption)|(simp -implicitDefEqProofs [h,hrk,hcc,g,gsj,gcc,gl,gt,ql,qt,e3,g3,hlc,htc])))
      all_goals (first|(exfalso;simp_all;done)|(exfalso;simp_all;omega))
     ·((try simp at q1 q2 q3 q4);(try simp -implicitDefEqProofs [h,hrk,hcc,g,gsj,gcc,gl,gt,ql,qt,e3,g3,hlc,htc]);repeat' first|((with_reducible first|apply Ad|apply Ae|apply A8)<;>(intro hc;have hc':=hc;(try simp at hc');simp -implicitDefEqProofs [hc,hc',h,hrk,hcc,g,gsj,gcc,gl,gt,ql,qt,e3,g3,hlc,htc]))|(with_reducible apply A0<;>first|(simp only [eras,era,A1];first|with_reducible assumption)|(simp -implicitDefEqProofs [h,hrk,hcc,g,gsj,gcc,gl,gt,ql,qt,e3,g3,hlc,htc])))
      all_goals (first|(exfalso;simp_all;done)|(exfalso;simp_all;omega))
     ·((try simp at q1 q2 q3 q4);(try simp -implicitDefEqProofs [h,hrk,hcc,g,gsj,gcc,gl,gt,ql,qt,e3,g3,hlc,htc]);repeat' first|((with_reducible first|apply Ad|apply Ae|apply A8)<;>(intro hc;have hc':=hc;(try simp at hc');simp -implicitDefEqProofs [hc,hc',h,hrk,hcc,g,gsj,gcc,gl,gt,ql,qt,e3,g3,hlc,htc]))|(with_reducible apply A0<;>first|(simp only [eras,era,A1];first|with_reducible assumption)|(simp -implicitDefEqProofs [h,hrk,hcc,g,gsj,gcc,gl,gt,ql,qt,e3,g3,hlc,htc])))
      all_goals (first|(exfalso;simp_all;done)|(exfalso;simp_all;omega))
     ·((try simp at q1 q2 q3 q4);(try simp -implicitDefEqProofs [h,hrk,hcc,g,gsj,gcc,gl,gt,ql,qt,e3,g3,hlc,htc,n1,n2,n3]);repeat' first|((with_reducible first|apply Ad|apply Ae|apply A8)<;>(intro hc;have hc':=hc;(try simp at hc');simp -implicitDefEqProofs [hc,hc',h,hrk,hcc,g,gsj,gcc,gl,gt,ql,qt,e3,g3,hlc,htc,n1,n2,n3]))|(with_reducible apply A0<;>first|(simp only [eras,era,A1];first|with_reducible assumption)|(simp -implicitDefEqProofs [h,hrk,hcc,g,gsj,gcc,gl,gt,ql,qt,e3,g3,hlc,htc,n1,n2,n3])))
      all_goals (first|(exfalso;simp_all;done)|(exfalso;simp_all;omega))
   ·have:j=ss.length:=by omega
    subst this
    rw [List.take_length] at hjn
    have hst:=hstep (by rw [hrul];exact List.all_eq_true.2 hjn)
    (try simp -implicitDefEqProofs [h,hrk,hcc,e3,hlc,htc])
    exact hst
  ·have hhd':(nb&&decide (ss.length≤30)&&ab)=false:=by simpa using hhd
   rw [hhd',Bool.false_and] at hrul
   rw [hout hrul,Bool.false_and] at hR
   subst hR
   cases nb
   ·((try simp at h1 h2);(try simp -implicitDefEqProofs [h,hrk,hcc,e3,hlc,htc]);repeat' first|(with_reducible apply A0<;>first|(simp only [eras,era,A1];first|with_reducible assumption)|(simp -implicitDefEqProofs [h,hrk,hcc,e3,hlc,htc])))
   ·by_cases h30:ss.length≤30
    ·have h30':decide ((30:Int)<ss.length)=false:=by simp;omega
     have:ab=false:=by simpa [h30] using hhd'
     subst this
     ((try simp at h1 h2);(try simp -implicitDefEqProofs [h,hrk,hcc,h30',e3,hlc,htc]);repeat' first|(with_reducible apply A0<;>first|(simp only [eras,era,A1];first|with_reducible assumption)|(simp -implicitDefEqProofs [h,hrk,hcc,h30',e3,hlc,htc])))
    ·have h30':decide ((30:Int)<ss.length)=true:=by simp;omega
     ((try simp at h1 h2);(try simp -implicitDefEqProofs [h,hrk,hcc,h30',e3,hlc,htc]);repeat' first|(with_reducible apply A0<;>first|(simp only [eras,era,A1];first|with_reducible assumption)|(simp -implicitDefEqProofs [h,hrk,hcc,h30',e3,hlc,htc])))
 ·have:k=p.length:=by omega
  subst this
  rw [List.take_length] at hn
  have hall:p.all Ec=true:=List.all_eq_true.2 hn
  rw [hall,Bool.true_and] at hR
  subst hR
  (try simp -implicitDefEqProofs)
  omega
end Go.Proofs.YtmlpmdccfmmpoaaGreatDoor
