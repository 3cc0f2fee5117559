/- Chapter 32: the reference's Valid and Few. -/
import Derived.Test.YtmlpmdccfmmpoaaGreatDoorMaps
set_option linter.unusedSimpArgs false
set_option linter.unusedVariables false
set_option maxHeartbeats 4000000
set_option maxRecDepth 8000
namespace Go.Proofs.YtmlpmdccfmmpoaaGreatDoor
open E
def Tw (k a:Int) (n:List UInt8):Bool:=
 if k=1 then Ir n&&(a==0) else if k=2 then n.isEmpty&&(a==0) else if k=3 then n.isEmpty&&acB a else false
def F2 (s:Stm):Bool:=Tw s.kind s.acc s.name&&decide (s.ex.dep≤30)&&s.ex.prop
def D7 (r:Rul):Bool:=Ir r.name&&decide (r.stmts.length≤30)&&acB r.to&&r.stmts.all F2
def Kn (p:List Rul):Bool:=p.all D7&&decide (p.length≤40)

theorem A5q (s:Stm) (hc:s.ex.cnt≤100000):A7 Tryz.prog 97 [s.v] (vB (F2 s)):=by
 obtain⟨k,a,n,x⟩:=s
 simp only [] at hc
 have hn:=Oe n
 have ha:=A1m a
 have hd:=A1n x hc
 have hp:=w_proper x
 have hlc:=Dv x
 have htc:=Cw x
 generalize hR:vB (F2 ⟨k,a,n,x⟩)=R
 unfold F2 Tw at hR
 simp only [] at hR
 generalize x.dep=d at *
 generalize x.prop=pb at *
 generalize Ir n=nb at *
 generalize acB a=ab at *
 rw [Stm.v,Stm.c]
 simp only []
 have hcases:k=1∨k=2∨k=3∨((k==1)=false∧(k==2)=false∧(k==3)=false):=by
  simp only [beq_eq_false_iff_ne,ne_eq];omega
 rcases hcases with rfl|rfl|rfl|⟨n1,n2,n3⟩
 ·(refine A7.of_code mix Tryz.call97 k_97 (by simp) (fun hB=>?_);(try simp at hB);(try simp -implicitDefEqProofs))
  ((try simp at hn ha hd hp);(try simp -implicitDefEqProofs [hlc,htc]);repeat' first|((with_reducible first|apply A5|apply A6|apply A3)<;>(intro hc;have hc':=hc;(try simp at hc');simp -implicitDefEqProofs [hc,hc',hlc,htc]))|(with_reducible apply A0<;>first|(simp only [eras,era,A1];first|with_reducible assumption)|(simp -implicitDefEqProofs [hlc,htc])))
  all_goals (subst hR;simp_all<;>(intros;omega))
 ·(refine A7.of_code mix Tryz.call97 k_97 (by simp) (fun hB=>?_);(try simp at hB);(try simp -implicitDefEqProofs))
  ((try simp at hn ha hd hp);(try simp -implicitDefEqProofs [hlc,htc]);repeat' first|((with_reducible first|apply A5|apply A6|apply A3)<;>(intro hc;have hc':=hc;(try simp at hc');simp -implicitDefEqProofs [hc,hc',hlc,htc]))|(with_reducible apply A0<;>first|(simp only [eras,era,A1];first|with_reducible assumption)|(simp -implicitDefEqProofs [hlc,htc])))
  all_goals (subst hR;simp_all<;>(intros;omega))
 ·(refine A7.of_code mix Tryz.call97 k_97 (by simp) (fun hB=>?_);(try simp at hB);(try simp -implicitDefEqProofs))
  ((try simp at hn ha hd hp);(try simp -implicitDefEqProofs [hlc,htc]);repeat' first|((with_reducible first|apply A5|apply A6|apply A3)<;>(intro hc;have hc':=hc;(try simp at hc');simp -implicitDefEqProofs [hc,hc',hlc,htc]))|(with_reducible apply A0<;>first|(simp only [eras,era,A1];first|with_reducible assumption)|(simp -implicitDefEqProofs [hlc,htc])))
  all_goals (subst hR;simp_all<;>(intros;omega))
 ·(refine A7.of_code mix Tryz.call97 k_97 (by simp) (fun hB=>?_);(try simp at hB);(try simp -implicitDefEqProofs))
  ((try simp at hn ha hd hp);(try simp -implicitDefEqProofs [hlc,htc,n1,n2,n3]);repeat' first|(with_reducible apply A0<;>first|(simp only [eras,era,A1];first|with_reducible assumption)|(simp -implicitDefEqProofs [hlc,htc,n1,n2,n3])))
  all_goals (subst hR;simp_all<;>(intros;omega))
theorem A2n (s:Stm) (hc:s.ex.cnt≤100000):A7 Tryz.prog 96 [s.v] (vB (!F2 s)):=by
 have h:=A5q s hc
 generalize F2 s=b at *
 have hlc:=Ly s
 have htc:=Kx s
 (refine A7.of_code mix Tryz.call96 k_96 (by simp) (fun hB=>?_);(try simp at hB);(try simp -implicitDefEqProofs))
 ((try simp at h);(try simp -implicitDefEqProofs [hlc,htc]);repeat' first|(with_reducible apply A0<;>first|(simp only [eras,era,A1];first|with_reducible assumption)|(simp -implicitDefEqProofs [hlc,htc])))
theorem V5 (p:List Rul) (hc : ∀r∈p,∀s∈r.stmts,s.ex.cnt≤100000):A7 Tryz.prog 45 [Rul.l p] (vB (Kn p)):=by
 generalize hR:vB (Kn p)=R
 unfold Kn at hR
 (refine A7.of_code mix Tryz.call45 k_45 (by simp) (fun hB=>?_);(try simp at hB);(try simp -implicitDefEqProofs))
 refine Ac (X:=Nat) (fun k=>k≤p.length∧∀y∈p.take k,D7 y=true) (fun k=>[(0,Rul.l p),(5,Rul.l p),(6,vI p.length),(7,vI k)]) (fun _=>St0) (fun k=>p.length-k) 0 ⟨by simp,by simp⟩ (by simp) ?_
 rintro k ⟨hk,hn⟩ hbd
 rcases Nat.lt_or_ge k p.length with h|h
 ·have hx:p[k]?=some p[k]:=by simp [h]
  have e3:IntKind.i64.wrap ((k:Int)+1)=(k:Int)+1:=wrap64 (by omega) (by simp [maxLen] at hB;omega)
  have hlc:=Te p[k]
  have htc:=Uq p[k]
  have hcs:=hc p[k] (List.getElem_mem h)
  have hstep:D7 p[k]=true→∃z':Nat,(z'≤p.length∧∀y∈p.take z',D7 y=true)∧p.length-z'<p.length-k∧(z':Int)=(k:Int)+1:=by
   intro hr
   refine⟨k+1,⟨by omega,fun y hy=>?_⟩,by omega,by push_cast;rfl⟩
   rw [Ag hx] at hy
   rcases List.mem_append.1 hy with h1|h1
   ·exact hn y h1
   ·simp at h1;subst h1;exact hr
  have hout:D7 p[k]=false→p.all D7=false:=by
   intro hr
   rw [List.all_eq_false]
   exact⟨p[k],List.getElem_mem h,by simp [hr]⟩
  have hrul:D7 p[k]=(Ir p[k].name&&decide (p[k].stmts.length≤30)&&acB p[k].to&&p[k].stmts.all F2):=rfl
  have hcc:p[k].c=[.str p[k].name,.bool p[k].pair,.sl (p[k].stmts.map Stm.c),.int .i64 p[k].to]:=rfl
  generalize hrk:p[k]=r at *
  obtain⟨nm,pr,ss,to⟩:=r
  simp only [] at *
  have h1:=Oe nm
  have h2:=A1m to
  have h3:A7 Tryz.prog 95 [Stm.l ss,.fn (.func 96) []] (vB (ss.any fun s=>!F2 s)):=
   A4s St0 A1f ss 96 [] rfl (fun s=>!F2 s) (fun s hs=>A2n s (hcs s hs))
  have hall:ss.all F2 = !(ss.any fun s=>!F2 s):=by simp [List.all_eq_not_any_not]
  rw [hall] at hrul
  generalize (ss.any fun s=>!F2 s)=an at *
  generalize Ir nm=nb at *
  generalize acB to=ab at *
  by_cases h30:ss.length≤30
  ·have h30':decide ((30:Int)<ss.length)=false:=by simp;omega
   rw [decide_eq_true h30] at hrul
   cases nb
   ·rw [hout (by rw [hrul];rfl),Bool.false_and] at hR
    subst hR
    ((try simp at h1 h2 h3);(try simp -implicitDefEqProofs [h,hrk,hcc,h30',e3,hlc,htc]);repeat' first|(with_reducible apply A0<;>first|(simp only [eras,era,A1];first|with_reducible assumption)|(simp -implicitDefEqProofs [h,hrk,hcc,h30',e3,hlc,htc])))
   ·cases ab
    ·rw [hout (by rw [hrul];rfl),Bool.false_and] at hR
     subst hR
     ((try simp at h1 h2 h3);(try simp -implicitDefEqProofs [h,hrk,hcc,h30',e3,hlc,htc]);repeat' first|(with_reducible apply A0<;>first|(simp only [eras,era,A1];first|with_reducible assumption)|(simp -implicitDefEqProofs [h,hrk,hcc,h30',e3,hlc,htc])))
    ·cases an
     ·have hst:=hstep (by rw [hrul];rfl)
      ((try simp at h1 h2 h3);(try simp -implicitDefEqProofs [h,hrk,hcc,h30',e3,hlc,htc]);repeat' first|(with_reducible apply A0<;>first|(simp only [eras,era,A1];first|with_reducible assumption)|(simp -implicitDefEqProofs [h,hrk,hcc,h30',e3,hlc,htc])))
      exact hst
     ·rw [hout (by rw [hrul];rfl),Bool.false_and] at hR
      subst hR
      ((try simp at h1 h2 h3);(try simp -implicitDefEqProofs [h,hrk,hcc,h30',e3,hlc,htc]);repeat' first|(with_reducible apply A0<;>first|(simp only [eras,era,A1];first|with_reducible assumption)|(simp -implicitDefEqProofs [h,hrk,hcc,h30',e3,hlc,htc])))
  ·have h30':decide ((30:Int)<ss.length)=true:=by simp;omega
   rw [decide_eq_false h30] at hrul
   simp only [Bool.and_false,Bool.false_and] at hrul
   have hR2:=hR
   rw [hout hrul,Bool.false_and] at hR2
   subst hR2
   cases nb
   ·((try simp at h1 h2 h3);(try simp -implicitDefEqProofs [h,hrk,hcc,h30',e3,hlc,htc]);repeat' first|(with_reducible apply A0<;>first|(simp only [eras,era,A1];first|with_reducible assumption)|(simp -implicitDefEqProofs [h,hrk,hcc,h30',e3,hlc,htc])))
   ·((try simp at h1 h2 h3);(try simp -implicitDefEqProofs [h,hrk,hcc,h30',e3,hlc,htc]);repeat' first|(with_reducible apply A0<;>first|(simp only [eras,era,A1];first|with_reducible assumption)|(simp -implicitDefEqProofs [h,hrk,hcc,h30',e3,hlc,htc])))
 ·have:k=p.length:=by omega
  subst this
  rw [List.take_length] at hn
  have hall:p.all D7=true:=List.all_eq_true.2 hn
  rw [hall,Bool.true_and] at hR
  subst hR
  (try simp -implicitDefEqProofs)
  omega
def Stm.ok (s:Stm):Prop:=s.name.length≤maxLen∧s.ex.ok
def Rul.ok (r:Rul):Prop:=r.name.length≤maxLen∧∀s∈r.stmts,s.ok
end Go.Proofs.YtmlpmdccfmmpoaaGreatDoor
