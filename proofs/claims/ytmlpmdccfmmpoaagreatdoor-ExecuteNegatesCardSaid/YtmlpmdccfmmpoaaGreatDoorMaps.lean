/- Go's maps as lists of pairs. -/
import Derived.Test.YtmlpmdccfmmpoaaGreatDoorSyc
import Derived.Test.YtmlpmdccfmmpoaaGreatDoorApi
import Derived.Test.YtmlpmdccfmmpoaaGreatDoorProg
set_option linter.unusedSimpArgs false
set_option linter.unusedVariables false
set_option maxHeartbeats 4000000
set_option maxRecDepth 8000
namespace Go.Proofs.YtmlpmdccfmmpoaaGreatDoor
open E
namespace Xp
mutual
def ok:Xp→Prop
 | .mk _ _ _ _ n xs=>n.length≤maxLen∧oks xs
def oks:List Xp→Prop
 | []=>True
 | x::ys=>ok x∧oks ys
end
end Xp
def inZ (x:Int):Prop:=-9223372036854775808≤x∧x≤9223372036854775807
def inL (s:List UInt8):Prop:=s.length≤9223372036854775807
theorem I4 {n:Nat} {ts:List T} (h:Sh Tryz.prog n 3 ts) : ∃x,ts=[.int .i64 x]∧inZ x:=by
 cases n with
 | zero=>exact h.elim
 | succ n=>
  simp only [Sh,Tryz.underlying3] at h
  obtain⟨x,rfl,hw⟩:=h
  refine⟨x,rfl,?_⟩
  simp [Lit.wf,IntKind.min,IntKind.max,IntKind.signed,IntKind.bits] at hw
  simp [inZ];omega
theorem A57 {n:Nat} {ts:List T} (h:Sh Tryz.prog n 9 ts) : ∃s,ts=[.str s]∧inL s:=by
 cases n with
 | zero=>exact h.elim
 | succ n=>
  simp only [Sh,Tryz.underlying9] at h
  obtain⟨s,rfl,hw⟩:=h
  exact⟨s,rfl,by simpa [inL,maxLen] using hw⟩
theorem A7d {n:Nat} {ts:List T} (h:Sh Tryz.prog n 4 ts) : ∃b,ts=[.bool b]:=by
 cases n with
 | zero=>exact h.elim
 | succ n=>
  simp only [Sh,Tryz.underlying4] at h
  exact h
theorem A58 {α:Type} {n:Nat} {t e:TypeId} {ts:List T} (hu:Tryz.prog.underlying t=some (.slice e)) (c:α→List T) (wf:α→Prop) (he : ∀m,m<n→∀ts,Sh Tryz.prog m e ts→∃x,ts=c x∧wf x) (h:Sh Tryz.prog n t ts) : ∃l:List α,ts=[.sl (l.map c)]∧∀x∈l,wf x:=by
 cases n with
 | zero=>exact h.elim
 | succ n=>
  simp only [Sh,hu] at h
  obtain⟨es,hts,hes⟩:=h
  rw [hts]
  clear hts
  suffices hs : ∃l:List α,es=l.map c∧∀x∈l,wf x by obtain⟨l,rfl,hl⟩:=hs;exact⟨l,rfl,hl⟩
  induction es with
  | nil=>exact⟨[],rfl,by simp⟩
  | cons r es ih=>
   obtain⟨x,rfl,hx⟩:=he n (by omega) r (hes r (by simp))
   obtain⟨l,rfl,hl⟩:=ih (fun r hr=>hes r (by simp [hr]))
   exact⟨x::l,rfl,by simp;exact⟨hx,hl⟩⟩

namespace Xp
mutual
def wf:Xp→Prop
 | .mk k v f t n xs=>(inZ k∧inZ v∧inZ f∧inZ t∧inL n)∧wfs xs
def wfs:List Xp→Prop
 | []=>True
 | x::ys=>wf x∧wfs ys
end
theorem wfs_of {l:List Xp} (h : ∀x∈l,wf x):wfs l:=by
 induction l with
 | nil=>trivial
 | cons x l ih=>exact⟨h x (by simp),ih fun y hy=>h y (by simp [hy])⟩
theorem V9 : ∀{l:List Xp},wfs l→∀x∈l,wf x
 | [],_,x,h=>by cases h
 | y::l,h,x,hx=>by
  rw [wfs] at h
  rcases List.mem_cons.1 hx with rfl|hx
  ·exact h.1
  ·exact V9 h.2 x hx
theorem ok_of : ∀{x:Xp},x.wf→x.ok:=by
 intro x
 refine Xp.ind (P:=fun x=>x.wf→x.ok) (fun k v f t n xs ih h=>?_) x
 rw [wf] at h
 rw [ok]
 refine⟨by simpa [inL,maxLen] using h.1.2.2.2.2,?_⟩
 have hm:=V9 h.2
 clear h
 induction xs with
 | nil=>trivial
 | cons y ys ih2=>exact⟨ih y (by simp) (hm y (by simp)),ih2 (fun a ha=>ih a (by simp [ha])) (fun a ha=>hm a (by simp [ha]))⟩
end Xp
def Stm.wf (s:Stm):Prop:=inZ s.kind∧inZ s.acc∧inL s.name∧s.ex.wf
def Rul.wf (r:Rul):Prop:=inL r.name∧inZ r.to∧∀s∈r.stmts,s.wf

theorem A7e : ∀(n:Nat) (ts:List T),Sh Tryz.prog n 24 ts→∃x:Xp,ts=x.c∧x.wf:=by
 intro n
 induction n using Nat.strongRecOn with
 | ind n ih=>
  intro ts h
  cases n with
  | zero=>exact h.elim
  | succ n=>
   have hc:Tryz.prog.cellsOf 24=6:=by kernel_rfl
   simp only [Sh,Tryz.underlying24,hc,List.forall_mem_cons,List.not_mem_nil,false_imp_iff,implies_true,and_true] at h
   obtain⟨hl,h0,h1,h2,h3,h4,h5⟩:=h
   obtain⟨c0,c1,c2,c3,c4,c5,rfl⟩ : ∃c0 c1 c2 c3 c4 c5,ts=[c0,c1,c2,c3,c4,c5]:=by
    match ts,hl with
    | [c0,c1,c2,c3,c4,c5],_=>exact⟨_,_,_,_,_,_,rfl⟩
   rw [show Tryz.prog.cellsOf 3=1 by kernel_rfl] at h0 h1 h2 h3
   rw [show Tryz.prog.cellsOf 9=1 by kernel_rfl] at h4
   rw [show Tryz.prog.cellsOf 22=1 by kernel_rfl] at h5
   obtain⟨x0,e0,w0⟩:=I4 h0
   obtain⟨x1,e1,w1⟩:=I4 h1
   obtain⟨x2,e2,w2⟩:=I4 h2
   obtain⟨x3,e3,w3⟩:=I4 h3
   obtain⟨x4,e4,w4⟩:=A57 h4
   obtain⟨x5,e5,w5⟩:=A58 (by kernel_rfl) Xp.c Xp.wf (fun m hm ts h=>ih m (by omega) ts h) h5
   refine⟨.mk x0 x1 x2 x3 x4 x5,?_,⟨⟨w0,w1,w2,w3,w4⟩,Xp.wfs_of w5⟩⟩
   rw [Xp.c_mk]
   simp at e0 e1 e2 e3 e4 e5
   simp [*]
theorem A59 (n:Nat) (ts:List T) (h:Sh Tryz.prog n 31 ts) : ∃x:Stm,ts=x.c∧x.wf:=by
 cases n with
 | zero=>exact h.elim
 | succ n=>
  have hc:Tryz.prog.cellsOf 31=9:=by kernel_rfl
  simp only [Sh,Tryz.underlying31,hc,List.forall_mem_cons,List.not_mem_nil,false_imp_iff,implies_true,and_true] at h
  obtain⟨hl,h0,h1,h2,h3⟩:=h
  obtain⟨c0,c1,c2,r,rfl⟩ : ∃c0 c1 c2 r,ts=c0::c1::c2::r:=by
   match ts,hl with
   | c0::c1::c2::r,_=>exact⟨_,_,_,_,rfl⟩
  rw [show Tryz.prog.cellsOf 3=1 by kernel_rfl] at h0 h1
  rw [show Tryz.prog.cellsOf 9=1 by kernel_rfl] at h2
  rw [show Tryz.prog.cellsOf 24=6 by kernel_rfl] at h3
  obtain⟨x0,e0,w0⟩:=I4 h0
  obtain⟨x1,e1,w1⟩:=I4 h1
  obtain⟨x2,e2,w2⟩:=A57 h2
  obtain⟨x3,e3,w3⟩:=A7e n _ h3
  refine⟨⟨x0,x1,x2,x3⟩,?_,⟨w0,w1,w2,w3⟩⟩
  simp at e0 e1 e2 hl
  rw [List.take_of_length_le (by simp;omega)] at e3
  simp at e3
  simp [Stm.c, *]
theorem A5a (n:Nat) (ts:List T) (h:Sh Tryz.prog n 34 ts) : ∃x:Rul,ts=x.c∧x.wf:=by
 cases n with
 | zero=>exact h.elim
 | succ n=>
  have hc:Tryz.prog.cellsOf 34=4:=by kernel_rfl
  simp only [Sh,Tryz.underlying34,hc,List.forall_mem_cons,List.not_mem_nil,false_imp_iff,implies_true,and_true] at h
  obtain⟨hl,h0,h1,h2,h3⟩:=h
  obtain⟨c0,c1,c2,c3,rfl⟩ : ∃c0 c1 c2 c3,ts=[c0,c1,c2,c3]:=by
   match ts,hl with
   | [c0,c1,c2,c3],_=>exact⟨_,_,_,_,rfl⟩
  rw [show Tryz.prog.cellsOf 9=1 by kernel_rfl] at h0
  rw [show Tryz.prog.cellsOf 4=1 by kernel_rfl] at h1
  rw [show Tryz.prog.cellsOf 32=1 by kernel_rfl] at h2
  rw [show Tryz.prog.cellsOf 3=1 by kernel_rfl] at h3
  obtain⟨x0,e0,w0⟩:=A57 h0
  obtain⟨x1,e1⟩:=A7d h1
  obtain⟨x2,e2,w2⟩:=A58 (by kernel_rfl) Stm.c Stm.wf (fun m hm ts h=>A59 m ts h) h2
  obtain⟨x3,e3,w3⟩:=I4 h3
  refine⟨⟨x0,x1,x2,x3⟩,?_,⟨w0,w3,w2⟩⟩
  simp at e0 e1 e2 e3
  simp [Rul.c, *]
theorem A5b (n:Nat) (ts:List T) (h:Sh Tryz.prog n 36 ts) : ∃p:List Rul,ts=[.sl (p.map Rul.c)]∧∀r∈p,r.wf:=
 A58 (by kernel_rfl) Rul.c Rul.wf (fun m hm ts h=>A5a m ts h) h
def Account.wf (x:Account):Prop:=inZ x.code∧inZ x.kind∧inZ x.basis∧inZ x.parent
theorem Va {t:TypeId} {ts:List T} {x:T} (h:isAgg Tryz.prog t=false) (hx:ts=[x]):Tt Tryz.prog t ts=.t x:=by
 subst hx
 rw [Tt,h];rfl
theorem A24 {ts:List T} (h : ∃n,Sh Tryz.prog n 36 ts) : ∃p:List Rul,Tt Tryz.prog 36 ts=Rul.l p∧∀r∈p,r.wf:=by
 obtain⟨n,h⟩:=h
 obtain⟨x,e,w⟩:=A5b n _ h
 exact⟨x,Va (by kernel_rfl) e,w⟩
def Qv (k a:Int) (n:List UInt8):Bool:=
 if k=1 then Iz n&&(a==0) else if k=2 then n.isEmpty&&(a==0) else if k=3 then n.isEmpty&&acB a else false
def Eu (s:Stm):Bool:=Qv s.kind s.acc s.name&&decide (s.ex.dep≤30)&&s.ex.prop
def D1 (r:Rul):Bool:=Iz r.name&&decide (r.stmts.length≤30)&&acB r.to&&r.stmts.all Eu
def M7 (p:List Rul):Bool:=p.all D1&&decide (p.length≤40)

theorem A5c (s:Stm) (hc:s.ex.cnt≤100000):A8 Tryz.prog 97 [s.v] (vB (Eu s)):=by
 obtain⟨k,a,n,x⟩:=s
 simp only [] at hc
 have hn:=Oy n
 have ha:=A21 a
 have hd:=A22 x hc
 have hp:=w_proper x
 have hlc:=Du x
 have htc:=Cw x
 generalize hR:vB (Eu ⟨k,a,n,x⟩)=R
 unfold Eu Qv at hR
 simp only [] at hR
 generalize x.dep=d at *
 generalize x.prop=pb at *
 generalize Iz n=nb at *
 generalize acB a=ab at *
 rw [Stm.v,Stm.c]
 simp only []
 have hcases:k=1∨k=2∨k=3∨((k==1)=false∧(k==2)=false∧(k==3)=false):=by
  simp only [beq_eq_false_iff_ne,ne_eq];omega
 rcases hcases with rfl|rfl|rfl|⟨n1,n2,n3⟩
 ·(refine A8.of_code mix Tryz.call97 k_97 (by simp) (fun hB=>?_);(try simp at hB);(try simp -implicitDefEqProofs))
  ((try simp at hn ha hd hp);(try simp -implicitDefEqProofs [hlc,htc]);repeat' first|((with_reducible first|apply Ac|apply Ad|apply A5)<;>(intro hc;have hc':=hc;(try simp at hc');simp -implicitDefEqProofs [hc,hc',hlc,htc]))|(with_reducible apply A0<;>first|(simp only [eras,era,A1];first|with_reducible assumption)|(simp -implicitDefEqProofs [hlc,htc])))
  all_goals (subst hR;simp_all<;>(intros;omega))
 ·(refine A8.of_code mix Tryz.call97 k_97 (by simp) (fun hB=>?_);(try simp at hB);(try simp -implicitDefEqProofs))
  ((try simp at hn ha hd hp);(try simp -implicitDefEqProofs [hlc,htc]);repeat' first|((with_reducible first|apply Ac|apply Ad|apply A5)<;>(intro hc;have hc':=hc;(try simp at hc');simp -implicitDefEqProofs [hc,hc',hlc,htc]))|(with_reducible apply A0<;>first|(simp only [eras,era,A1];first|with_reducible assumption)|(simp -implicitDefEqProofs [hlc,htc])))
  all_goals (subst hR;simp_all<;>(intros;omega))
 ·(refine A8.of_code mix Tryz.call97 k_97 (by simp) (fun hB=>?_);(try simp at hB);(try simp -implicitDefEqProofs))
  ((try simp at hn ha hd hp);(try simp -implicitDefEqProofs [hlc,htc]);repeat' first|((with_reducible first|apply Ac|apply Ad|apply A5)<;>(intro hc;have hc':=hc;(try simp at hc');simp -implicitDefEqProofs [hc,hc',hlc,htc]))|(with_reducible apply A0<;>first|(simp only [eras,era,A1];first|with_reducible assumption)|(simp -implicitDefEqProofs [hlc,htc])))
  all_goals (subst hR;simp_all<;>(intros;omega))
 ·(refine A8.of_code mix Tryz.call97 k_97 (by simp) (fun hB=>?_);(try simp at hB);(try simp -implicitDefEqProofs))
  ((try simp at hn ha hd hp);(try simp -implicitDefEqProofs [hlc,htc,n1,n2,n3]);repeat' first|(with_reducible apply A0<;>first|(simp only [eras,era,A1];first|with_reducible assumption)|(simp -implicitDefEqProofs [hlc,htc,n1,n2,n3])))
  all_goals (subst hR;simp_all<;>(intros;omega))
theorem A25 (s:Stm) (hc:s.ex.cnt≤100000):A8 Tryz.prog 96 [s.v] (vB (!Eu s)):=by
 have h:=A5c s hc
 generalize Eu s=b at *
 have hlc:=M6 s
 have htc:=L6 s
 (refine A8.of_code mix Tryz.call96 k_96 (by simp) (fun hB=>?_);(try simp at hB);(try simp -implicitDefEqProofs))
 ((try simp at h);(try simp -implicitDefEqProofs [hlc,htc]);repeat' first|(with_reducible apply A0<;>first|(simp only [eras,era,A1];first|with_reducible assumption)|(simp -implicitDefEqProofs [hlc,htc])))
theorem Vb (p:List Rul) (hc : ∀r∈p,∀s∈r.stmts,s.ex.cnt≤100000):A8 Tryz.prog 45 [Rul.l p] (vB (M7 p)):=by
 generalize hR:vB (M7 p)=R
 unfold M7 at hR
 (refine A8.of_code mix Tryz.call45 k_45 (by simp) (fun hB=>?_);(try simp at hB);(try simp -implicitDefEqProofs))
 refine A7 (X:=Nat) (fun k=>k≤p.length∧∀y∈p.take k,D1 y=true) (fun k=>[(0,Rul.l p),(5,Rul.l p),(6,vI p.length),(7,vI k)]) (fun _=>St0) (fun k=>p.length-k) 0 ⟨by simp,by simp⟩ (by simp) ?_
 rintro k ⟨hk,hn⟩ hbd
 rcases Nat.lt_or_ge k p.length with h|h
 ·have hx:p[k]?=some p[k]:=by simp [h]
  have e3:IntKind.i64.wrap ((k:Int)+1)=(k:Int)+1:=wrap64 (by omega) (by simp [maxLen] at hB;omega)
  have hlc:=U0 p[k]
  have htc:=V8 p[k]
  have hcs:=hc p[k] (List.getElem_mem h)
  have hstep:D1 p[k]=true→∃z':Nat,(z'≤p.length∧∀y∈p.take z',D1 y=true)∧p.length-z'<p.length-k∧(z':Int)=(k:Int)+1:=by
   intro hr
   refine⟨k+1,⟨by omega,fun y hy=>?_⟩,by omega,by push_cast;rfl⟩
   rw [Ag hx] at hy
   rcases List.mem_append.1 hy with h1|h1
   ·exact hn y h1
   ·simp at h1;subst h1;exact hr
  have hout:D1 p[k]=false→p.all D1=false:=by
   intro hr
   rw [List.all_eq_false]
   exact⟨p[k],List.getElem_mem h,by simp [hr]⟩
  have hrul:D1 p[k]=(Iz p[k].name&&decide (p[k].stmts.length≤30)&&acB p[k].to&&p[k].stmts.all Eu):=rfl
  have hcc:p[k].c=[.str p[k].name,.bool p[k].pair,.sl (p[k].stmts.map Stm.c),.int .i64 p[k].to]:=rfl
  generalize hrk:p[k]=r at *
  obtain⟨nm,pr,ss,to⟩:=r
  simp only [] at *
  have h1:=Oy nm
  have h2:=A21 to
  have h3:A8 Tryz.prog 95 [Stm.l ss,.fn (.func 96) []] (vB (ss.any fun s=>!Eu s)):=
   A56 St0 A1u ss 96 [] rfl (fun s=>!Eu s) (fun s hs=>A25 s (hcs s hs))
  have hall:ss.all Eu = !(ss.any fun s=>!Eu s):=by simp [List.all_eq_not_any_not]
  rw [hall] at hrul
  generalize (ss.any fun s=>!Eu s)=an at *
  generalize Iz nm=nb at *
  generalize acB to=ab at *
  by_cases h30:ss.length≤30
  ·have h30':decide ((30:Int)<ss.length)=false:=by simp;omega
   rw [decide_eq_true h30] at hrul
   cases nb
   ·rw [hout (by rw [hrul];rfl),Bool.false_and] at hR
    subst hR
    ((try simp at h1 h2 h3);(try simp -implicitDefEqProofs [h,hrk,hcc,h30',e3,hlc,htc]);repeat' first|(with_reducible apply A0<;>first|(simp only [eras,era,A1];first|with_reducible assumption)|(simp -implicitDefEqProofs [h,hrk,hcc,h30',e3,hlc,htc])))
   ·cases ab
    ·rw [hout (by rw [hrul];rfl),Bool.false_and] at hR
     subst hR
     ((try simp at h1 h2 h3);(try simp -implicitDefEqProofs [h,hrk,hcc,h30',e3,hlc,htc]);repeat' first|(with_reducible apply A0<;>first|(simp only [eras,era,A1];first|with_reducible assumption)|(simp -implicitDefEqProofs [h,hrk,hcc,h30',e3,hlc,htc])))
    ·cases an
     ·have hst:=hstep (by rw [hrul];rfl)
      ((try simp at h1 h2 h3);(try simp -implicitDefEqProofs [h,hrk,hcc,h30',e3,hlc,htc]);repeat' first|(with_reducible apply A0<;>first|(simp only [eras,era,A1];first|with_reducible assumption)|(simp -implicitDefEqProofs [h,hrk,hcc,h30',e3,hlc,htc])))
      exact hst
     ·rw [hout (by rw [hrul];rfl),Bool.false_and] at hR
      subst hR
      ((try simp at h1 h2 h3);(try simp -implicitDefEqProofs [h,hrk,hcc,h30',e3,hlc,htc]);repeat' first|(with_reducible apply A0<;>first|(simp only [eras,era,A1];first|with_reducible assumption)|(simp -implicitDefEqProofs [h,hrk,hcc,h30',e3,hlc,htc])))
  ·have h30':decide ((30:Int)<ss.length)=true:=by simp;omega
   rw [decide_eq_false h30] at hrul
   simp only [Bool.and_false,Bool.false_and] at hrul
   have hR2:=hR
   rw [hout hrul,Bool.false_and] at hR2
   subst hR2
   cases nb
   ·((try simp at h1 h2 h3);(try simp -implicitDefEqProofs [h,hrk,hcc,h30',e3,hlc,htc]);repeat' first|(with_reducible apply A0<;>first|(simp only [eras,era,A1];first|with_reducible assumption)|(simp -implicitDefEqProofs [h,hrk,hcc,h30',e3,hlc,htc])))
   ·((try simp at h1 h2 h3);(try simp -implicitDefEqProofs [h,hrk,hcc,h30',e3,hlc,htc]);repeat' first|(with_reducible apply A0<;>first|(simp only [eras,era,A1];first|with_reducible assumption)|(simp -implicitDefEqProofs [h,hrk,hcc,h30',e3,hlc,htc])))
 ·have:k=p.length:=by omega
  subst this
  rw [List.take_length] at hn
  have hall:p.all D1=true:=List.all_eq_true.2 hn
  rw [hall,Bool.true_and] at hR
  subst hR
  (try simp -implicitDefEqProofs)
  omega
def Stm.ok (s:Stm):Prop:=s.name.length≤maxLen∧s.ex.ok
def Rul.ok (r:Rul):Prop:=r.name.length≤maxLen∧∀s∈r.stmts,s.ok
theorem Stm.ok_of {s:Stm} (h:s.wf):s.ok:=⟨by simpa [inL,maxLen] using h.2.2.1,Xp.ok_of h.2.2.2⟩
theorem Rul.ok_of {r:Rul} (h:r.wf):r.ok:=⟨by simpa [inL,maxLen] using h.1,fun s hs=>Stm.ok_of (h.2.2 s hs)⟩
end Go.Proofs.YtmlpmdccfmmpoaaGreatDoor
section
set_option linter.unusedSimpArgs false
set_option linter.unusedVariables false
namespace Go.Proofs.YtmlpmdccfmmpoaaGreatDoor
open E

section
variable {α β:Type} [DecidableEq α]
def B7:List (α×β)→α→Option β
 | [],_=>none
 | (a,b)::l,k=>if k=a then some b else B7 l k
def Ca:List (α×β)→α→β→List (α×β)
 | [],k,b=>[(k,b)]
 | (a,c)::l,k,b=>if k=a then (k,b)::l else (a,c)::Ca l k b

theorem H9 (l:List (α×β)) (k:α) (b:β) (q:α):B7 (Ca l k b) q=if q=k then some b else B7 l q:=by
 induction l with
 | nil=>simp [Ca,B7]
 | cons p l ih=>
  obtain⟨a,c⟩:=p
  simp only [Ca]
  by_cases h:k=a
  ·subst h;rw [if_pos rfl];simp only [B7];split<;>rfl
  ·rw [if_neg h];simp only [B7,ih]
   by_cases h2:q=a
   ·subst h2;rw [if_pos rfl,if_neg (Ne.symm h),if_pos rfl]
   ·rw [if_neg h2,if_neg h2]
theorem F6 (l:List (α×β)) (k:α) (b:β):(Ca l k b).length≤l.length+1:=by
 induction l with
 | nil=>simp [Ca]
 | cons p l ih=>obtain⟨a,c⟩:=p;simp only [Ca];split<;>simp<;>omega

theorem Nx {ka:Bool} {ks:List Nat} (enc:α→V) (c:α→List T) (v:β→V) (h1 : ∀a,Bu (cellsV (enc a))=some (c a)) (h2 : ∀a,isAggV (enc a)=ka) (h3 : ∀a b,eqC ks (c a) (c b)=some (decide (a=b))) (k:α) (l:List (α×β)) :
  Ez ka ks (c k) (l.map fun p=>(enc p.1,v p.2))=some ((B7 l k).map v):=by
 induction l with
 | nil=>simp [Ez,B7]
 | cons p l ih=>
  obtain⟨a,b⟩:=p
  simp only [List.map_cons,Ez,eqK,h1,h2,h3,if_true,B7]
  by_cases h:k=a
  ·simp [h]
  ·simp only [h,decide_false,if_false];exact ih
theorem Qw {ka:Bool} {ks:List Nat} (enc:α→V) (c:α→List T) (v:β→V) (h1 : ∀a,Bu (cellsV (enc a))=some (c a)) (h2 : ∀a,isAggV (enc a)=ka) (h3 : ∀a b,eqC ks (c a) (c b)=some (decide (a=b))) (k:α) (b:β) (l:List (α×β)) :
  Gk ka ks (c k) (enc k) (v b) (l.map fun p=>(enc p.1,v p.2))=some ((Ca l k b).map fun p=>(enc p.1,v p.2)):=by
 induction l with
 | nil=>simp [Gk,Ca]
 | cons p l ih=>
  obtain⟨a,q⟩:=p
  simp only [List.map_cons,Gk,eqK,h1,h2,h3,if_true,Ca]
  by_cases h:k=a
  ·simp [h]
  ·simp only [h,decide_false,if_false,ih];simp
end

section
variable {α:Type} [DecidableEq α]
def Bp (l:List α):List (α×Bool):=l.map fun c=>(c,true)
theorem Ei (l:List α) (k:α):B7 (Bp l) k=if k∈l then some true else none:=by
 induction l with
 | nil=>rfl
 | cons x l ih=>
  simp only [Bp,List.map_cons,B7] at ih ⊢
  by_cases h:k=x
  ·simp [h]
  ·rw [if_neg h,ih];simp [h]
theorem I5 {l:List α} {k:α} (h:k∉l):Ca (Bp l) k true=Bp (l++[k]):=by
 induction l with
 | nil=>rfl
 | cons x l ih=>
  have h1:k≠x:=fun e=>h (by simp [e])
  have:=ih (fun hm=>h (by simp [hm]))
  simp only [Bp,List.map_cons,Ca,List.cons_append] at this ⊢
  rw [if_neg h1,this]
end

abbrev mI {β:Type} (v:β→V) (l:List (Int×β)):List (V×V):=l.map fun p=>(V.t (.int .i64 p.1),v p.2)
abbrev mS {β:Type} (v:β→V) (l:List (List UInt8×β)):List (V×V):=l.map fun p=>(V.t (.str p.1),v p.2)
theorem L7 {β:Type} (v:β→V) (k:Int) (l:List (Int×β)):Ez false [1] [T.int .i64 k] (mI v l)=some ((B7 l k).map v):=
 Nx (fun k=>V.t (.int .i64 k)) (fun k=>[T.int .i64 k]) v (fun _=>rfl) (fun _=>rfl) (fun a b=>by by_cases h:a=b<;>simp [eqC,h]) k l
theorem Z9 {β:Type} (v:β→V) (k:Int) (b:β) (l:List (Int×β)):Gk false [1] [T.int .i64 k] (V.t (.int .i64 k)) (v b) (mI v l)=some (mI v (Ca l k b)):=
 Qw (fun k=>V.t (.int .i64 k)) (fun k=>[T.int .i64 k]) v (fun _=>rfl) (fun _=>rfl) (fun a b=>by by_cases h:a=b<;>simp [eqC,h]) k b l
theorem Ha {β:Type} (v:β→V) (k:List UInt8) (l:List (List UInt8×β)):Ez false [2] [T.str k] (mS v l)=some ((B7 l k).map v):=
 Nx (fun k=>V.t (.str k)) (fun k=>[T.str k]) v (fun _=>rfl) (fun _=>rfl) (fun a b=>by by_cases h:a=b<;>simp [eqC,h]) k l
theorem M8 {β:Type} (v:β→V) (k:List UInt8) (b:β) (l:List (List UInt8×β)):Gk false [2] [T.str k] (V.t (.str k)) (v b) (mS v l)=some (mS v (Ca l k b)):=
 Qw (fun k=>V.t (.str k)) (fun k=>[T.str k]) v (fun _=>rfl) (fun _=>rfl) (fun a b=>by by_cases h:a=b<;>simp [eqC,h]) k b l
theorem Au {nb nt:Nat} {l:List V} (h : ∀v∈l,okN nb nt v=true):okNs nb nt l=true:=by
 induction l with
 | nil=>rfl
 | cons x l ih=>simp [okNs,h x (by simp),ih fun v hv=>h v (by simp [hv])]

theorem Ny {α:Type} [DecidableEq α] : ∀{l m:List α},l.Nodup→(∀x∈l,x∈m)→l.length≤m.length
 | [],m,_,_=>by simp
 | x::l,m,hn,hs=>by
  obtain⟨h1,h2⟩:=List.nodup_cons.1 hn
  have hx:=hs x (by simp)
  have:=Ny (l:=l) (m:=m.erase x) h2 (fun y hy=>by
   have hne:y≠x:=fun e=>h1 (e▸hy)
   exact (List.mem_erase_of_ne hne).2 (hs y (by simp [hy])))
  rw [List.length_erase_of_mem hx] at this
  have:=List.length_pos_of_mem hx
  simp;omega
@[simp] theorem A26 {α:Type} (l:List α):(Bp l).length=l.length:=by simp [Bp]
@[simp] theorem A6o {α:Type} : Bp ([]:List α)=[]:=rfl
end Go.Proofs.YtmlpmdccfmmpoaaGreatDoor
end
