/- Chapter 32: valid statements, rules and programs. -/
import Derived.Test.YtmlpmdccfmmpoaaGreatDoorSyc
import Derived.Test.YtmlpmdccfmmpoaaGreatDoorApi
import Derived.Test.YtmlpmdccfmmpoaaGreatDoorProg
set_option linter.unusedSimpArgs false
set_option linter.unusedVariables false
set_option maxHeartbeats 4000000
set_option maxRecDepth 8000
namespace Go.Proofs.YtmlpmdccfmmpoaaGreatDoor
open E
namespace Xp
mutual
def ok:Xp→Prop
 | .mk _ _ _ _ n xs=>n.length≤maxLen∧oks xs
def oks:List Xp→Prop
 | []=>True
 | x::ys=>ok x∧oks ys
end
theorem oks_mem : ∀(l:List Xp),oks l→∀x∈l,ok x
 | [],_,x,h=>by cases h
 | y::l,h,x,hx=>by
  rw [oks] at h
  rcases List.mem_cons.1 hx with rfl|hx
  ·exact h.1
  ·exact oks_mem l h.2 x hx
theorem props_get {l:List Xp} {k:Nat} {x:Xp} (hx:l[k]?=some x):props (l.take (k+1))=(props (l.take k)&&x.prop):=by
 rw [Ae hx]
 generalize l.take k=m
 induction m with
 | nil=>simp [props]
 | cons y m ih=>simp only [List.cons_append,props,ih,Bool.and_assoc]
theorem props_take {l:List Xp} {k:Nat} (h:props (l.take k)=false):props l=false:=by
 induction l generalizing k with
 | nil=>simp [props] at h
 | cons y l ih=>
  cases k with
  | zero=>simp [props] at h
  | succ k=>
   simp only [List.take_succ_cons,props] at h ⊢
   cases hy:y.prop
   ·simp
   ·rw [hy] at h;simpa using ih (by simpa using h)
end Xp
theorem Wu : ∀(x:Xp),x.ok→A4 Tryz.prog 119 [x.v] (vB x.prop):=by
 refine Xp.ind fun kd vl fr to nm xs ih hok=>?_
 rw [Xp.ok] at hok
 obtain⟨hnl,hoks⟩:=hok
 have hmem:=Xp.oks_mem xs hoks
 clear hoks
 rw [Xp.prop]
 have hargs:=A1y kd
 have hnm:=Of nm hnl
 have ha1:=Ux fr
 have ha2:=Ux to
 rw [Xp.v,Xp.c_mk]
 generalize hR:vB (Gz kd vl fr to nm xs.length&&Xp.props xs)=R
 unfold Gz fldB at hR
 generalize Dn nm=nb at *
 generalize acB fr=fb at *
 generalize acB to=tb at *
 have hal0:0≤Bi kd:=by unfold Bi;split<;>(try split)<;>omega
 have hcases:kd=1∨kd=2∨kd=20∨kd=21∨kd=22∨((kd==1)=false∧(kd==2)=false∧(kd==20)=false∧(kd==21)=false∧(kd==22)=false):=by
  simp only [beq_eq_false_iff_ne,ne_eq];omega
 by_cases hsh:(kdB kd&&((xs.length:Int)==Bi kd))=true
 ·rw [hsh,Bool.true_and] at hR
  rw [Bool.and_eq_true] at hsh
  obtain⟨hk,hlen'⟩:=hsh
  rw [if_pos hk] at hargs
  have hlen:((xs.length:Int) != Bi kd)=false:=by simpa using hlen'
  (refine A4.of_code mix Tryz.call119 k_119 (by simp) (fun hB=>?_);(try simp at hB);(try simp -implicitDefEqProofs))
  ((try simp at hargs);(try simp -implicitDefEqProofs [hlen]);repeat' first|(with_reducible apply A0<;>first|(simp only [eras,era,A1];first|with_reducible assumption)|(simp -implicitDefEqProofs [hlen])))
  refine A9 (X:=Nat) (fun k=>k≤xs.length∧Xp.props (xs.take k)=true) (fun k=>[(1,.ptr 0 0),(3,vI k)]) (fun _=>⟨[.cells [vI kd,vI vl,vI fr,vI to,vS nm,Xp.l xs]],[]⟩) (fun k=>xs.length-k) 0 ⟨by simp,by simp [Xp.props]⟩ (by simp) ?_
  rintro k ⟨hkl,hpr⟩ hbd
  rcases Nat.lt_or_ge k xs.length with h|h
  ·have hx:xs[k]?=some xs[k]:=by simp [h]
   have hrec:=ih xs[k] (List.getElem_mem h) (hmem _ (List.getElem_mem h))
   have e3:IntKind.i64.wrap ((k:Int)+1)=(k:Int)+1:=wrap64 (by omega) (by simp [maxLen] at hB;omega)
   have hlc:=D5 xs[k]
   have htc:=C3 xs[k]
   have hnx:=Xp.props_get hx
   rw [hpr,Bool.true_and] at hnx
   cases hp:xs[k].prop
   ·rw [hp] at hrec hnx
    rw [Xp.props_take hnx,Bool.and_false] at hR
    subst hR
    ((try simp at hrec);(try simp -implicitDefEqProofs [h,e3,hlc,htc]);repeat' first|(with_reducible apply A0<;>first|(simp only [eras,era,A1];first|with_reducible assumption)|(simp -implicitDefEqProofs [h,e3,hlc,htc])))
   ·rw [hp] at hrec hnx
    ((try simp at hrec);(try simp -implicitDefEqProofs [h,e3,hlc,htc]);repeat' first|(with_reducible apply A0<;>first|(simp only [eras,era,A1];first|with_reducible assumption)|(simp -implicitDefEqProofs [h,e3,hlc,htc])))
    exact⟨k+1,⟨by omega,hnx⟩,by omega,by push_cast;rfl⟩
  ·have:k=xs.length:=by omega
   subst this
   rw [List.take_length] at hpr
   rw [hpr,Bool.and_true] at hR
   rcases hcases with rfl|rfl|rfl|rfl|rfl|⟨n1,n2,n3,n4,n5⟩
   ·((try simp at hnm ha1 ha2);(try simp -implicitDefEqProofs);repeat' first|((with_reducible first|apply A7|apply A8|apply A3)<;>(intro hc;have hc':=hc;(try simp at hc');simp -implicitDefEqProofs [hc,hc']))|(with_reducible apply A0<;>first|(simp only [eras,era,A1];first|with_reducible assumption)|(simp -implicitDefEqProofs)))
    all_goals (subst hR;simp_all<;>(intros;omega))
   ·((try simp at hnm ha1 ha2);(try simp -implicitDefEqProofs);repeat' first|((with_reducible first|apply A7|apply A8|apply A3)<;>(intro hc;have hc':=hc;(try simp at hc');simp -implicitDefEqProofs [hc,hc']))|(with_reducible apply A0<;>first|(simp only [eras,era,A1];first|with_reducible assumption)|(simp -implicitDefEqProofs)))
    all_goals (subst hR;simp_all<;>(intros;omega))
   ·((try simp at hnm ha1 ha2);(try simp -implicitDefEqProofs);repeat' first|((with_reducible first|apply A7|apply A8|apply A3)<;>(intro hc;have hc':=hc;(try simp at hc');simp -implicitDefEqProofs [hc,hc']))|(with_reducible apply A0<;>first|(simp only [eras,era,A1];first|with_reducible assumption)|(simp -implicitDefEqProofs)))
    all_goals (subst hR;simp_all<;>(intros;omega))
   ·((try simp at hnm ha1 ha2);(try simp -implicitDefEqProofs);repeat' first|((with_reducible first|apply A7|apply A8|apply A3)<;>(intro hc;have hc':=hc;(try simp at hc');simp -implicitDefEqProofs [hc,hc']))|(with_reducible apply A0<;>first|(simp only [eras,era,A1];first|with_reducible assumption)|(simp -implicitDefEqProofs)))
    all_goals (subst hR;simp_all<;>(intros;omega))
   ·((try simp at hnm ha1 ha2);(try simp -implicitDefEqProofs);repeat' first|((with_reducible first|apply A7|apply A8|apply A3)<;>(intro hc;have hc':=hc;(try simp at hc');simp -implicitDefEqProofs [hc,hc']))|(with_reducible apply A0<;>first|(simp only [eras,era,A1];first|with_reducible assumption)|(simp -implicitDefEqProofs)))
    all_goals (subst hR;simp_all<;>(intros;omega))
   ·have n2':(kd != 2)=true:=by simpa using n2
    ((try simp at hnm ha1 ha2);(try simp -implicitDefEqProofs [n1,n2,n2',n3,n4,n5]);repeat' first|((with_reducible first|apply A7|apply A8|apply A3)<;>(intro hc;have hc':=hc;(try simp at hc');simp -implicitDefEqProofs [hc,hc',n1,n2,n2',n3,n4,n5]))|(with_reducible apply A0<;>first|(simp only [eras,era,A1];first|with_reducible assumption)|(simp -implicitDefEqProofs [n1,n2,n2',n3,n4,n5])))
    all_goals (subst hR;simp_all<;>(intros;omega))
 ·have hf:(kdB kd&&((xs.length:Int)==Bi kd))=false:=by simpa using hsh
  rw [hf] at hR
  simp only [Bool.false_and] at hR
  subst hR
  have hlen:((xs.length:Int) != (if kdB kd=true then Bi kd else -1))=true:=by
   split
   ·rename_i hk;rw [hk] at hf;simpa using hf
   ·simp<;>omega
  generalize (if kdB kd=true then Bi kd else -1)=al at *
  (refine A4.of_code mix Tryz.call119 k_119 (by simp) (fun hB=>?_);(try simp at hB);(try simp -implicitDefEqProofs))
  ((try simp at hargs);(try simp -implicitDefEqProofs [hlen]);repeat' first|(with_reducible apply A0<;>first|(simp only [eras,era,A1];first|with_reducible assumption)|(simp -implicitDefEqProofs [hlen])))
def inZ (x:Int):Prop:=-9223372036854775808≤x∧x≤9223372036854775807
def inL (s:List UInt8):Prop:=s.length≤9223372036854775807
theorem I4 {n:Nat} {ts:List T} (h:Sh Tryz.prog n 3 ts) : ∃x,ts=[.int .i64 x]∧inZ x:=by
 cases n with
 | zero=>exact h.elim
 | succ n=>
  simp only [Sh,Tryz.underlying3] at h
  obtain⟨x,rfl,hw⟩:=h
  refine⟨x,rfl,?_⟩
  simp [Lit.wf,IntKind.min,IntKind.max,IntKind.signed,IntKind.bits] at hw
  simp [inZ];omega
theorem A54 {n:Nat} {ts:List T} (h:Sh Tryz.prog n 9 ts) : ∃s,ts=[.str s]∧inL s:=by
 cases n with
 | zero=>exact h.elim
 | succ n=>
  simp only [Sh,Tryz.underlying9] at h
  obtain⟨s,rfl,hw⟩:=h
  exact⟨s,rfl,by simpa [inL,maxLen] using hw⟩
theorem A7j {n:Nat} {ts:List T} (h:Sh Tryz.prog n 4 ts) : ∃b,ts=[.bool b]:=by
 cases n with
 | zero=>exact h.elim
 | succ n=>
  simp only [Sh,Tryz.underlying4] at h
  exact h
theorem A55 {α:Type} {n:Nat} {t e:TypeId} {ts:List T} (hu:Tryz.prog.underlying t=some (.slice e)) (c:α→List T) (wf:α→Prop) (he : ∀m,m<n→∀ts,Sh Tryz.prog m e ts→∃x,ts=c x∧wf x) (h:Sh Tryz.prog n t ts) : ∃l:List α,ts=[.sl (l.map c)]∧∀x∈l,wf x:=by
 cases n with
 | zero=>exact h.elim
 | succ n=>
  simp only [Sh,hu] at h
  obtain⟨es,hts,hes⟩:=h
  rw [hts]
  clear hts
  suffices hs : ∃l:List α,es=l.map c∧∀x∈l,wf x by obtain⟨l,rfl,hl⟩:=hs;exact⟨l,rfl,hl⟩
  induction es with
  | nil=>exact⟨[],rfl,by simp⟩
  | cons r es ih=>
   obtain⟨x,rfl,hx⟩:=he n (by omega) r (hes r (by simp))
   obtain⟨l,rfl,hl⟩:=ih (fun r hr=>hes r (by simp [hr]))
   exact⟨x::l,rfl,by simp;exact⟨hx,hl⟩⟩

namespace Xp
mutual
def wf:Xp→Prop
 | .mk k v f t n xs=>(inZ k∧inZ v∧inZ f∧inZ t∧inL n)∧wfs xs
def wfs:List Xp→Prop
 | []=>True
 | x::ys=>wf x∧wfs ys
end
theorem wfs_of {l:List Xp} (h : ∀x∈l,wf x):wfs l:=by
 induction l with
 | nil=>trivial
 | cons x l ih=>exact⟨h x (by simp),ih fun y hy=>h y (by simp [hy])⟩
theorem Uy : ∀{l:List Xp},wfs l→∀x∈l,wf x
 | [],_,x,h=>by cases h
 | y::l,h,x,hx=>by
  rw [wfs] at h
  rcases List.mem_cons.1 hx with rfl|hx
  ·exact h.1
  ·exact Uy h.2 x hx
theorem ok_of : ∀{x:Xp},x.wf→x.ok:=by
 intro x
 refine Xp.ind (P:=fun x=>x.wf→x.ok) (fun k v f t n xs ih h=>?_) x
 rw [wf] at h
 rw [ok]
 refine⟨by simpa [inL,maxLen] using h.1.2.2.2.2,?_⟩
 have hm:=Uy h.2
 clear h
 induction xs with
 | nil=>trivial
 | cons y ys ih2=>exact⟨ih y (by simp) (hm y (by simp)),ih2 (fun a ha=>ih a (by simp [ha])) (fun a ha=>hm a (by simp [ha]))⟩
end Xp
def Stm.wf (s:Stm):Prop:=inZ s.kind∧inZ s.acc∧inL s.name∧s.ex.wf
def Rul.wf (r:Rul):Prop:=inL r.name∧inZ r.to∧∀s∈r.stmts,s.wf

theorem A7k : ∀(n:Nat) (ts:List T),Sh Tryz.prog n 24 ts→∃x:Xp,ts=x.c∧x.wf:=by
 intro n
 induction n using Nat.strongRecOn with
 | ind n ih=>
  intro ts h
  cases n with
  | zero=>exact h.elim
  | succ n=>
   have hc:Tryz.prog.cellsOf 24=6:=by kernel_rfl
   simp only [Sh,Tryz.underlying24,hc,List.forall_mem_cons,List.not_mem_nil,false_imp_iff,implies_true,and_true] at h
   obtain⟨hl,h0,h1,h2,h3,h4,h5⟩:=h
   obtain⟨c0,c1,c2,c3,c4,c5,rfl⟩ : ∃c0 c1 c2 c3 c4 c5,ts=[c0,c1,c2,c3,c4,c5]:=by
    match ts,hl with
    | [c0,c1,c2,c3,c4,c5],_=>exact⟨_,_,_,_,_,_,rfl⟩
   rw [show Tryz.prog.cellsOf 3=1 by kernel_rfl] at h0 h1 h2 h3
   rw [show Tryz.prog.cellsOf 9=1 by kernel_rfl] at h4
   rw [show Tryz.prog.cellsOf 22=1 by kernel_rfl] at h5
   obtain⟨x0,e0,w0⟩:=I4 h0
   obtain⟨x1,e1,w1⟩:=I4 h1
   obtain⟨x2,e2,w2⟩:=I4 h2
   obtain⟨x3,e3,w3⟩:=I4 h3
   obtain⟨x4,e4,w4⟩:=A54 h4
   obtain⟨x5,e5,w5⟩:=A55 (by kernel_rfl) Xp.c Xp.wf (fun m hm ts h=>ih m (by omega) ts h) h5
   refine⟨.mk x0 x1 x2 x3 x4 x5,?_,⟨⟨w0,w1,w2,w3,w4⟩,Xp.wfs_of w5⟩⟩
   rw [Xp.c_mk]
   simp at e0 e1 e2 e3 e4 e5
   simp [*]
theorem A56 (n:Nat) (ts:List T) (h:Sh Tryz.prog n 31 ts) : ∃x:Stm,ts=x.c∧x.wf:=by
 cases n with
 | zero=>exact h.elim
 | succ n=>
  have hc:Tryz.prog.cellsOf 31=9:=by kernel_rfl
  simp only [Sh,Tryz.underlying31,hc,List.forall_mem_cons,List.not_mem_nil,false_imp_iff,implies_true,and_true] at h
  obtain⟨hl,h0,h1,h2,h3⟩:=h
  obtain⟨c0,c1,c2,r,rfl⟩ : ∃c0 c1 c2 r,ts=c0::c1::c2::r:=by
   match ts,hl with
   | c0::c1::c2::r,_=>exact⟨_,_,_,_,rfl⟩
  rw [show Tryz.prog.cellsOf 3=1 by kernel_rfl] at h0 h1
  rw [show Tryz.prog.cellsOf 9=1 by kernel_rfl] at h2
  rw [show Tryz.prog.cellsOf 24=6 by kernel_rfl] at h3
  obtain⟨x0,e0,w0⟩:=I4 h0
  obtain⟨x1,e1,w1⟩:=I4 h1
  obtain⟨x2,e2,w2⟩:=A54 h2
  obtain⟨x3,e3,w3⟩:=A7k n _ h3
  refine⟨⟨x0,x1,x2,x3⟩,?_,⟨w0,w1,w2,w3⟩⟩
  simp at e0 e1 e2 hl
  rw [List.take_of_length_le (by simp;omega)] at e3
  simp at e3
  simp [Stm.c, *]
theorem A57 (n:Nat) (ts:List T) (h:Sh Tryz.prog n 34 ts) : ∃x:Rul,ts=x.c∧x.wf:=by
 cases n with
 | zero=>exact h.elim
 | succ n=>
  have hc:Tryz.prog.cellsOf 34=4:=by kernel_rfl
  simp only [Sh,Tryz.underlying34,hc,List.forall_mem_cons,List.not_mem_nil,false_imp_iff,implies_true,and_true] at h
  obtain⟨hl,h0,h1,h2,h3⟩:=h
  obtain⟨c0,c1,c2,c3,rfl⟩ : ∃c0 c1 c2 c3,ts=[c0,c1,c2,c3]:=by
   match ts,hl with
   | [c0,c1,c2,c3],_=>exact⟨_,_,_,_,rfl⟩
  rw [show Tryz.prog.cellsOf 9=1 by kernel_rfl] at h0
  rw [show Tryz.prog.cellsOf 4=1 by kernel_rfl] at h1
  rw [show Tryz.prog.cellsOf 32=1 by kernel_rfl] at h2
  rw [show Tryz.prog.cellsOf 3=1 by kernel_rfl] at h3
  obtain⟨x0,e0,w0⟩:=A54 h0
  obtain⟨x1,e1⟩:=A7j h1
  obtain⟨x2,e2,w2⟩:=A55 (by kernel_rfl) Stm.c Stm.wf (fun m hm ts h=>A56 m ts h) h2
  obtain⟨x3,e3,w3⟩:=I4 h3
  refine⟨⟨x0,x1,x2,x3⟩,?_,⟨w0,w3,w2⟩⟩
  simp at e0 e1 e2 e3
  simp [Rul.c, *]
theorem A58 (n:Nat) (ts:List T) (h:Sh Tryz.prog n 36 ts) : ∃p:List Rul,ts=[.sl (p.map Rul.c)]∧∀r∈p,r.wf:=
 A55 (by kernel_rfl) Rul.c Rul.wf (fun m hm ts h=>A57 m ts h) h
def Account.wf (x:Account):Prop:=inZ x.code∧inZ x.kind∧inZ x.basis∧inZ x.parent
theorem Uz {t:TypeId} {ts:List T} {x:T} (h:isAgg Tryz.prog t=false) (hx:ts=[x]):Th Tryz.prog t ts=.t x:=by
 subst hx
 rw [Th,h];rfl
theorem A21 {ts:List T} (h : ∃n,Sh Tryz.prog n 36 ts) : ∃p:List Rul,Th Tryz.prog 36 ts=Rul.l p∧∀r∈p,r.wf:=by
 obtain⟨n,h⟩:=h
 obtain⟨x,e,w⟩:=A58 n _ h
 exact⟨x,Uz (by kernel_rfl) e,w⟩
def Ly (k a:Int) (n:List UInt8):Bool:=
 if k=1 then Dn n&&(a==0) else if k=2 then n.isEmpty&&(a==0) else if k=3 then n.isEmpty&&acB a else false
def Dl (s:Stm):Bool:=Ly s.kind s.acc s.name&&decide (s.ex.dep≤30)&&s.ex.prop
def Cs (r:Rul):Bool:=Dn r.name&&decide (r.stmts.length≤30)&&acB r.to&&r.stmts.all Dl
def Ho (p:List Rul):Bool:=p.all Cs&&decide (p.length≤40)

theorem A59 (s:Stm) (hc:s.ex.cnt≤100000):A4 Tryz.prog 97 [s.v] (vB (Dl s)):=by
 obtain⟨k,a,n,x⟩:=s
 simp only [] at hc
 have hn:=Oe n
 have ha:=A1x a
 have hd:=A1z x hc
 have hp:=w_proper x
 have hlc:=D5 x
 have htc:=C3 x
 generalize hR:vB (Dl ⟨k,a,n,x⟩)=R
 unfold Dl Ly at hR
 simp only [] at hR
 generalize x.dep=d at *
 generalize x.prop=pb at *
 generalize Dn n=nb at *
 generalize acB a=ab at *
 rw [Stm.v,Stm.c]
 simp only []
 have hcases:k=1∨k=2∨k=3∨((k==1)=false∧(k==2)=false∧(k==3)=false):=by
  simp only [beq_eq_false_iff_ne,ne_eq];omega
 rcases hcases with rfl|rfl|rfl|⟨n1,n2,n3⟩
 ·(refine A4.of_code mix Tryz.call97 k_97 (by simp) (fun hB=>?_);(try simp at hB);(try simp -implicitDefEqProofs))
  ((try simp at hn ha hd hp);(try simp -implicitDefEqProofs [hlc,htc]);repeat' first|((with_reducible first|apply A7|apply A8|apply A3)<;>(intro hc;have hc':=hc;(try simp at hc');simp -implicitDefEqProofs [hc,hc',hlc,htc]))|(with_reducible apply A0<;>first|(simp only [eras,era,A1];first|with_reducible assumption)|(simp -implicitDefEqProofs [hlc,htc])))
  all_goals (subst hR;simp_all<;>(intros;omega))
 ·(refine A4.of_code mix Tryz.call97 k_97 (by simp) (fun hB=>?_);(try simp at hB);(try simp -implicitDefEqProofs))
  ((try simp at hn ha hd hp);(try simp -implicitDefEqProofs [hlc,htc]);repeat' first|((with_reducible first|apply A7|apply A8|apply A3)<;>(intro hc;have hc':=hc;(try simp at hc');simp -implicitDefEqProofs [hc,hc',hlc,htc]))|(with_reducible apply A0<;>first|(simp only [eras,era,A1];first|with_reducible assumption)|(simp -implicitDefEqProofs [hlc,htc])))
  all_goals (subst hR;simp_all<;>(intros;omega))
 ·(refine A4.of_code mix Tryz.call97 k_97 (by simp) (fun hB=>?_);(try simp at hB);(try simp -implicitDefEqProofs))
  ((try simp at hn ha hd hp);(try simp -implicitDefEqProofs [hlc,htc]);repeat' first|((with_reducible first|apply A7|apply A8|apply A3)<;>(intro hc;have hc':=hc;(try simp at hc');simp -implicitDefEqProofs [hc,hc',hlc,htc]))|(with_reducible apply A0<;>first|(simp only [eras,era,A1];first|with_reducible assumption)|(simp -implicitDefEqProofs [hlc,htc])))
  all_goals (subst hR;simp_all<;>(intros;omega))
 ·(refine A4.of_code mix Tryz.call97 k_97 (by simp) (fun hB=>?_);(try simp at hB);(try simp -implicitDefEqProofs))
  ((try simp at hn ha hd hp);(try simp -implicitDefEqProofs [hlc,htc,n1,n2,n3]);repeat' first|(with_reducible apply A0<;>first|(simp only [eras,era,A1];first|with_reducible assumption)|(simp -implicitDefEqProofs [hlc,htc,n1,n2,n3])))
  all_goals (subst hR;simp_all<;>(intros;omega))
theorem A22 (s:Stm) (hc:s.ex.cnt≤100000):A4 Tryz.prog 96 [s.v] (vB (!Dl s)):=by
 have h:=A59 s hc
 generalize Dl s=b at *
 have hlc:=Js s
 have htc:=J3 s
 (refine A4.of_code mix Tryz.call96 k_96 (by simp) (fun hB=>?_);(try simp at hB);(try simp -implicitDefEqProofs))
 ((try simp at h);(try simp -implicitDefEqProofs [hlc,htc]);repeat' first|(with_reducible apply A0<;>first|(simp only [eras,era,A1];first|with_reducible assumption)|(simp -implicitDefEqProofs [hlc,htc])))
theorem V0 (p:List Rul) (hc : ∀r∈p,∀s∈r.stmts,s.ex.cnt≤100000):A4 Tryz.prog 45 [Rul.l p] (vB (Ho p)):=by
 generalize hR:vB (Ho p)=R
 unfold Ho at hR
 (refine A4.of_code mix Tryz.call45 k_45 (by simp) (fun hB=>?_);(try simp at hB);(try simp -implicitDefEqProofs))
 refine A9 (X:=Nat) (fun k=>k≤p.length∧∀y∈p.take k,Cs y=true) (fun k=>[(0,Rul.l p),(5,Rul.l p),(6,vI p.length),(7,vI k)]) (fun _=>St0) (fun k=>p.length-k) 0 ⟨by simp,by simp⟩ (by simp) ?_
 rintro k ⟨hk,hn⟩ hbd
 rcases Nat.lt_or_ge k p.length with h|h
 ·have hx:p[k]?=some p[k]:=by simp [h]
  have e3:IntKind.i64.wrap ((k:Int)+1)=(k:Int)+1:=wrap64 (by omega) (by simp [maxLen] at hB;omega)
  have hlc:=Og p[k]
  have htc:=Oh p[k]
  have hcs:=hc p[k] (List.getElem_mem h)
  have hstep:Cs p[k]=true→∃z':Nat,(z'≤p.length∧∀y∈p.take z',Cs y=true)∧p.length-z'<p.length-k∧(z':Int)=(k:Int)+1:=by
   intro hr
   refine⟨k+1,⟨by omega,fun y hy=>?_⟩,by omega,by push_cast;rfl⟩
   rw [Ae hx] at hy
   rcases List.mem_append.1 hy with h1|h1
   ·exact hn y h1
   ·simp at h1;subst h1;exact hr
  have hout:Cs p[k]=false→p.all Cs=false:=by
   intro hr
   rw [List.all_eq_false]
   exact⟨p[k],List.getElem_mem h,by simp [hr]⟩
  have hrul:Cs p[k]=(Dn p[k].name&&decide (p[k].stmts.length≤30)&&acB p[k].to&&p[k].stmts.all Dl):=rfl
  have hcc:p[k].c=[.str p[k].name,.bool p[k].pair,.sl (p[k].stmts.map Stm.c),.int .i64 p[k].to]:=rfl
  generalize hrk:p[k]=r at *
  obtain⟨nm,pr,ss,to⟩:=r
  simp only [] at *
  have h1:=Oe nm
  have h2:=A1x to
  have h3:A4 Tryz.prog 95 [Stm.l ss,.fn (.func 96) []] (vB (ss.any fun s=>!Dl s)):=
   A53 St0 A1q ss 96 [] rfl (fun s=>!Dl s) (fun s hs=>A22 s (hcs s hs))
  have hall:ss.all Dl = !(ss.any fun s=>!Dl s):=by simp [List.all_eq_not_any_not]
  rw [hall] at hrul
  generalize (ss.any fun s=>!Dl s)=an at *
  generalize Dn nm=nb at *
  generalize acB to=ab at *
  by_cases h30:ss.length≤30
  ·have h30':decide ((30:Int)<ss.length)=false:=by simp;omega
   rw [decide_eq_true h30] at hrul
   cases nb
   ·rw [hout (by rw [hrul];rfl),Bool.false_and] at hR
    subst hR
    ((try simp at h1 h2 h3);(try simp -implicitDefEqProofs [h,hrk,hcc,h30',e3,hlc,htc]);repeat' first|(with_reducible apply A0<;>first|(simp only [eras,era,A1];first|with_reducible assumption)|(simp -implicitDefEqProofs [h,hrk,hcc,h30',e3,hlc,htc])))
   ·cases ab
    ·rw [hout (by rw [hrul];rfl),Bool.false_and] at hR
     subst hR
     ((try simp at h1 h2 h3);(try simp -implicitDefEqProofs [h,hrk,hcc,h30',e3,hlc,htc]);repeat' first|(with_reducible apply A0<;>first|(simp only [eras,era,A1];first|with_reducible assumption)|(simp -implicitDefEqProofs [h,hrk,hcc,h30',e3,hlc,htc])))
    ·cases an
     ·have hst:=hstep (by rw [hrul];rfl)
      ((try simp at h1 h2 h3);(try simp -implicitDefEqProofs [h,hrk,hcc,h30',e3,hlc,htc]);repeat' first|(with_reducible apply A0<;>first|(simp only [eras,era,A1];first|with_reducible assumption)|(simp -implicitDefEqProofs [h,hrk,hcc,h30',e3,hlc,htc])))
      exact hst
     ·rw [hout (by rw [hrul];rfl),Bool.false_and] at hR
      subst hR
      ((try simp at h1 h2 h3);(try simp -implicitDefEqProofs [h,hrk,hcc,h30',e3,hlc,htc]);repeat' first|(with_reducible apply A0<;>first|(simp only [eras,era,A1];first|with_reducible assumption)|(simp -implicitDefEqProofs [h,hrk,hcc,h30',e3,hlc,htc])))
  ·have h30':decide ((30:Int)<ss.length)=true:=by simp;omega
   rw [decide_eq_false h30] at hrul
   simp only [Bool.and_false,Bool.false_and] at hrul
   have hR2:=hR
   rw [hout hrul,Bool.false_and] at hR2
   subst hR2
   cases nb
   ·((try simp at h1 h2 h3);(try simp -implicitDefEqProofs [h,hrk,hcc,h30',e3,hlc,htc]);repeat' first|(with_reducible apply A0<;>first|(simp only [eras,era,A1];first|with_reducible assumption)|(simp -implicitDefEqProofs [h,hrk,hcc,h30',e3,hlc,htc])))
   ·((try simp at h1 h2 h3);(try simp -implicitDefEqProofs [h,hrk,hcc,h30',e3,hlc,htc]);repeat' first|(with_reducible apply A0<;>first|(simp only [eras,era,A1];first|with_reducible assumption)|(simp -implicitDefEqProofs [h,hrk,hcc,h30',e3,hlc,htc])))
 ·have:k=p.length:=by omega
  subst this
  rw [List.take_length] at hn
  have hall:p.all Cs=true:=List.all_eq_true.2 hn
  rw [hall,Bool.true_and] at hR
  subst hR
  (try simp -implicitDefEqProofs)
  omega
end Go.Proofs.YtmlpmdccfmmpoaaGreatDoor
