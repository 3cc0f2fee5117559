/- Go's maps as lists of pairs. -/
import Derived.Test.YtmlpmdccfmmpoaaGreatDoorSyc
import Derived.Test.YtmlpmdccfmmpoaaGreatDoorApi
import Derived.Test.YtmlpmdccfmmpoaaGreatDoorProg
set_option linter.unusedSimpArgs false
set_option linter.unusedVariables false
set_option maxHeartbeats 4000000
set_option maxRecDepth 8000
namespace Go.Proofs.YtmlpmdccfmmpoaaGreatDoor
open E
namespace Xp
mutual
def ok:Xp→Prop
 | .mk _ _ _ _ n xs=>n.length≤maxLen∧oks xs
def oks:List Xp→Prop
 | []=>True
 | x::ys=>ok x∧oks ys
end
theorem oks_mem : ∀(l:List Xp),oks l→∀x∈l,ok x
 | [],_,x,h=>by cases h
 | y::l,h,x,hx=>by
  rw [oks] at h
  rcases List.mem_cons.1 hx with rfl|hx
  ·exact h.1
  ·exact oks_mem l h.2 x hx
theorem props_get {l:List Xp} {k:Nat} {x:Xp} (hx:l[k]?=some x):props (l.take (k+1))=(props (l.take k)&&x.prop):=by
 rw [Ah hx]
 generalize l.take k=m
 induction m with
 | nil=>simp [props]
 | cons y m ih=>simp only [List.cons_append,props,ih,Bool.and_assoc]
theorem props_take {l:List Xp} {k:Nat} (h:props (l.take k)=false):props l=false:=by
 induction l generalizing k with
 | nil=>simp [props] at h
 | cons y l ih=>
  cases k with
  | zero=>simp [props] at h
  | succ k=>
   simp only [List.take_succ_cons,props] at h ⊢
   cases hy:y.prop
   ·simp
   ·rw [hy] at h;simpa using ih (by simpa using h)
end Xp
theorem Tq : ∀(x:Xp),x.ok→A3 Tryz.prog 119 [x.v] (vB x.prop):=by
 refine Xp.ind fun kd vl fr to nm xs ih hok=>?_
 rw [Xp.ok] at hok
 obtain⟨hnl,hoks⟩:=hok
 have hmem:=Xp.oks_mem xs hoks
 clear hoks
 rw [Xp.prop]
 have hargs:=Yn kd
 have hnm:=M9 nm hnl
 have ha1:=Rq fr
 have ha2:=Rq to
 rw [Xp.v,Xp.c_mk]
 generalize hR:vB (Gk kd vl fr to nm xs.length&&Xp.props xs)=R
 unfold Gk fldB at hR
 generalize Cf nm=nb at *
 generalize acB fr=fb at *
 generalize acB to=tb at *
 have hal0:0≤B5 kd:=by unfold B5;split<;>(try split)<;>omega
 have hcases:kd=1∨kd=2∨kd=20∨kd=21∨kd=22∨((kd==1)=false∧(kd==2)=false∧(kd==20)=false∧(kd==21)=false∧(kd==22)=false):=by
  simp only [beq_eq_false_iff_ne,ne_eq];omega
 by_cases hsh:(kdB kd&&((xs.length:Int)==B5 kd))=true
 ·rw [hsh,Bool.true_and] at hR
  rw [Bool.and_eq_true] at hsh
  obtain⟨hk,hlen'⟩:=hsh
  rw [if_pos hk] at hargs
  have hlen:((xs.length:Int) != B5 kd)=false:=by simpa using hlen'
  (refine A3.of_code mix Tryz.call119 k_119 (by simp) (fun hB=>?_);(try simp at hB);(try simp -implicitDefEqProofs))
  ((try simp at hargs);(try simp -implicitDefEqProofs [hlen]);repeat' first|(with_reducible apply A0<;>first|(simp only [eras,era,A1];first|with_reducible assumption)|(simp -implicitDefEqProofs [hlen])))
  refine A6 (X:=Nat) (fun k=>k≤xs.length∧Xp.props (xs.take k)=true) (fun k=>[(1,.ptr 0 0),(3,vI k)]) (fun _=>⟨[.cells [vI kd,vI vl,vI fr,vI to,vS nm,Xp.l xs]],[]⟩) (fun k=>xs.length-k) 0 ⟨by simp,by simp [Xp.props]⟩ (by simp) ?_
  rintro k ⟨hkl,hpr⟩ hbd
  rcases Nat.lt_or_ge k xs.length with h|h
  ·have hx:xs[k]?=some xs[k]:=by simp [h]
   have hrec:=ih xs[k] (List.getElem_mem h) (hmem _ (List.getElem_mem h))
   have e3:IntKind.i64.wrap ((k:Int)+1)=(k:Int)+1:=wrap64 (by omega) (by simp [maxLen] at hB;omega)
   have hlc:=C1 xs[k]
   have htc:=Bf xs[k]
   have hnx:=Xp.props_get hx
   rw [hpr,Bool.true_and] at hnx
   cases hp:xs[k].prop
   ·rw [hp] at hrec hnx
    rw [Xp.props_take hnx,Bool.and_false] at hR
    subst hR
    ((try simp at hrec);(try simp -implicitDefEqProofs [h,e3,hlc,htc]);repeat' first|(with_reducible apply A0<;>first|(simp only [eras,era,A1];first|with_reducible assumption)|(simp -implicitDefEqProofs [h,e3,hlc,htc])))
   ·rw [hp] at hrec hnx
    ((try simp at hrec);(try simp -implicitDefEqProofs [h,e3,hlc,htc]);repeat' first|(with_reducible apply A0<;>first|(simp only [eras,era,A1];first|with_reducible assumption)|(simp -implicitDefEqProofs [h,e3,hlc,htc])))
    exact⟨k+1,⟨by omega,hnx⟩,by omega,by push_cast;rfl⟩
  ·have:k=xs.length:=by omega
   subst this
   rw [List.take_length] at hpr
   rw [hpr,Bool.and_true] at hR
   rcases hcases with rfl|rfl|rfl|rfl|rfl|⟨n1,n2,n3,n4,n5⟩
   ·((try simp at hnm ha1 ha2);(try simp -implicitDefEqProofs);repeat' first|((with_reducible first|apply Ad|apply Ae|apply A8)<;>(intro hc;have hc':=hc;(try simp at hc');simp -implicitDefEqProofs [hc,hc']))|(with_reducible apply A0<;>first|(simp only [eras,era,A1];first|with_reducible assumption)|(simp -implicitDefEqProofs)))
    all_goals (subst hR;simp_all<;>(intros;omega))
   ·((try simp at hnm ha1 ha2);(try simp -implicitDefEqProofs);repeat' first|((with_reducible first|apply Ad|apply Ae|apply A8)<;>(intro hc;have hc':=hc;(try simp at hc');simp -implicitDefEqProofs [hc,hc']))|(with_reducible apply A0<;>first|(simp only [eras,era,A1];first|with_reducible assumption)|(simp -implicitDefEqProofs)))
    all_goals (subst hR;simp_all<;>(intros;omega))
   ·((try simp at hnm ha1 ha2);(try simp -implicitDefEqProofs);repeat' first|((with_reducible first|apply Ad|apply Ae|apply A8)<;>(intro hc;have hc':=hc;(try simp at hc');simp -implicitDefEqProofs [hc,hc']))|(with_reducible apply A0<;>first|(simp only [eras,era,A1];first|with_reducible assumption)|(simp -implicitDefEqProofs)))
    all_goals (subst hR;simp_all<;>(intros;omega))
   ·((try simp at hnm ha1 ha2);(try simp -implicitDefEqProofs);repeat' first|((with_reducible first|apply Ad|apply Ae|apply A8)<;>(intro hc;have hc':=hc;(try simp at hc');simp -implicitDefEqProofs [hc,hc']))|(with_reducible apply A0<;>first|(simp only [eras,era,A1];first|with_reducible assumption)|(simp -implicitDefEqProofs)))
    all_goals (subst hR;simp_all<;>(intros;omega))
   ·((try simp at hnm ha1 ha2);(try simp -implicitDefEqProofs);repeat' first|((with_reducible first|apply Ad|apply Ae|apply A8)<;>(intro hc;have hc':=hc;(try simp at hc');simp -implicitDefEqProofs [hc,hc']))|(with_reducible apply A0<;>first|(simp only [eras,era,A1];first|with_reducible assumption)|(simp -implicitDefEqProofs)))
    all_goals (subst hR;simp_all<;>(intros;omega))
   ·have n2':(kd != 2)=true:=by simpa using n2
    ((try simp at hnm ha1 ha2);(try simp -implicitDefEqProofs [n1,n2,n2',n3,n4,n5]);repeat' first|((with_reducible first|apply Ad|apply Ae|apply A8)<;>(intro hc;have hc':=hc;(try simp at hc');simp -implicitDefEqProofs [hc,hc',n1,n2,n2',n3,n4,n5]))|(with_reducible apply A0<;>first|(simp only [eras,era,A1];first|with_reducible assumption)|(simp -implicitDefEqProofs [n1,n2,n2',n3,n4,n5])))
    all_goals (subst hR;simp_all<;>(intros;omega))
 ·have hf:(kdB kd&&((xs.length:Int)==B5 kd))=false:=by simpa using hsh
  rw [hf] at hR
  simp only [Bool.false_and] at hR
  subst hR
  have hlen:((xs.length:Int) != (if kdB kd=true then B5 kd else -1))=true:=by
   split
   ·rename_i hk;rw [hk] at hf;simpa using hf
   ·simp<;>omega
  generalize (if kdB kd=true then B5 kd else -1)=al at *
  (refine A3.of_code mix Tryz.call119 k_119 (by simp) (fun hB=>?_);(try simp at hB);(try simp -implicitDefEqProofs))
  ((try simp at hargs);(try simp -implicitDefEqProofs [hlen]);repeat' first|(with_reducible apply A0<;>first|(simp only [eras,era,A1];first|with_reducible assumption)|(simp -implicitDefEqProofs [hlen])))
def inZ (x:Int):Prop:=-9223372036854775808≤x∧x≤9223372036854775807
def inL (s:List UInt8):Prop:=s.length≤9223372036854775807
theorem Gl {n:Nat} {ts:List T} (h:Sh Tryz.prog n 3 ts) : ∃x,ts=[.int .i64 x]∧inZ x:=by
 cases n with
 | zero=>exact h.elim
 | succ n=>
  simp only [Sh,Tryz.underlying3] at h
  obtain⟨x,rfl,hw⟩:=h
  refine⟨x,rfl,?_⟩
  simp [Lit.wf,IntKind.min,IntKind.max,IntKind.signed,IntKind.bits] at hw
  simp [inZ];omega
theorem A50 {n:Nat} {ts:List T} (h:Sh Tryz.prog n 9 ts) : ∃s,ts=[.str s]∧inL s:=by
 cases n with
 | zero=>exact h.elim
 | succ n=>
  simp only [Sh,Tryz.underlying9] at h
  obtain⟨s,rfl,hw⟩:=h
  exact⟨s,rfl,by simpa [inL,maxLen] using hw⟩
theorem A51 {n:Nat} {ts:List T} (h:Sh Tryz.prog n 4 ts) : ∃b,ts=[.bool b]:=by
 cases n with
 | zero=>exact h.elim
 | succ n=>
  simp only [Sh,Tryz.underlying4] at h
  exact h
theorem A52 {α:Type} {n:Nat} {t e:TypeId} {ts:List T} (hu:Tryz.prog.underlying t=some (.slice e)) (c:α→List T) (wf:α→Prop) (he : ∀m,m<n→∀ts,Sh Tryz.prog m e ts→∃x,ts=c x∧wf x) (h:Sh Tryz.prog n t ts) : ∃l:List α,ts=[.sl (l.map c)]∧∀x∈l,wf x:=by
 cases n with
 | zero=>exact h.elim
 | succ n=>
  simp only [Sh,hu] at h
  obtain⟨es,hts,hes⟩:=h
  rw [hts]
  clear hts
  suffices hs : ∃l:List α,es=l.map c∧∀x∈l,wf x by obtain⟨l,rfl,hl⟩:=hs;exact⟨l,rfl,hl⟩
  induction es with
  | nil=>exact⟨[],rfl,by simp⟩
  | cons r es ih=>
   obtain⟨x,rfl,hx⟩:=he n (by omega) r (hes r (by simp))
   obtain⟨l,rfl,hl⟩:=ih (fun r hr=>hes r (by simp [hr]))
   exact⟨x::l,rfl,by simp;exact⟨hx,hl⟩⟩

namespace Xp
mutual
def wf:Xp→Prop
 | .mk k v f t n xs=>(inZ k∧inZ v∧inZ f∧inZ t∧inL n)∧wfs xs
def wfs:List Xp→Prop
 | []=>True
 | x::ys=>wf x∧wfs ys
end
theorem wfs_of {l:List Xp} (h : ∀x∈l,wf x):wfs l:=by
 induction l with
 | nil=>trivial
 | cons x l ih=>exact⟨h x (by simp),ih fun y hy=>h y (by simp [hy])⟩
theorem Rr : ∀{l:List Xp},wfs l→∀x∈l,wf x
 | [],_,x,h=>by cases h
 | y::l,h,x,hx=>by
  rw [wfs] at h
  rcases List.mem_cons.1 hx with rfl|hx
  ·exact h.1
  ·exact Rr h.2 x hx
theorem ok_of : ∀{x:Xp},x.wf→x.ok:=by
 intro x
 refine Xp.ind (P:=fun x=>x.wf→x.ok) (fun k v f t n xs ih h=>?_) x
 rw [wf] at h
 rw [ok]
 refine⟨by simpa [inL,maxLen] using h.1.2.2.2.2,?_⟩
 have hm:=Rr h.2
 clear h
 induction xs with
 | nil=>trivial
 | cons y ys ih2=>exact⟨ih y (by simp) (hm y (by simp)),ih2 (fun a ha=>ih a (by simp [ha])) (fun a ha=>hm a (by simp [ha]))⟩
end Xp
def Stm.wf (s:Stm):Prop:=inZ s.kind∧inZ s.acc∧inL s.name∧s.ex.wf
def Rul.wf (r:Rul):Prop:=inL r.name∧inZ r.to∧∀s∈r.stmts,s.wf

theorem A3y : ∀(n:Nat) (ts:List T),Sh Tryz.prog n 24 ts→∃x:Xp,ts=x.c∧x.wf:=by
 intro n
 induction n using Nat.strongRecOn with
 | ind n ih=>
  intro ts h
  cases n with
  | zero=>exact h.elim
  | succ n=>
   have hc:Tryz.prog.cellsOf 24=6:=by kernel_rfl
   simp only [Sh,Tryz.underlying24,hc,List.forall_mem_cons,List.not_mem_nil,false_imp_iff,implies_true,and_true] at h
   obtain⟨hl,h0,h1,h2,h3,h4,h5⟩:=h
   obtain⟨c0,c1,c2,c3,c4,c5,rfl⟩ : ∃c0 c1 c2 c3 c4 c5,ts=[c0,c1,c2,c3,c4,c5]:=by
    match ts,hl with
    | [c0,c1,c2,c3,c4,c5],_=>exact⟨_,_,_,_,_,_,rfl⟩
   rw [show Tryz.prog.cellsOf 3=1 by kernel_rfl] at h0 h1 h2 h3
   rw [show Tryz.prog.cellsOf 9=1 by kernel_rfl] at h4
   rw [show Tryz.prog.cellsOf 22=1 by kernel_rfl] at h5
   obtain⟨x0,e0,w0⟩:=Gl h0
   obtain⟨x1,e1,w1⟩:=Gl h1
   obtain⟨x2,e2,w2⟩:=Gl h2
   obtain⟨x3,e3,w3⟩:=Gl h3
   obtain⟨x4,e4,w4⟩:=A50 h4
   obtain⟨x5,e5,w5⟩:=A52 (by kernel_rfl) Xp.c Xp.wf (fun m hm ts h=>ih m (by omega) ts h) h5
   refine⟨.mk x0 x1 x2 x3 x4 x5,?_,⟨⟨w0,w1,w2,w3,w4⟩,Xp.wfs_of w5⟩⟩
   rw [Xp.c_mk]
   simp at e0 e1 e2 e3 e4 e5
   simp [*]
def Account.wf (x:Account):Prop:=inZ x.code∧inZ x.kind∧inZ x.basis∧inZ x.parent
theorem Yq {t:TypeId} {ts:List T} {x:T} (h:isAgg Tryz.prog t=false) (hx:ts=[x]):Ko Tryz.prog t ts=.t x:=by
 subst hx
 rw [Ko,h];rfl
theorem O9 {t:TypeId} {ts:List T} (h:isAgg Tryz.prog t=true):Ko Tryz.prog t ts=.agg (ts.map .t):=by
 rw [Ko,h];rfl
theorem A1p {ts:List T} (h : ∃n,Sh Tryz.prog n 24 ts) : ∃x:Xp,Ko Tryz.prog 24 ts=x.v∧x.wf:=by
 obtain⟨n,h⟩:=h
 obtain⟨x,e,w⟩:=A3y n _ h
 subst e
 exact⟨x,O9 (by kernel_rfl),w⟩
end Go.Proofs.YtmlpmdccfmmpoaaGreatDoor
section
set_option linter.unusedSimpArgs false
set_option linter.unusedVariables false
namespace Go.Proofs.YtmlpmdccfmmpoaaGreatDoor
open E

section
variable {α β:Type} [DecidableEq α]
def Bg:List (α×β)→α→Option β
 | [],_=>none
 | (a,b)::l,k=>if k=a then some b else Bg l k
def Cc:List (α×β)→α→β→List (α×β)
 | [],k,b=>[(k,b)]
 | (a,c)::l,k,b=>if k=a then (k,b)::l else (a,c)::Cc l k b

theorem Tr (l:List (α×β)) (k:α) (b:β) (q:α):Bg (Cc l k b) q=if q=k then some b else Bg l q:=by
 induction l with
 | nil=>simp [Cc,Bg]
 | cons p l ih=>
  obtain⟨a,c⟩:=p
  simp only [Cc]
  by_cases h:k=a
  ·subst h;rw [if_pos rfl];simp only [Bg];split<;>rfl
  ·rw [if_neg h];simp only [Bg,ih]
   by_cases h2:q=a
   ·subst h2;rw [if_pos rfl,if_neg (Ne.symm h),if_pos rfl]
   ·rw [if_neg h2,if_neg h2]
theorem Ii (l:List (α×β)) (k:α) (b:β):(Cc l k b).length≤l.length+1:=by
 induction l with
 | nil=>simp [Cc]
 | cons p l ih=>obtain⟨a,c⟩:=p;simp only [Cc];split<;>simp<;>omega

theorem La {ka:Bool} {ks:List Nat} (enc:α→V) (c:α→List T) (v:β→V) (h1 : ∀a,Bs (cellsV (enc a))=some (c a)) (h2 : ∀a,isAggV (enc a)=ka) (h3 : ∀a b,eqC ks (c a) (c b)=some (decide (a=b))) (k:α) (l:List (α×β)) :
  Dz ka ks (c k) (l.map fun p=>(enc p.1,v p.2))=some ((Bg l k).map v):=by
 induction l with
 | nil=>simp [Dz,Bg]
 | cons p l ih=>
  obtain⟨a,b⟩:=p
  simp only [List.map_cons,Dz,eqK,h1,h2,h3,if_true,Bg]
  by_cases h:k=a
  ·simp [h]
  ·simp only [h,decide_false,if_false];exact ih
theorem Oa {ka:Bool} {ks:List Nat} (enc:α→V) (c:α→List T) (v:β→V) (h1 : ∀a,Bs (cellsV (enc a))=some (c a)) (h2 : ∀a,isAggV (enc a)=ka) (h3 : ∀a b,eqC ks (c a) (c b)=some (decide (a=b))) (k:α) (b:β) (l:List (α×β)) :
  F9 ka ks (c k) (enc k) (v b) (l.map fun p=>(enc p.1,v p.2))=some ((Cc l k b).map fun p=>(enc p.1,v p.2)):=by
 induction l with
 | nil=>simp [F9,Cc]
 | cons p l ih=>
  obtain⟨a,q⟩:=p
  simp only [List.map_cons,F9,eqK,h1,h2,h3,if_true,Cc]
  by_cases h:k=a
  ·simp [h]
  ·simp only [h,decide_false,if_false,ih];simp
end

section
variable {α:Type} [DecidableEq α]
def Cy (l:List α):List (α×Bool):=l.map fun c=>(c,true)
theorem Qo (l:List α) (k:α):Bg (Cy l) k=if k∈l then some true else none:=by
 induction l with
 | nil=>rfl
 | cons x l ih=>
  simp only [Cy,List.map_cons,Bg] at ih ⊢
  by_cases h:k=x
  ·simp [h]
  ·rw [if_neg h,ih];simp [h]
theorem Qp {l:List α} {k:α} (h:k∉l):Cc (Cy l) k true=Cy (l++[k]):=by
 induction l with
 | nil=>rfl
 | cons x l ih=>
  have h1:k≠x:=fun e=>h (by simp [e])
  have:=ih (fun hm=>h (by simp [hm]))
  simp only [Cy,List.map_cons,Cc,List.cons_append] at this ⊢
  rw [if_neg h1,this]
end

abbrev mI {β:Type} (v:β→V) (l:List (Int×β)):List (V×V):=l.map fun p=>(V.t (.int .i64 p.1),v p.2)
abbrev mS {β:Type} (v:β→V) (l:List (List UInt8×β)):List (V×V):=l.map fun p=>(V.t (.str p.1),v p.2)
theorem Md {β:Type} (v:β→V) (k:Int) (l:List (Int×β)):Dz false [1] [T.int .i64 k] (mI v l)=some ((Bg l k).map v):=
 La (fun k=>V.t (.int .i64 k)) (fun k=>[T.int .i64 k]) v (fun _=>rfl) (fun _=>rfl) (fun a b=>by by_cases h:a=b<;>simp [eqC,h]) k l
theorem Vk {β:Type} (v:β→V) (k:Int) (b:β) (l:List (Int×β)):F9 false [1] [T.int .i64 k] (V.t (.int .i64 k)) (v b) (mI v l)=some (mI v (Cc l k b)):=
 Oa (fun k=>V.t (.int .i64 k)) (fun k=>[T.int .i64 k]) v (fun _=>rfl) (fun _=>rfl) (fun a b=>by by_cases h:a=b<;>simp [eqC,h]) k b l
theorem Rs {β:Type} (v:β→V) (k:List UInt8) (l:List (List UInt8×β)):Dz false [2] [T.str k] (mS v l)=some ((Bg l k).map v):=
 La (fun k=>V.t (.str k)) (fun k=>[T.str k]) v (fun _=>rfl) (fun _=>rfl) (fun a b=>by by_cases h:a=b<;>simp [eqC,h]) k l
theorem A1q {β:Type} (v:β→V) (k:List UInt8) (b:β) (l:List (List UInt8×β)):F9 false [2] [T.str k] (V.t (.str k)) (v b) (mS v l)=some (mS v (Cc l k b)):=
 Oa (fun k=>V.t (.str k)) (fun k=>[T.str k]) v (fun _=>rfl) (fun _=>rfl) (fun a b=>by by_cases h:a=b<;>simp [eqC,h]) k b l
theorem C2 {nb nt:Nat} {l:List V} (h : ∀v∈l,okN nb nt v=true):okNs nb nt l=true:=by
 induction l with
 | nil=>rfl
 | cons x l ih=>simp [okNs,h x (by simp),ih fun v hv=>h v (by simp [hv])]

theorem Lb {α:Type} [DecidableEq α] : ∀{l m:List α},l.Nodup→(∀x∈l,x∈m)→l.length≤m.length
 | [],m,_,_=>by simp
 | x::l,m,hn,hs=>by
  obtain⟨h1,h2⟩:=List.nodup_cons.1 hn
  have hx:=hs x (by simp)
  have:=Lb (l:=l) (m:=m.erase x) h2 (fun y hy=>by
   have hne:y≠x:=fun e=>h1 (e▸hy)
   exact (List.mem_erase_of_ne hne).2 (hs y (by simp [hy])))
  rw [List.length_erase_of_mem hx] at this
  have:=List.length_pos_of_mem hx
  simp;omega
@[simp] theorem Yr {α:Type} (l:List α):(Cy l).length=l.length:=by simp [Cy]
@[simp] theorem A37 {α:Type} : Cy ([]:List α)=[]:=rfl
end Go.Proofs.YtmlpmdccfmmpoaaGreatDoor
end
