/- Limbs: plain. -/
import Derived.Test.YtmlpmdccfmmpoaaGreatDoorSye
import Derived.Test.YtmlpmdccfmmpoaaGreatDoorApi
set_option linter.unusedSimpArgs false
set_option linter.unusedVariables false
set_option maxHeartbeats 4000000
set_option maxRecDepth 8000
namespace Go.Proofs.YtmlpmdccfmmpoaaGreatDoor
open E
def Stm.ok (s:Stm):Prop:=s.name.length≤maxLen∧s.ex.ok
def Rul.ok (r:Rul):Prop:=r.name.length≤maxLen∧∀s∈r.stmts,s.ok
theorem Wv:Dn []=false:=rfl
theorem A5a (k a:Int) (n:List UInt8):Ly k a n = !(decide (k<1)||decide (3<k)||((k==1) != (n != []))||((k==1) && !Dn n)||((k==3) && !acB a)||((k != 3)&&(a != 0))):=by
 unfold Ly
 by_cases h1:k=1
 ·subst h1
  cases n with
  | nil=>rw [Wv];simp
  | cons c n=>cases Dn (c::n)<;>simp [bne]
 by_cases h2:k=2
 ·subst h2
  cases n with
  | nil=>simp [bne]
  | cons c n=>simp [bne]
 by_cases h3:k=3
 ·subst h3
  cases n with
  | nil=>cases acB a<;>simp
  | cons c n=>cases acB a<;>simp [bne]
 ·rw [if_neg h1,if_neg h2,if_neg h3]
  have:decide (k<1)=true∨decide (3<k)=true:=by simp;omega
  rcases this with h|h<;>rw [h]<;>simp
theorem Yt (p:List Rul) (hok : ∀r∈p,r.ok) (hc : ∀r∈p,∀s∈r.stmts,s.ex.cnt≤100000):A4 Tryz.prog 74 [Rul.l p] (vB (Ho p)):=by
 generalize hR:vB (Ho p)=R
 unfold Ho at hR
 (refine A4.of_code mix Tryz.call74 k_74 (by simp) (fun hB=>?_);(try simp at hB);(try simp -implicitDefEqProofs))
 refine A9 (X:=Nat) (fun k=>k≤p.length∧∀y∈p.take k,Cs y=true) (fun k=>[(0,Rul.l p),(3,vI k)]) (fun _=>St0) (fun k=>p.length-k) 0 ⟨by simp,by simp⟩ (by simp) ?_
 rintro k ⟨hk,hn⟩ hbd
 rcases Nat.lt_or_ge k p.length with h|h
 ·have hx:p[k]?=some p[k]:=by simp [h]
  have e3:IntKind.i64.wrap ((k:Int)+1)=(k:Int)+1:=wrap64 (by omega) (by simp [maxLen] at hB;omega)
  have hlc:=Og p[k]
  have htc:=Oh p[k]
  have hcs:=hc p[k] (List.getElem_mem h)
  have hoks:=hok p[k] (List.getElem_mem h)
  have hstep:Cs p[k]=true→∃z':Nat,(z'≤p.length∧∀y∈p.take z',Cs y=true)∧p.length-z'<p.length-k∧(z':Int)=(k:Int)+1:=by
   intro hr
   refine⟨k+1,⟨by omega,fun y hy=>?_⟩,by omega,by push_cast;rfl⟩
   rw [Ae hx] at hy
   rcases List.mem_append.1 hy with h1|h1
   ·exact hn y h1
   ·simp at h1;subst h1;exact hr
  have hout:Cs p[k]=false→p.all Cs=false:=by
   intro hr
   rw [List.all_eq_false]
   exact⟨p[k],List.getElem_mem h,by simp [hr]⟩
  have hrul:Cs p[k]=(Dn p[k].name&&decide (p[k].stmts.length≤30)&&acB p[k].to&&p[k].stmts.all Dl):=rfl
  have hcc:p[k].c=[.str p[k].name,.bool p[k].pair,.sl (p[k].stmts.map Stm.c),.int .i64 p[k].to]:=rfl
  have hpk : ∀hlt:k<p.length,(p[k]'hlt)=p[k]:=fun _=>rfl
  generalize hrk:p[k]=r at *
  obtain⟨nm,pr,ss,to⟩:=r
  simp only [] at *
  have h1:=Of nm hoks.1
  have h2:=Ux to
  have hbn:=Dn nm
  generalize hnbe:Dn nm=nb at *
  generalize habe:acB to=ab at *
  by_cases hhd:(nb&&decide (ss.length≤30)&&ab)=true
  ·rw [hhd,Bool.true_and] at hrul
   rw [Bool.and_eq_true,Bool.and_eq_true] at hhd
   obtain⟨⟨rfl,h30⟩,rfl⟩:=hhd
   have h30:=of_decide_eq_true h30
   have h30':decide ((30:Int)<ss.length)=false:=by simp;omega
   ((try simp at h1 h2);(try simp -implicitDefEqProofs [h,hrk,hcc,h30',e3,hlc,htc]);repeat' first|(with_reducible apply A0<;>first|(simp only [eras,era,A1];first|with_reducible assumption)|(simp -implicitDefEqProofs [h,hrk,hcc,h30',e3,hlc,htc])))
   refine A9 (X:=Nat) (fun j=>j≤ss.length∧∀y∈ss.take j,Dl y=true) (fun j=>[(0,Rul.l p),(3,vI k),(4,vI j)]) (fun _=>St0) (fun j=>ss.length-j) 0 ⟨by simp,by simp⟩ (by simp) ?_
   rintro j ⟨hj,hjn⟩ hbd2
   clear hbd2
   rcases Nat.lt_or_ge j ss.length with g|g
   ·have gx:ss[j]?=some ss[j]:=by simp [g]
    have gl:=Js ss[j]
    have gt:=J3 ss[j]
    have gc:=hcs ss[j] (List.getElem_mem g)
    have go:=hoks.2 ss[j] (List.getElem_mem g)
    have gb:ss.length≤30:=h30
    have g3:IntKind.i64.wrap ((j:Int)+1)=(j:Int)+1:=wrap64 (by omega) (by omega)
    have gstep:Dl ss[j]=true→∃z':Nat,(z'≤ss.length∧∀y∈ss.take z',Dl y=true)∧ss.length-z'<ss.length-j∧(z':Int)=(j:Int)+1:=by
     intro hr
     refine⟨j+1,⟨by omega,fun y hy=>?_⟩,by omega,by push_cast;rfl⟩
     rw [Ae gx] at hy
     rcases List.mem_append.1 hy with h1|h1
     ·exact hjn y h1
     ·simp at h1;subst h1;exact hr
    have gout:Dl ss[j]=false→p.all Cs=false:=by
     intro hr
     refine hout ?_
     rw [hrul,List.all_eq_false]
     exact⟨ss[j],List.getElem_mem g,by simp [hr]⟩
    have gcc:ss[j].c=.int .i64 ss[j].kind::.int .i64 ss[j].acc::.str ss[j].name::ss[j].ex.c:=rfl
    have gd:Dl ss[j]=(Ly ss[j].kind ss[j].acc ss[j].name&&decide (ss[j].ex.dep≤30)&&ss[j].ex.prop):=rfl
    generalize gsj:ss[j]=st at *
    obtain⟨sk,sa,sn,sx⟩:=st
    simp only [] at *
    have gnl:sn.length≤maxLen:=go.1
    have gxo:sx.ok:=go.2
    have q1:=Of sn gnl
    have q2:=Ux sa
    have q3:=Ys sx gc
    have q4:=Wu sx gxo
    have ql:=D5 sx
    have qt:=C3 sx
    rw [A5a] at gd
    generalize Dn sn=snb at *
    generalize acB sa=sab at *
    generalize sx.dep=sd at *
    generalize sx.prop=sp at *
    have hcases:sk=1∨sk=2∨sk=3∨((sk==1)=false∧(sk==2)=false∧(sk==3)=false):=by
     simp only [beq_eq_false_iff_ne,ne_eq];omega
    by_cases hs:Dl ⟨sk,sa,sn,sx⟩=true
    ·have gst:=gstep hs
     rw [gd] at hs
     rcases hcases with rfl|rfl|rfl|⟨n1,n2,n3⟩
     ·((try simp at q1 q2 q3 q4);(try simp -implicitDefEqProofs [h,hrk,hcc,g,gsj,gcc,gl,gt,ql,qt,e3,g3,hlc,htc]);repeat' first|((with_reducible first|apply A7|apply A8|apply A3)<;>(intro hc;have hc':=hc;(try simp at hc');simp -implicitDefEqProofs [hc,hc',h,hrk,hcc,g,gsj,gcc,gl,gt,ql,qt,e3,g3,hlc,htc]))|(with_reducible apply A0<;>first|(simp only [eras,era,A1];first|with_reducible assumption)|(simp -implicitDefEqProofs [h,hrk,hcc,g,gsj,gcc,gl,gt,ql,qt,e3,g3,hlc,htc])))
      all_goals (first|exact gst|(exfalso;simp_all;done)|(exfalso;simp_all;omega))
     ·((try simp at q1 q2 q3 q4);(try simp -implicitDefEqProofs [h,hrk,hcc,g,gsj,gcc,gl,gt,ql,qt,e3,g3,hlc,htc]);repeat' first|((with_reducible first|apply A7|apply A8|apply A3)<;>(intro hc;have hc':=hc;(try simp at hc');simp -implicitDefEqProofs [hc,hc',h,hrk,hcc,g,gsj,gcc,gl,gt,ql,qt,e3,g3,hlc,htc]))|(with_reducible apply A0<;>first|(simp only [eras,era,A1];first|with_reducible assumption)|(simp -implicitDefEqProofs [h,hrk,hcc,g,gsj,gcc,gl,gt,ql,qt,e3,g3,hlc,htc])))
      all_goals (first|exact gst|(exfalso;simp_all;done)|(exfalso;simp_all;omega))
     ·((try simp at q1 q2 q3 q4);(try simp -implicitDefEqProofs [h,hrk,hcc,g,gsj,gcc,gl,gt,ql,qt,e3,g3,hlc,htc]);repeat' first|((with_reducible first|apply A7|apply A8|apply A3)<;>(intro hc;have hc':=hc;(try simp at hc');simp -implicitDefEqProofs [hc,hc',h,hrk,hcc,g,gsj,gcc,gl,gt,ql,qt,e3,g3,hlc,htc]))|(with_reducible apply A0<;>first|(simp only [eras,era,A1];first|with_reducible assumption)|(simp -implicitDefEqProofs [h,hrk,hcc,g,gsj,gcc,gl,gt,ql,qt,e3,g3,hlc,htc])))
      all_goals (first|exact gst|(exfalso;simp_all;done)|(exfalso;simp_all;omega))
     ·exfalso
      have:decide (sk<1)=true∨decide (3<sk)=true:=by
       simp only [beq_eq_false_iff_ne,ne_eq] at n1 n2 n3
       simp;omega
      rcases this with e|e<;>(rw [e] at hs;simp at hs)
    ·have hs':Dl ⟨sk,sa,sn,sx⟩=false:=by simpa using hs
     rw [gout hs',Bool.false_and] at hR
     subst hR
     rw [gd] at hs'
     rcases hcases with rfl|rfl|rfl|⟨n1,n2,n3⟩
     ·((try simp at q1 q2 q3 q4);(try simp -implicitDefEqProofs [h,hrk,hcc,g,gsj,gcc,gl,gt,ql,qt,e3,g3,hlc,htc]);repeat' first|((with_reducible first|apply A7|apply A8|apply A3)<;>(intro hc;have hc':=hc;(try simp at hc');simp -implicitDefEqProofs [hc,hc',h,hrk,hcc,g,gsj,gcc,gl,gt,ql,qt,e3,g3,hlc,htc]))|(with_reducible apply A0<;>first|(simp only [eras,era,A1];first|with_reducible assumption)|(simp -implicitDefEqProofs [h,hrk,hcc,g,gsj,gcc,gl,gt,ql,qt,e3,g3,hlc,htc])))
      all_goals (first|(exfalso;simp_all;done)|(exfalso;simp_all;omega))
     ·((try simp at q1 q2 q3 q4);(try simp -implicitDefEqProofs [h,hrk,hcc,g,gsj,gcc,gl,gt,ql,qt,e3,g3,hlc,htc]);repeat' first|((with_reducible first|apply A7|apply A8|apply A3)<;>(intro hc;have hc':=hc;(try simp at hc');simp -implicitDefEqProofs [hc,hc',h,hrk,hcc,g,gsj,gcc,gl,gt,ql,qt,e3,g3,hlc,htc]))|(with_reducible apply A0<;>first|(simp only [eras,era,A1];first|with_reducible assumption)|(simp -implicitDefEqProofs [h,hrk,hcc,g,gsj,gcc,gl,gt,ql,qt,e3,g3,hlc,htc])))
      all_goals (first|(exfalso;simp_all;done)|(exfalso;simp_all;omega))
     ·((try simp at q1 q2 q3 q4);(try simp -implicitDefEqProofs [h,hrk,hcc,g,gsj,gcc,gl,gt,ql,qt,e3,g3,hlc,htc]);repeat' first|((with_reducible first|apply A7|apply A8|apply A3)<;>(intro hc;have hc':=hc;(try simp at hc');simp -implicitDefEqProofs [hc,hc',h,hrk,hcc,g,gsj,gcc,gl,gt,ql,qt,e3,g3,hlc,htc]))|(with_reducible apply A0<;>first|(simp only [eras,era,A1];first|with_reducible assumption)|(simp -implicitDefEqProofs [h,hrk,hcc,g,gsj,gcc,gl,gt,ql,qt,e3,g3,hlc,htc])))
      all_goals (first|(exfalso;simp_all;done)|(exfalso;simp_all;omega))
     ·((try simp at q1 q2 q3 q4);(try simp -implicitDefEqProofs [h,hrk,hcc,g,gsj,gcc,gl,gt,ql,qt,e3,g3,hlc,htc,n1,n2,n3]);repeat' first|((with_reducible first|apply A7|apply A8|apply A3)<;>(intro hc;have hc':=hc;(try simp at hc');simp -implicitDefEqProofs [hc,hc',h,hrk,hcc,g,gsj,gcc,gl,gt,ql,qt,e3,g3,hlc,htc,n1,n2,n3]))|(with_reducible apply A0<;>first|(simp only [eras,era,A1];first|with_reducible assumption)|(simp -implicitDefEqProofs [h,hrk,hcc,g,gsj,gcc,gl,gt,ql,qt,e3,g3,hlc,htc,n1,n2,n3])))
      all_goals (first|(exfalso;simp_all;done)|(exfalso;simp_all;omega))
   ·have:j=ss.length:=by omega
    subst this
    rw [List.take_length] at hjn
    have hst:=hstep (by rw [hrul];exact List.all_eq_true.2 hjn)
    (try simp -implicitDefEqProofs [h,hrk,hcc,e3,hlc,htc])
    exact hst
  ·have hhd':(nb&&decide (ss.length≤30)&&ab)=false:=by simpa using hhd
   rw [hhd',Bool.false_and] at hrul
   rw [hout hrul,Bool.false_and] at hR
   subst hR
   cases nb
   ·((try simp at h1 h2);(try simp -implicitDefEqProofs [h,hrk,hcc,e3,hlc,htc]);repeat' first|(with_reducible apply A0<;>first|(simp only [eras,era,A1];first|with_reducible assumption)|(simp -implicitDefEqProofs [h,hrk,hcc,e3,hlc,htc])))
   ·by_cases h30:ss.length≤30
    ·have h30':decide ((30:Int)<ss.length)=false:=by simp;omega
     have:ab=false:=by simpa [h30] using hhd'
     subst this
     ((try simp at h1 h2);(try simp -implicitDefEqProofs [h,hrk,hcc,h30',e3,hlc,htc]);repeat' first|(with_reducible apply A0<;>first|(simp only [eras,era,A1];first|with_reducible assumption)|(simp -implicitDefEqProofs [h,hrk,hcc,h30',e3,hlc,htc])))
    ·have h30':decide ((30:Int)<ss.length)=true:=by simp;omega
     ((try simp at h1 h2);(try simp -implicitDefEqProofs [h,hrk,hcc,h30',e3,hlc,htc]);repeat' first|(with_reducible apply A0<;>first|(simp only [eras,era,A1];first|with_reducible assumption)|(simp -implicitDefEqProofs [h,hrk,hcc,h30',e3,hlc,htc])))
 ·have:k=p.length:=by omega
  subst this
  rw [List.take_length] at hn
  have hall:p.all Cs=true:=List.all_eq_true.2 hn
  rw [hall,Bool.true_and] at hR
  subst hR
  (try simp -implicitDefEqProofs)
  omega
theorem Stm.ok_of {s:Stm} (h:s.wf):s.ok:=⟨by simpa [inL,maxLen] using h.2.2.1,Xp.ok_of h.2.2.2⟩
theorem Rul.ok_of {r:Rul} (h:r.wf):r.ok:=⟨by simpa [inL,maxLen] using h.1,fun s hs=>Stm.ok_of (h.2.2 s hs)⟩
end Go.Proofs.YtmlpmdccfmmpoaaGreatDoor
section
set_option linter.unusedSimpArgs false
set_option linter.unusedVariables false
namespace Go.Proofs.YtmlpmdccfmmpoaaGreatDoor
open E

section
variable {α β:Type} [DecidableEq α]
def Bf:List (α×β)→α→Option β
 | [],_=>none
 | (a,b)::l,k=>if k=a then some b else Bf l k
def D3:List (α×β)→α→β→List (α×β)
 | [],k,b=>[(k,b)]
 | (a,c)::l,k,b=>if k=a then (k,b)::l else (a,c)::D3 l k b

theorem Jt (l:List (α×β)) (k:α) (b:β) (q:α):Bf (D3 l k b) q=if q=k then some b else Bf l q:=by
 induction l with
 | nil=>simp [D3,Bf]
 | cons p l ih=>
  obtain⟨a,c⟩:=p
  simp only [D3]
  by_cases h:k=a
  ·subst h;rw [if_pos rfl];simp only [Bf];split<;>rfl
  ·rw [if_neg h];simp only [Bf,ih]
   by_cases h2:q=a
   ·subst h2;rw [if_pos rfl,if_neg (Ne.symm h),if_pos rfl]
   ·rw [if_neg h2,if_neg h2]
theorem H0 (l:List (α×β)) (k:α) (b:β):(D3 l k b).length≤l.length+1:=by
 induction l with
 | nil=>simp [D3]
 | cons p l ih=>obtain⟨a,c⟩:=p;simp only [D3];split<;>simp<;>omega

theorem Ni {ka:Bool} {ks:List Nat} (enc:α→V) (c:α→List T) (v:β→V) (h1 : ∀a,Bv (cellsV (enc a))=some (c a)) (h2 : ∀a,isAggV (enc a)=ka) (h3 : ∀a b,eqC ks (c a) (c b)=some (decide (a=b))) (k:α) (l:List (α×β)) :
  F3 ka ks (c k) (l.map fun p=>(enc p.1,v p.2))=some ((Bf l k).map v):=by
 induction l with
 | nil=>simp [F3,Bf]
 | cons p l ih=>
  obtain⟨a,b⟩:=p
  simp only [List.map_cons,F3,eqK,h1,h2,h3,if_true,Bf]
  by_cases h:k=a
  ·simp [h]
  ·simp only [h,decide_false,if_false];exact ih
theorem Qn {ka:Bool} {ks:List Nat} (enc:α→V) (c:α→List T) (v:β→V) (h1 : ∀a,Bv (cellsV (enc a))=some (c a)) (h2 : ∀a,isAggV (enc a)=ka) (h3 : ∀a b,eqC ks (c a) (c b)=some (decide (a=b))) (k:α) (b:β) (l:List (α×β)) :
  Gl ka ks (c k) (enc k) (v b) (l.map fun p=>(enc p.1,v p.2))=some ((D3 l k b).map fun p=>(enc p.1,v p.2)):=by
 induction l with
 | nil=>simp [Gl,D3]
 | cons p l ih=>
  obtain⟨a,q⟩:=p
  simp only [List.map_cons,Gl,eqK,h1,h2,h3,if_true,D3]
  by_cases h:k=a
  ·simp [h]
  ·simp only [h,decide_false,if_false,ih];simp
end

section
variable {α:Type} [DecidableEq α]
def Bp (l:List α):List (α×Bool):=l.map fun c=>(c,true)
theorem Ep (l:List α) (k:α):Bf (Bp l) k=if k∈l then some true else none:=by
 induction l with
 | nil=>rfl
 | cons x l ih=>
  simp only [Bp,List.map_cons,Bf] at ih ⊢
  by_cases h:k=x
  ·simp [h]
  ·rw [if_neg h,ih];simp [h]
theorem I5 {l:List α} {k:α} (h:k∉l):D3 (Bp l) k true=Bp (l++[k]):=by
 induction l with
 | nil=>rfl
 | cons x l ih=>
  have h1:k≠x:=fun e=>h (by simp [e])
  have:=ih (fun hm=>h (by simp [hm]))
  simp only [Bp,List.map_cons,D3,List.cons_append] at this ⊢
  rw [if_neg h1,this]
end

abbrev mI {β:Type} (v:β→V) (l:List (Int×β)):List (V×V):=l.map fun p=>(V.t (.int .i64 p.1),v p.2)
abbrev mS {β:Type} (v:β→V) (l:List (List UInt8×β)):List (V×V):=l.map fun p=>(V.t (.str p.1),v p.2)
theorem Oi {β:Type} (v:β→V) (k:Int) (l:List (Int×β)):F3 false [1] [T.int .i64 k] (mI v l)=some ((Bf l k).map v):=
 Ni (fun k=>V.t (.int .i64 k)) (fun k=>[T.int .i64 k]) v (fun _=>rfl) (fun _=>rfl) (fun a b=>by by_cases h:a=b<;>simp [eqC,h]) k l
theorem Yu {β:Type} (v:β→V) (k:Int) (b:β) (l:List (Int×β)):Gl false [1] [T.int .i64 k] (V.t (.int .i64 k)) (v b) (mI v l)=some (mI v (D3 l k b)):=
 Qn (fun k=>V.t (.int .i64 k)) (fun k=>[T.int .i64 k]) v (fun _=>rfl) (fun _=>rfl) (fun a b=>by by_cases h:a=b<;>simp [eqC,h]) k b l
theorem He {β:Type} (v:β→V) (k:List UInt8) (l:List (List UInt8×β)):F3 false [2] [T.str k] (mS v l)=some ((Bf l k).map v):=
 Ni (fun k=>V.t (.str k)) (fun k=>[T.str k]) v (fun _=>rfl) (fun _=>rfl) (fun a b=>by by_cases h:a=b<;>simp [eqC,h]) k l
theorem Oj {β:Type} (v:β→V) (k:List UInt8) (b:β) (l:List (List UInt8×β)):Gl false [2] [T.str k] (V.t (.str k)) (v b) (mS v l)=some (mS v (D3 l k b)):=
 Qn (fun k=>V.t (.str k)) (fun k=>[T.str k]) v (fun _=>rfl) (fun _=>rfl) (fun a b=>by by_cases h:a=b<;>simp [eqC,h]) k b l
theorem At {nb nt:Nat} {l:List V} (h : ∀v∈l,okN nb nt v=true):okNs nb nt l=true:=by
 induction l with
 | nil=>rfl
 | cons x l ih=>simp [okNs,h x (by simp),ih fun v hv=>h v (by simp [hv])]

theorem Nj {α:Type} [DecidableEq α] : ∀{l m:List α},l.Nodup→(∀x∈l,x∈m)→l.length≤m.length
 | [],m,_,_=>by simp
 | x::l,m,hn,hs=>by
  obtain⟨h1,h2⟩:=List.nodup_cons.1 hn
  have hx:=hs x (by simp)
  have:=Nj (l:=l) (m:=m.erase x) h2 (fun y hy=>by
   have hne:y≠x:=fun e=>h1 (e▸hy)
   exact (List.mem_erase_of_ne hne).2 (hs y (by simp [hy])))
  rw [List.length_erase_of_mem hx] at this
  have:=List.length_pos_of_mem hx
  simp;omega
@[simp] theorem A23 {α:Type} (l:List α):(Bp l).length=l.length:=by simp [Bp]
@[simp] theorem A6t {α:Type} : Bp ([]:List α)=[]:=rfl
end Go.Proofs.YtmlpmdccfmmpoaaGreatDoor
end
namespace Go.Proofs.YtmlpmdccfmmpoaaGreatDoor
open E
def lvl (B:Nat):List Nat→Nat
 | []=>0
 | x::l=>x+B*lvl B l
def Aa (B n:Nat):List Nat:=if h:n=0∨B<2 then [] else n % B::Aa B (n / B)
termination_by n
decreasing_by exact Nat.div_lt_self (by omega) (by omega)
def Lim (B:Nat) (l:List Nat):Prop:=∀x∈l,x<B
theorem Az (B:Nat):Aa B 0=[]:=by rw [Aa];simp
theorem D8 {B n:Nat} (hB:2≤B) (hn:n≠0):Aa B n=n % B::Aa B (n / B):=by
 rw [Aa,dif_neg (by omega)]
theorem I6 {B n:Nat} (hn:0<n) (h:n<B):Aa B n=[n]:=by
 rw [D8 (by omega) (by omega),Nat.mod_eq_of_lt h,Nat.div_eq_of_lt h,Az]
theorem An {B:Nat} (hB:2≤B) (n:Nat):lvl B (Aa B n)=n:=by
 induction n using Nat.strongRecOn with
 | _ n ih=>
  by_cases hn:n=0
  ·subst hn;rw [Az];rfl
  ·rw [D8 hB hn,lvl,ih _ (Nat.div_lt_self (by omega) (by omega))]
   have:=Nat.mod_add_div n B
   omega
theorem Ap {B:Nat} (hB:2≤B) (n:Nat):Lim B (Aa B n):=by
 induction n using Nat.strongRecOn with
 | _ n ih=>
  by_cases hn:n=0
  ·subst hn;rw [Az];intro x hx;simp at hx
  ·rw [D8 hB hn]
   intro x hx
   rcases List.mem_cons.1 hx with rfl|hx
   ·exact Nat.mod_lt _ (by omega)
   ·exact ih _ (Nat.div_lt_self (by omega) (by omega)) x hx
theorem Cf (B:Nat) (a b:List Nat):lvl B (a++b)=lvl B a+B ^ a.length*lvl B b:=by
 induction a with
 | nil=>simp [lvl]
 | cons x l ih=>
  rw [List.cons_append,lvl,lvl,ih,Nat.mul_add,←Nat.mul_assoc,List.length_cons,Nat.pow_succ]
  rw [Nat.mul_comm (B ^ l.length) B];omega
theorem Ju (B n:Nat):lvl B (List.replicate n 0)=0:=by
 induction n with
 | zero=>rfl
 | succ n ih=>rw [List.replicate_succ,lvl,ih];simp
theorem Jv {B:Nat} {l:List Nat} (h:Lim B l):lvl B l<B ^ l.length:=by
 induction l with
 | nil=>simp [lvl]
 | cons x l ih=>
  have h1:=h x (by simp)
  have h2:=ih fun y hy=>h y (by simp [hy])
  rw [lvl,List.length_cons,Nat.pow_succ]
  have h3:B*(lvl B l+1)≤B*B ^ l.length:=Nat.mul_le_mul_left _ h2
  rw [Nat.mul_add,Nat.mul_comm B (B ^ l.length)] at h3
  omega
theorem Ww {B:Nat} (hB:2≤B) {l:List Nat} (h:Lim B l) (hl : ∀x,l.getLast?=some x→x≠0):Aa B (lvl B l)=l:=by
 induction l with
 | nil=>exact Az B
 | cons x l ih=>
  have h1:=h x (by simp)
  have ih':=ih (fun y hy=>h y (by simp [hy])) (fun y hy=>hl y (by
   cases l with
   | nil=>simp at hy
   | cons z l=>rw [List.getLast?_cons_cons];exact hy))
  have hne:lvl B (x::l)≠0:=by
   intro e
   rw [lvl] at e
   have e1:x=0:=by omega
   have e2:B*lvl B l=0:=by omega
   have e3:lvl B l=0:=by rcases Nat.mul_eq_zero.1 e2 with h|h<;>omega
   rw [e3,Az] at ih'
   subst ih'
   exact hl x rfl e1
  rw [D8 hB hne,lvl,Nat.add_mul_mod_self_left,Nat.mod_eq_of_lt h1,Nat.add_mul_div_left _ _ (by omega),Nat.div_eq_of_lt h1,Nat.zero_add,ih']
theorem Hf {B:Nat} (hB:2≤B) {l:List Nat} (h:Lim B l) (k:Nat) (hk:k≤l.length) (hz : ∀j,k≤j→j<l.length→l[j]?=some 0) (hl:k=0∨l[k-1]?≠some 0):Aa B (lvl B l)=l.take k:=by
 have e:l=l.take k++List.replicate (l.length-k) 0:=by
  apply List.ext_getElem?
  intro j
  by_cases hj:j<k
  ·rw [List.getElem?_append_left (by simp;omega),List.getElem?_take,if_pos hj]
  ·rw [List.getElem?_append_right (by simp;omega)]
   by_cases hj2:j<l.length
   ·rw [hz j (by omega) hj2,List.getElem?_replicate,if_pos (by simp;omega)]
   ·rw [List.getElem?_eq_none (by omega),List.getElem?_eq_none (by simp;omega)]
 have e2:lvl B l=lvl B (l.take k):=by
  conv=>lhs;rw [e,Cf,Ju]
  simp
 rw [e2]
 refine Ww hB (fun x hx=>h x (List.mem_of_mem_take hx)) ?_
 intro x hx hx0
 subst hx0
 rcases hl with rfl|hl
 ·simp at hx
 ·apply hl
  rw [List.getLast?_eq_getElem?,List.length_take,Nat.min_eq_left hk] at hx
  by_cases hk0:k=0
  ·subst hk0;simp at hx
  ·rw [List.getElem?_take,if_pos (by omega)] at hx
   exact hx
theorem Cu {B n k:Nat} (hB:2≤B) (h:n<B ^ k):(Aa B n).length≤k:=by
  induction k generalizing n with
  | zero => rw [Nat.pow_zero] at h; have : n = 0 := by omega
            subst this;rw [Az];simp
  | succ k ih=>
    by_cases hn:n=0
    · subst hn;rw [Az];simp
    · rw [D8 hB hn,List.length_cons]
      have:n / B<B ^ k:=by
        rw [Nat.div_lt_iff_lt_mul (by omega),←Nat.pow_succ];exact h
      have:=ih this
      omega
theorem Fa {B a b:Nat} (hB:2≤B) (h:a≤b):(Aa B a).length≤(Aa B b).length:=by
 apply Cu hB
 have h1:=Jv (Ap hB b)
 rw [An hB] at h1
 omega
theorem Er {B a b:Nat} (hB:2≤B) (h:(Aa B a).length<(Aa B b).length):a<b:=by
 rcases Nat.lt_or_ge a b with h1|h1
 ·exact h1
 ·have:=Fa hB h1;omega
theorem V2 {B:Nat} {a b:List Nat} (ha:Lim B a) (hl:a.length=b.length) (k:Nat) (hk:k<a.length) (he : ∀j,k<j→a[j]?=b[j]?) {x y:Nat} (hx:a[k]?=some x) (hy:b[k]?=some y) (hxy:x<y):lvl B a<lvl B b:=by
 have e1 : ∀(l:List Nat) (z:Nat),l[k]?=some z→l=l.take k++z::l.drop (k+1):=by
  intro l z hz
  have hlt:k<l.length:=by
   rcases Nat.lt_or_ge k l.length with h|h
   ·exact h
   ·rw [List.getElem?_eq_none h] at hz;cases hz
  have:l[k]=z:=by rw [List.getElem?_eq_getElem hlt] at hz;exact Option.some.inj hz
  rw [←this,←List.drop_eq_getElem_cons hlt,List.take_append_drop]
 have e2:a.drop (k+1)=b.drop (k+1):=by
  apply List.ext_getElem?
  intro j
  rw [List.getElem?_drop,List.getElem?_drop]
  exact he _ (by omega)
 rw [e1 a x hx,e1 b y hy,e2,Cf,Cf,lvl,lvl]
 have h1:lvl B (a.take k)<B ^ k:=by
  have:=Jv (B:=B) (l:=a.take k) fun z hz=>ha z (List.mem_of_mem_take hz)
  rwa [List.length_take,Nat.min_eq_left (by omega)] at this
 have hbk:(b.take k).length=k:=by rw [List.length_take];omega
 have hak:(a.take k).length=k:=by rw [List.length_take];omega
 rw [hak,hbk]
 generalize lvl B (b.drop (k+1))=d
 have h2:B ^ k*(x+1+B*d)≤B ^ k*(y+B*d):=Nat.mul_le_mul_left _ (by omega)
 have h3:B ^ k*(x+1+B*d)=B ^ k*(x+B*d)+B ^ k:=by
  rw [show x+1+B*d=(x+B*d)+1 by omega,Nat.mul_add,Nat.mul_one]
 omega
theorem L3 {B:Nat} : ∀{l:List Nat} {j v w:Nat},l[j]?=some w→lvl B (l.set j v)+B ^ j*w=lvl B l+B ^ j*v
 | [],_,_,_,h=>by simp at h
 | x::l,0,v,w,h=>by simp at h;subst h;simp [lvl];omega
 | x::l,j+1,v,w,h=>by
  have h1:=L3 (B:=B) (l:=l) (j:=j) (v:=v) (w:=w) (by simpa using h)
  simp only [List.set_cons_succ,lvl]
  have h2:B*(lvl B (l.set j v)+B ^ j*w)=B*(lvl B l+B ^ j*v):=by rw [h1]
  rw [Nat.mul_add,Nat.mul_add,←Nat.mul_assoc,←Nat.mul_assoc] at h2
  rw [Nat.pow_succ,Nat.mul_comm (B ^ j) B]
  omega
theorem As {B:Nat} {l:List Nat} {k x:Nat} (h:l[k]?=some x):lvl B (l.take (k+1))=lvl B (l.take k)+B ^ k*x:=by
 have hlt:=(List.getElem?_eq_some_iff.1 h).1
 rw [Ae h,Cf,List.length_take,Nat.min_eq_left (by omega)]
 simp [lvl]
theorem D9 {B:Nat} {l:List Nat} {k x:Nat} (h:l[k]?=some x):lvl B (l.drop k)=x+B*lvl B (l.drop (k+1)):=by
 obtain⟨hlt,he⟩:=List.getElem?_eq_some_iff.1 h
 rw [List.drop_eq_getElem_cons hlt,lvl,he]
theorem Ek (B:Nat) (l:List Nat) {k:Nat} (hk:k≤l.length):lvl B l=lvl B (l.take k)+B ^ k*lvl B (l.drop k):=by
 have:=Cf B (l.take k) (l.drop k)
 rwa [List.take_append_drop,List.length_take,Nat.min_eq_left hk] at this
theorem Lim.set {B:Nat} {l:List Nat} (h:Lim B l) {v:Nat} (hv:v<B) (j:Nat):Lim B (l.set j v):=fun x hx=>by
 rcases List.mem_or_eq_of_mem_set hx with h1|h1
 ·exact h x h1
 ·exact h1▸hv
theorem Lim.app {B:Nat} {a b:List Nat} (ha:Lim B a) (hb:Lim B b):Lim B (a++b):=fun x hx=>by
 rcases List.mem_append.1 hx with h|h
 ·exact ha x h
 ·exact hb x h
theorem Lim.take {B:Nat} {l:List Nat} (h:Lim B l) (k:Nat):Lim B (l.take k):=fun x hx=>h x (List.mem_of_mem_take hx)
theorem Lim.drop {B:Nat} {l:List Nat} (h:Lim B l) (k:Nat):Lim B (l.drop k):=fun x hx=>h x (List.mem_of_mem_drop hx)
theorem Lim.one {B x:Nat} (h:x<B):Lim B [x]:=fun y hy=>by simp at hy;omega
theorem Lim.zeros {B:Nat} (hB:0<B) (n:Nat):Lim B (List.replicate n 0):=fun x hx=>by rw [(List.mem_replicate.1 hx).2];exact hB
theorem Lim.at {B:Nat} {l:List Nat} (h:Lim B l) {k x:Nat} (hx:l[k]?=some x):x<B:=h x (List.mem_of_getElem? hx)
def D4 (x y:Nat):Int:=if x<y then -1 else if y<x then 1 else 0
theorem Qo {B:Nat} (hB:2≤B) {x y:Nat} (hl:(Aa B x).length=(Aa B y).length) (k:Nat) (he : ∀j,k<j→(Aa B x)[j]?=(Aa B y)[j]?) {u v:Nat} (hu:(Aa B x)[k]?=some u) (hv:(Aa B y)[k]?=some v) (hne:u≠v):D4 x y=if u<v then -1 else 1:=by
 have hk:=(List.getElem?_eq_some_iff.1 hu).1
 have h1:=fun h=>V2 (Ap hB x) hl k hk he hu hv h
 have h2:=fun h=>V2 (Ap hB y) hl.symm k (by omega) (fun j hj=>(he j hj).symm) hv hu h
 rw [An hB,An hB] at h1 h2
 unfold D4
 by_cases h:u<v
 ·rw [if_pos (h1 h),if_pos h]
 ·have h3:=h2 (by omega)
  rw [if_neg (by omega),if_pos h3,if_neg h]
theorem Qp {B:Nat} (hB:2≤B) {x y:Nat} (hl:(Aa B x).length≠(Aa B y).length):D4 x y=if (Aa B x).length<(Aa B y).length then -1 else 1:=by
 unfold D4
 by_cases h:(Aa B x).length<(Aa B y).length
 ·rw [if_pos (Er hB h),if_pos h]
 ·have:=Er hB (a:=y) (b:=x) (by omega)
  rw [if_neg (by omega),if_pos this,if_neg h]
theorem Qq {B:Nat} (hB:2≤B) {x y:Nat} (h:Aa B x=Aa B y):D4 x y=0:=by
 have:x=y:=by rw [←An hB x,←An hB y,h]
 subst this
 simp [D4]
def pad (B k n:Nat):List Nat:=(List.range k).map fun i=>n / B ^ i % B
@[simp] theorem A24 (B k n:Nat):(pad B k n).length=k:=by simp [pad]
theorem A25 {B k n i:Nat} (h:i<k):(pad B k n)[i]?=some (n / B ^ i % B):=by simp [pad,h]
theorem Ol {B:Nat} (hB:0<B) (k n:Nat):Lim B (pad B k n):=fun x hx=>by
 obtain⟨i,_,rfl⟩:=List.mem_map.1 hx
 exact Nat.mod_lt _ hB
theorem Yv {B:Nat} (hB:0<B) : ∀{l:List Nat} {i x:Nat},Lim B l→l[i]?=some x→lvl B l / B ^ i % B=x
 | [],i,x,_,h=>by simp at h
 | y::l,0,x,hL,h=>by
  simp at h
  subst h
  rw [Nat.pow_zero,Nat.div_one,lvl,Nat.add_mul_mod_self_left,Nat.mod_eq_of_lt (hL y (by simp))]
 | y::l,i+1,x,hL,h=>by
  have h1:=Yv hB (l:=l) (i:=i) (x:=x) (fun z hz=>hL z (by simp [hz])) (by simpa using h)
  rw [lvl,Nat.pow_succ,Nat.mul_comm (B ^ i) B,←Nat.div_div_eq_div_mul,Nat.add_mul_div_left _ _ hB,Nat.div_eq_of_lt (hL y (by simp)),Nat.zero_add,h1]
theorem Lz {B k n:Nat} {l:List Nat} (hB:0<B) (h:Lim B l) (hl:l.length=k) (hv:lvl B l=n):l=pad B k n:=by
 subst hl hv
 apply List.ext_getElem?
 intro i
 rcases Nat.lt_or_ge i l.length with hi|hi
 ·rw [A25 hi,Yv hB h (List.getElem?_eq_getElem hi),List.getElem?_eq_getElem hi]
 ·rw [List.getElem?_eq_none hi,List.getElem?_eq_none (by simpa using hi)]
theorem L4 {B:Nat} (hB:0<B) (k n:Nat):lvl B (pad B k n)=n % B ^ k:=by
 induction k with
 | zero=>simp [pad,lvl,Nat.mod_one]
 | succ k ih=>
  have e:pad B (k+1) n=pad B k n++[n / B ^ k % B]:=by simp [pad,List.range_succ]
  rw [e,Cf,ih,A24,lvl,lvl,Nat.mul_zero,Nat.add_zero,Nat.pow_succ,Nat.mod_mul]
theorem Wx {B:Nat} (hB:2≤B) (i:Nat) : ∀n,(Aa B n).drop i=Aa B (n / B ^ i):=by
 induction i with
 | zero=>intro n;simp
 | succ i ih=>
  intro n
  by_cases hn:n=0
  ·subst hn;simp [Az]
  ·rw [D8 hB hn,List.drop_succ_cons,ih,Nat.div_div_eq_div_mul,Nat.pow_succ,Nat.mul_comm]
theorem Hg {B:Nat} (hB:2≤B) (n:Nat):n<B ^ (Aa B n).length:=by
 have:=Jv (Ap hB n)
 rwa [An hB] at this
theorem Nk (B p n:Nat):B ^ p*n=B ^ p*(n % B)+n / B*B ^ (p+1):=by
 have h:=Nat.mod_add_div n B
 have h2:B ^ p*(n % B+B*(n / B))=B ^ p*(n % B)+n / B*B ^ (p+1):=by
  rw [Nat.mul_add,←Nat.mul_assoc,←Nat.pow_succ,Nat.mul_comm (B ^ (p+1))]
 rw [←h2,h]
theorem Yw {B p m u c L:Nat} {o:List Nat} (ho:o[p]?=some u) (E:lvl B o+c*B ^ p=L):lvl B (o.set p ((m+u+c) % B))+(m+u+c) / B*B ^ (p+1)=L+B ^ p*m:=by
 have h1:=L3 (B:=B) (v:=(m+u+c) % B) ho
 have h2:=Nk B p (m+u+c)
 rw [Nat.mul_add,Nat.mul_add,Nat.mul_comm (B ^ p) c] at h2
 omega
theorem M0 {B i x y c L:Nat} {o:List Nat} (hl:o.length=i) (E:lvl B o+c*B ^ i=L):lvl B (o++[(c+x+y) % B])+(c+x+y) / B*B ^ (i+1)=L+B ^ i*(x+y):=by
 have h2:=Nk B i (c+x+y)
 rw [show c+x+y=c+(x+y) by omega] at h2 ⊢
 rw [Nat.mul_add,Nat.mul_comm (B ^ i) c] at h2
 rw [Cf,hl,lvl,lvl,Nat.mul_zero,Nat.add_zero]
 omega
theorem Yx {B i x y r r' d LA LB:Nat} {o:List Nat} (hl:o.length=i) (E:lvl B o+LB=LA+r*B ^ i) (hd:d+r+y=x+r'*B):lvl B (o++[d])+(LB+B ^ i*y)=LA+B ^ i*x+r'*B ^ (i+1):=by
 have hd':=hd
 have h3:B ^ i*(d+r+y)=B ^ i*x+r'*B ^ (i+1):=by
  rw [hd',Nat.mul_add,Nat.pow_succ,←Nat.mul_assoc,Nat.mul_comm (B ^ i) r',Nat.mul_assoc]
 rw [Nat.mul_add,Nat.mul_add,Nat.mul_comm (B ^ i) r] at h3
 rw [Cf,hl,lvl,lvl,Nat.mul_zero,Nat.add_zero]
 omega
theorem M3 {B d r x Q A:Nat} (hd:0<d) (hr:r<d) (hA:A=d*Q+r):(x+B*A) / d=(r*B+x) / d+B*Q∧(x+B*A) % d=(r*B+x) % d:=by
 have e:x+B*A=(r*B+x)+d*(B*Q):=by
  rw [hA,Nat.mul_add,Nat.mul_comm B r,←Nat.mul_assoc,Nat.mul_comm B d,Nat.mul_assoc];omega
 rw [e,Nat.add_mul_div_left _ _ hd,Nat.add_mul_mod_self_left]
 exact⟨rfl,rfl⟩
theorem To {B d r x:Nat} (hd:0<d) (hr:r<d) (hx:x<B):(r*B+x) / d<B:=by
 rw [Nat.div_lt_iff_lt_mul hd]
 have:(r+1)*B≤d*B:=Nat.mul_le_mul_right _ hr
 rw [Nat.add_mul,Nat.one_mul] at this
 rw [Nat.mul_comm B d]
 omega
theorem Db {l:List Nat} {i v:Nat} (h:i<l.length):(l.set i v).drop i=v::l.drop (i+1):=by
 rw [List.drop_set,if_neg (by omega),Nat.sub_self,List.drop_eq_getElem_cons h];rfl
def Hp (B a b:Nat):List Nat:=
 let k:=max (Aa B a).length (Aa B b).length
 if a+b<B ^ k then pad B k (a+b) else pad B (k+1) (a+b)
theorem Qr {B:Nat} (hB:0<B) (a b:Nat):Lim B (Hp B a b):=by
 unfold Hp;simp only [];split<;>exact Ol hB _ _
theorem Yy {B:Nat} (hB:2≤B) (a b:Nat):a+b<B ^ (max (Aa B a).length (Aa B b).length+1):=by
 have h1:=Hg hB a
 have h2:=Hg hB b
 have h3:B ^ (Aa B a).length≤B ^ max (Aa B a).length (Aa B b).length:=Nat.pow_le_pow_right (by omega) (by omega)
 have h4:B ^ (Aa B b).length≤B ^ max (Aa B a).length (Aa B b).length:=Nat.pow_le_pow_right (by omega) (by omega)
 have h5:B ^ max (Aa B a).length (Aa B b).length*2≤B ^ max (Aa B a).length (Aa B b).length*B:=Nat.mul_le_mul_left _ hB
 rw [Nat.pow_succ]
 omega
theorem Qs {B:Nat} (hB:2≤B) (a b:Nat):lvl B (Hp B a b)=a+b:=by
 unfold Hp;simp only [];split
 ·rename_i h;rw [L4 (by omega),Nat.mod_eq_of_lt h]
 ·rw [L4 (by omega),Nat.mod_eq_of_lt (Yy hB a b)]
def Wy (B a b:Nat):List Nat:=pad B ((Aa B a).length+(Aa B b).length) (a*b)
theorem A5b {B:Nat} (hB:2≤B) (a b:Nat):a*b<B ^ ((Aa B a).length+(Aa B b).length):=by
 rw [Nat.pow_add]
 have h1:=Hg hB a
 have h2:=Hg hB b
 rcases Nat.eq_zero_or_pos b with h|h
 ·subst h;rw [Nat.mul_zero];exact Nat.mul_pos (Nat.pow_pos (by omega)) (Nat.pow_pos (by omega))
 ·exact Nat.lt_of_lt_of_le (Nat.mul_lt_mul_of_pos_right h1 h) (Nat.mul_le_mul_left _ (Nat.le_of_lt h2))
theorem Yz {B:Nat} (hB:2≤B) (a b:Nat):lvl B (Wy B a b)=a*b:=by
 unfold Wy;rw [L4 (by omega),Nat.mod_eq_of_lt (A5b hB a b)]
def Tp (B a d:Nat):List Nat:=pad B (Aa B a).length (a / d)
theorem Z0 {B:Nat} (hB:2≤B) (a d:Nat):lvl B (Tp B a d)=a / d:=by
 unfold Tp;rw [L4 (by omega),Nat.mod_eq_of_lt (Nat.lt_of_le_of_lt (Nat.div_le_self _ _) (Hg hB a))]
def Om (B a d:Nat):List Nat:=if a<d then [] else Tp B a d
def On (B a d:Nat):List Nat:=if a<d then Aa B a else [a % d]
theorem Z1 {B:Nat} (hB:2≤B) (a d:Nat):lvl B (Om B a d)=a / d:=by
 unfold Om;split
 ·rename_i h;rw [Nat.div_eq_of_lt h];rfl
 ·exact Z0 hB a d
theorem Qt {B:Nat} (hB:2≤B) (a d:Nat):lvl B (On B a d)=a % d:=by
 unfold On;split
 ·rename_i h;rw [Nat.mod_eq_of_lt h,An hB]
 ·simp [lvl]
theorem Z2 {B:Nat} (hB:0<B) (a d:Nat):Lim B (Om B a d):=by
 unfold Om;split
 ·intro x hx;simp at hx
 ·exact Ol hB _ _
theorem Qu {B:Nat} (hB:2≤B) {a d:Nat} (h0:0<d) (hd:d<B):Lim B (On B a d):=by
 unfold On;split
 ·exact Ap hB a
 ·exact Lim.one (Nat.lt_trans (Nat.mod_lt _ h0) hd)
end Go.Proofs.YtmlpmdccfmmpoaaGreatDoor
