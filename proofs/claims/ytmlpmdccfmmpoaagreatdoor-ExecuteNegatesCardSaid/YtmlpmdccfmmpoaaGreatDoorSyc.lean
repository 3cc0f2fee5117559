/- Chapter 32: proper expressions. -/
import Derived.Test.YtmlpmdccfmmpoaaGreatDoorSya
set_option linter.unusedSimpArgs false
set_option linter.unusedVariables false
set_option maxHeartbeats 4000000
set_option maxRecDepth 8000
namespace Go.Proofs.YtmlpmdccfmmpoaaGreatDoor
open E
structure Stm where
 kind:Int
 acc:Int
 name:List UInt8
 ex:Xp
def Stm.c (x:Stm):List T:=.int .i64 x.kind::.int .i64 x.acc::.str x.name::x.ex.c
abbrev Stm.v (x:Stm):V:=.agg (x.c.map .t)
abbrev Stm.l (l:List Stm):V:=.t (.sl (l.map Stm.c))
theorem M6 (x:Stm):x.c.length=9:=by simp [Stm.c,Du]
theorem L6 (x:Stm):List.take 9 (x.c.map V.t)=x.c.map V.t:=List.take_of_length_le (by simp [M6])
structure Rul where
 name:List UInt8
 pair:Bool
 stmts:List Stm
 to:Int
def Rul.c (x:Rul):List T:=[.str x.name,.bool x.pair,.sl (x.stmts.map Stm.c),.int .i64 x.to]
abbrev Rul.v (x:Rul):V:=.agg (x.c.map .t)
abbrev Rul.l (l:List Rul):V:=.t (.sl (l.map Rul.c))
theorem U0 (x:Rul):x.c.length=4:=by simp [Rul.c]
theorem V8 (x:Rul):List.take 4 (x.c.map V.t)=x.c.map V.t:=List.take_of_length_le (by simp [U0])

theorem A53 (S:St) (hS:OkS S) (l:List Xp) (f:Nat) (caps:List V) (hcp:okNs S.boxes.length S.toks.length caps=true) (q:Xp→Bool) (h : ∀x∈l,FnS Tryz.prog f (Xp.v x::caps) S (.t (.bool (q x))) S) :
  FnS Tryz.prog 207 [Xp.l l,.fn (.func f) caps] S (.t (.int .i64 (Ix q l))) S:=by
 (refine FnS.of_code mix Tryz.call207 k_207 (by simp) (fun hB=>?_);(try simp at hB);(try simp -implicitDefEqProofs))
 refine A7 (X:=Nat) (fun k=>k≤l.length∧∀y∈l.take k,q y=false) (fun k=>[(0,Xp.l l),(1,.fn (.func f) caps),(7,vI l.length),(8,vI k)]) (fun _=>S) (fun k=>l.length-k) 0 ⟨by simp,by simp⟩ ?_ ?_
 ·have:=hS;simp [OkS] at this;simp [this,hcp]
 rintro k ⟨hk,hn⟩ hbd
 rcases Nat.lt_or_ge k l.length with hlt|hge
 ·have hx:l[k]?=some l[k]:=by simp [hlt]
  have hc:=h l[k] (List.getElem_mem hlt)
  have e3:IntKind.i64.wrap ((k:Int)+1)=(k:Int)+1:=wrap64 (by omega) (by simp [maxLen] at hB;omega)
  have hlc:=Du l[k]
  have htc:=Cw l[k]
  cases hq:q l[k]
  ·rw [hq] at hc
   (try simp -implicitDefEqProofs [hlt,e3,hlc,htc])
   refine Ab hc ?_
   (try simp -implicitDefEqProofs [hlt,e3])
   have hS':=hS
   simp [OkS] at hS'
   refine⟨k+1,⟨by omega,fun y hy=>?_⟩,by omega,?_⟩
   ·rw [Ag hx] at hy
    rcases List.mem_append.1 hy with h1|h1
    ·exact hn y h1
    ·simp at h1;subst h1;exact hq
   ·simp [hS',hcp];try omega
  ·rw [hq] at hc
   rw [Iy hx hn hq]
   (try simp -implicitDefEqProofs [hlt,e3,hlc,htc])
   refine Ab hc ?_
   have hS':=hS
   simp [OkS] at hS'
   (try simp -implicitDefEqProofs [hlt,e3,hS'])
 ·have:k=l.length:=by omega
  subst this
  rw [List.take_length] at hn
  rw [Gv hn]
  have hS':=hS
  simp [OkS] at hS'
  (try simp -implicitDefEqProofs [hS'])
theorem A54 (S:St) (hS:OkS S) (l:List Xp) (f:Nat) (caps:List V) (hcp:okNs S.boxes.length S.toks.length caps=true) (q:Xp→Bool) (h : ∀x∈l,FnS Tryz.prog f (Xp.v x::caps) S (.t (.bool (q x))) S) :
  FnS Tryz.prog 171 [Xp.l l,.fn (.func f) caps] S (.t (.bool (l.any q))) S:=by
 have hi:=A53 S hS l f caps hcp q h
 rw [←Gw]
 generalize Ix q l=r at *
 (refine FnS.of_code mix Tryz.call171 k_171 (by simp) (fun hB=>?_);(try simp at hB);(try simp -implicitDefEqProofs))
 refine Ab hi ?_
 have hS':=hS
 simp [OkS] at hS'
 (try simp -implicitDefEqProofs [hS'])

theorem A55 (S:St) (hS:OkS S) (l:List Stm) (f:Nat) (caps:List V) (hcp:okNs S.boxes.length S.toks.length caps=true) (q:Stm→Bool) (h : ∀x∈l,FnS Tryz.prog f (Stm.v x::caps) S (.t (.bool (q x))) S) :
  FnS Tryz.prog 136 [Stm.l l,.fn (.func f) caps] S (.t (.int .i64 (Ix q l))) S:=by
 (refine FnS.of_code mix Tryz.call136 k_136 (by simp) (fun hB=>?_);(try simp at hB);(try simp -implicitDefEqProofs))
 refine A7 (X:=Nat) (fun k=>k≤l.length∧∀y∈l.take k,q y=false) (fun k=>[(0,Stm.l l),(1,.fn (.func f) caps),(7,vI l.length),(8,vI k)]) (fun _=>S) (fun k=>l.length-k) 0 ⟨by simp,by simp⟩ ?_ ?_
 ·have:=hS;simp [OkS] at this;simp [this,hcp]
 rintro k ⟨hk,hn⟩ hbd
 rcases Nat.lt_or_ge k l.length with hlt|hge
 ·have hx:l[k]?=some l[k]:=by simp [hlt]
  have hc:=h l[k] (List.getElem_mem hlt)
  have e3:IntKind.i64.wrap ((k:Int)+1)=(k:Int)+1:=wrap64 (by omega) (by simp [maxLen] at hB;omega)
  have hlc:=M6 l[k]
  have htc:=L6 l[k]
  cases hq:q l[k]
  ·rw [hq] at hc
   (try simp -implicitDefEqProofs [hlt,e3,hlc,htc])
   refine Ab hc ?_
   (try simp -implicitDefEqProofs [hlt,e3])
   have hS':=hS
   simp [OkS] at hS'
   refine⟨k+1,⟨by omega,fun y hy=>?_⟩,by omega,?_⟩
   ·rw [Ag hx] at hy
    rcases List.mem_append.1 hy with h1|h1
    ·exact hn y h1
    ·simp at h1;subst h1;exact hq
   ·simp [hS',hcp];try omega
  ·rw [hq] at hc
   rw [Iy hx hn hq]
   (try simp -implicitDefEqProofs [hlt,e3,hlc,htc])
   refine Ab hc ?_
   have hS':=hS
   simp [OkS] at hS'
   (try simp -implicitDefEqProofs [hlt,e3,hS'])
 ·have:k=l.length:=by omega
  subst this
  rw [List.take_length] at hn
  rw [Gv hn]
  have hS':=hS
  simp [OkS] at hS'
  (try simp -implicitDefEqProofs [hS'])
theorem A56 (S:St) (hS:OkS S) (l:List Stm) (f:Nat) (caps:List V) (hcp:okNs S.boxes.length S.toks.length caps=true) (q:Stm→Bool) (h : ∀x∈l,FnS Tryz.prog f (Stm.v x::caps) S (.t (.bool (q x))) S) :
  FnS Tryz.prog 95 [Stm.l l,.fn (.func f) caps] S (.t (.bool (l.any q))) S:=by
 have hi:=A55 S hS l f caps hcp q h
 rw [←Gw]
 generalize Ix q l=r at *
 (refine FnS.of_code mix Tryz.call95 k_95 (by simp) (fun hB=>?_);(try simp at hB);(try simp -implicitDefEqProofs))
 refine Ab hi ?_
 have hS':=hS
 simp [OkS] at hS'
 (try simp -implicitDefEqProofs [hS'])
def fldB (k v f t:Int) (n:List UInt8):Bool:=
 if k=1 then decide (0≤v)&&decide (v≤1000000000000)&&(f==0)&&(t==0)&&n.isEmpty else
 if k=2 then Iz n&&(v==0)&&(f==0)&&(t==0) else
 if k=20 then decide (1≤v)&&decide (v≤1000000000000)&&(f==0)&&(t==0)&&n.isEmpty else
 if k=21∨k=22 then acB f&&acB t&&(v==0)&&n.isEmpty else
 (v==0)&&(f==0)&&(t==0)&&n.isEmpty
def J0 (k v f t:Int) (n:List UInt8) (len:Nat):Bool:=kdB k&&((len:Int)==Cb k)&&fldB k v f t n
namespace Xp
mutual
def prop:Xp→Bool
 | .mk k v f t n xs=>J0 k v f t n xs.length&&props xs
def props:List Xp→Bool
 | []=>true
 | x::ys=>prop x&&props ys
end
theorem props_all (l:List Xp):props l = !l.any fun x=>!prop x:=by
 induction l with
 | nil=>rfl
 | cons x l ih=>rw [props,ih];simp
end Xp
theorem A23 (x:Xp) (h:A8 Tryz.prog 138 [x.v] (vB x.prop)):A8 Tryz.prog 172 [x.v] (vB (!x.prop)):=by
 generalize x.prop=b at *
 have hlc:=Du x
 have htc:=Cw x
 (refine A8.of_code mix Tryz.call172 k_172 (by simp) (fun hB=>?_);(try simp at hB);(try simp -implicitDefEqProofs))
 ((try simp at h);(try simp -implicitDefEqProofs [hlc,htc]);repeat' first|(with_reducible apply A0<;>first|(simp only [eras,era,A1];first|with_reducible assumption)|(simp -implicitDefEqProofs [hlc,htc])))
theorem w_proper : ∀(x:Xp),A8 Tryz.prog 138 [x.v] (vB x.prop):=by
 refine Xp.ind fun kd vl fr to nm xs ih=>?_
 have hcon:=A54 St0 A1u xs 172 [] rfl (fun x=>!x.prop) (fun x hx=>A23 x (ih x hx))
 rw [Xp.prop,Xp.props_all]
 generalize xs.any (fun x=>!x.prop)=anyb at *
 have hcon':A8 Tryz.prog 171 [Xp.l xs,.fn (.func 172) []] (vB anyb):=hcon
 have hargs:=A51 kd
 have hnm:=Oy nm
 have ha1:=A21 fr
 have ha2:=A21 to
 rw [Xp.v,Xp.c_mk]
 generalize hR:vB (J0 kd vl fr to nm xs.length && !anyb)=R
 unfold J0 fldB at hR
 generalize Iz nm=nb at *
 generalize acB fr=fb at *
 generalize acB to=tb at *
 have hkd:kdB kd=(decide (1≤kd)&&decide (kd≤22)):=rfl
 have hcases:kd=1∨kd=2∨kd=20∨kd=21∨kd=22∨((kd==1)=false∧(kd==2)=false∧(kd==20)=false∧(kd==21)=false∧(kd==22)=false):=by
  simp only [beq_eq_false_iff_ne,ne_eq];omega
 by_cases hsh:(kdB kd&&((xs.length:Int)==Cb kd))=true
 ·rw [Bool.and_eq_true] at hsh
  obtain⟨hk,hlen'⟩:=hsh
  rw [hk,hlen'] at hR
  rw [hkd,Bool.and_eq_true] at hk
  have k1:1≤kd:=of_decide_eq_true hk.1
  have k2:kd≤22:=of_decide_eq_true hk.2
  clear hk hkd
  rcases hcases with rfl|rfl|rfl|rfl|rfl|⟨n1,n2,n3,n4,n5⟩
  ·(refine A8.of_code mix Tryz.call138 k_138 (by simp) (fun hB=>?_);(try simp at hB);(try simp -implicitDefEqProofs))
   ((try simp at hargs hnm ha1 ha2 hcon');(try simp -implicitDefEqProofs [hlen']);repeat' first|((with_reducible first|apply Ac|apply Ad|apply A5)<;>(intro hc;have hc':=hc;(try simp at hc');simp -implicitDefEqProofs [hc,hc',hlen']))|(with_reducible apply A0<;>first|(simp only [eras,era,A1];first|with_reducible assumption)|(simp -implicitDefEqProofs [hlen'])))
   all_goals (subst hR;simp_all<;>(intros;omega))
  ·(refine A8.of_code mix Tryz.call138 k_138 (by simp) (fun hB=>?_);(try simp at hB);(try simp -implicitDefEqProofs))
   ((try simp at hargs hnm ha1 ha2 hcon');(try simp -implicitDefEqProofs [hlen']);repeat' first|((with_reducible first|apply Ac|apply Ad|apply A5)<;>(intro hc;have hc':=hc;(try simp at hc');simp -implicitDefEqProofs [hc,hc',hlen']))|(with_reducible apply A0<;>first|(simp only [eras,era,A1];first|with_reducible assumption)|(simp -implicitDefEqProofs [hlen'])))
   all_goals (subst hR;simp_all<;>(intros;omega))
  ·(refine A8.of_code mix Tryz.call138 k_138 (by simp) (fun hB=>?_);(try simp at hB);(try simp -implicitDefEqProofs))
   ((try simp at hargs hnm ha1 ha2 hcon');(try simp -implicitDefEqProofs [hlen']);repeat' first|((with_reducible first|apply Ac|apply Ad|apply A5)<;>(intro hc;have hc':=hc;(try simp at hc');simp -implicitDefEqProofs [hc,hc',hlen']))|(with_reducible apply A0<;>first|(simp only [eras,era,A1];first|with_reducible assumption)|(simp -implicitDefEqProofs [hlen'])))
   all_goals (subst hR;simp_all<;>(intros;omega))
  ·(refine A8.of_code mix Tryz.call138 k_138 (by simp) (fun hB=>?_);(try simp at hB);(try simp -implicitDefEqProofs))
   ((try simp at hargs hnm ha1 ha2 hcon');(try simp -implicitDefEqProofs [hlen']);repeat' first|((with_reducible first|apply Ac|apply Ad|apply A5)<;>(intro hc;have hc':=hc;(try simp at hc');simp -implicitDefEqProofs [hc,hc',hlen']))|(with_reducible apply A0<;>first|(simp only [eras,era,A1];first|with_reducible assumption)|(simp -implicitDefEqProofs [hlen'])))
   all_goals (subst hR;simp_all<;>(intros;omega))
  ·(refine A8.of_code mix Tryz.call138 k_138 (by simp) (fun hB=>?_);(try simp at hB);(try simp -implicitDefEqProofs))
   ((try simp at hargs hnm ha1 ha2 hcon');(try simp -implicitDefEqProofs [hlen']);repeat' first|((with_reducible first|apply Ac|apply Ad|apply A5)<;>(intro hc;have hc':=hc;(try simp at hc');simp -implicitDefEqProofs [hc,hc',hlen']))|(with_reducible apply A0<;>first|(simp only [eras,era,A1];first|with_reducible assumption)|(simp -implicitDefEqProofs [hlen'])))
   all_goals (subst hR;simp_all<;>(intros;omega))
  ·(refine A8.of_code mix Tryz.call138 k_138 (by simp) (fun hB=>?_);(try simp at hB);(try simp -implicitDefEqProofs))
   ((try simp at hargs hnm ha1 ha2 hcon');(try simp -implicitDefEqProofs [hlen',k1,k2,n1,n2,n3,n4,n5]);repeat' first|((with_reducible first|apply Ac|apply Ad|apply A5)<;>(intro hc;have hc':=hc;(try simp at hc');simp -implicitDefEqProofs [hc,hc',hlen',k1,k2,n1,n2,n3,n4,n5]))|(with_reducible apply A0<;>first|(simp only [eras,era,A1];first|with_reducible assumption)|(simp -implicitDefEqProofs [hlen',k1,k2,n1,n2,n3,n4,n5])))
   all_goals (subst hR;simp_all<;>(intros;omega))
 ·have hf:(kdB kd&&((xs.length:Int)==Cb kd))=false:=by simpa using hsh
  rw [hf] at hR
  simp only [Bool.false_and] at hR
  subst hR
  clear hsh
  rw [hkd] at hf
  rcases hcases with rfl|rfl|rfl|rfl|rfl|⟨n1,n2,n3,n4,n5⟩
  ·have hlen':((xs.length:Int)==Cb 1)=false:=by simpa using hf
   (refine A8.of_code mix Tryz.call138 k_138 (by simp) (fun hB=>?_);(try simp at hB);(try simp -implicitDefEqProofs))
   ((try simp at hargs hnm ha1 ha2 hcon');(try simp -implicitDefEqProofs [hlen']);repeat' first|(with_reducible apply A0<;>first|(simp only [eras,era,A1];first|with_reducible assumption)|(simp -implicitDefEqProofs [hlen'])))
  ·have hlen':((xs.length:Int)==Cb 2)=false:=by simpa using hf
   (refine A8.of_code mix Tryz.call138 k_138 (by simp) (fun hB=>?_);(try simp at hB);(try simp -implicitDefEqProofs))
   ((try simp at hargs hnm ha1 ha2 hcon');(try simp -implicitDefEqProofs [hlen']);repeat' first|(with_reducible apply A0<;>first|(simp only [eras,era,A1];first|with_reducible assumption)|(simp -implicitDefEqProofs [hlen'])))
  ·have hlen':((xs.length:Int)==Cb 20)=false:=by simpa using hf
   (refine A8.of_code mix Tryz.call138 k_138 (by simp) (fun hB=>?_);(try simp at hB);(try simp -implicitDefEqProofs))
   ((try simp at hargs hnm ha1 ha2 hcon');(try simp -implicitDefEqProofs [hlen']);repeat' first|(with_reducible apply A0<;>first|(simp only [eras,era,A1];first|with_reducible assumption)|(simp -implicitDefEqProofs [hlen'])))
  ·have hlen':((xs.length:Int)==Cb 21)=false:=by simpa using hf
   (refine A8.of_code mix Tryz.call138 k_138 (by simp) (fun hB=>?_);(try simp at hB);(try simp -implicitDefEqProofs))
   ((try simp at hargs hnm ha1 ha2 hcon');(try simp -implicitDefEqProofs [hlen']);repeat' first|(with_reducible apply A0<;>first|(simp only [eras,era,A1];first|with_reducible assumption)|(simp -implicitDefEqProofs [hlen'])))
  ·have hlen':((xs.length:Int)==Cb 22)=false:=by simpa using hf
   (refine A8.of_code mix Tryz.call138 k_138 (by simp) (fun hB=>?_);(try simp at hB);(try simp -implicitDefEqProofs))
   ((try simp at hargs hnm ha1 ha2 hcon');(try simp -implicitDefEqProofs [hlen']);repeat' first|(with_reducible apply A0<;>first|(simp only [eras,era,A1];first|with_reducible assumption)|(simp -implicitDefEqProofs [hlen'])))
  ·by_cases k1:1≤kd
   ·by_cases k2:kd≤22
    ·have hlen':((xs.length:Int)==Cb kd)=false:=by simpa [k1,k2] using hf
     (refine A8.of_code mix Tryz.call138 k_138 (by simp) (fun hB=>?_);(try simp at hB);(try simp -implicitDefEqProofs))
     ((try simp at hargs hnm ha1 ha2 hcon');(try simp -implicitDefEqProofs [hlen',k1,k2,n1,n2,n3,n4,n5]);repeat' first|(with_reducible apply A0<;>first|(simp only [eras,era,A1];first|with_reducible assumption)|(simp -implicitDefEqProofs [hlen',k1,k2,n1,n2,n3,n4,n5])))
    ·(refine A8.of_code mix Tryz.call138 k_138 (by simp) (fun hB=>?_);(try simp at hB);(try simp -implicitDefEqProofs))
     ((try simp at hargs hnm ha1 ha2 hcon');(try simp -implicitDefEqProofs [k1,k2,n1,n2,n3,n4,n5]);repeat' first|(with_reducible apply A0<;>first|(simp only [eras,era,A1];first|with_reducible assumption)|(simp -implicitDefEqProofs [k1,k2,n1,n2,n3,n4,n5])))
   ·(refine A8.of_code mix Tryz.call138 k_138 (by simp) (fun hB=>?_);(try simp at hB);(try simp -implicitDefEqProofs))
    ((try simp at hargs hnm ha1 ha2 hcon');(try simp -implicitDefEqProofs [k1,n1,n2,n3,n4,n5]);repeat' first|(with_reducible apply A0<;>first|(simp only [eras,era,A1];first|with_reducible assumption)|(simp -implicitDefEqProofs [k1,n1,n2,n3,n4,n5])))
end Go.Proofs.YtmlpmdccfmmpoaaGreatDoor
