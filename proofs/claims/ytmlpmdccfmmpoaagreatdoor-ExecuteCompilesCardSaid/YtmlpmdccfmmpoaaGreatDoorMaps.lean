/- Go's maps as lists of pairs. -/
import Derived.Test.YtmlpmdccfmmpoaaGreatDoorSya
import Derived.Test.YtmlpmdccfmmpoaaGreatDoorApi
import Derived.Test.YtmlpmdccfmmpoaaGreatDoorProg
set_option linter.unusedSimpArgs false
set_option linter.unusedVariables false
set_option maxHeartbeats 4000000
set_option maxRecDepth 8000
namespace Go.Proofs.YtmlpmdccfmmpoaaGreatDoor
open E
structure Stm where
 kind:Int
 acc:Int
 name:List UInt8
 ex:Xp
def Stm.c (x:Stm):List T:=.int .i64 x.kind::.int .i64 x.acc::.str x.name::x.ex.c
abbrev Stm.v (x:Stm):V:=.agg (x.c.map .t)
abbrev Stm.l (l:List Stm):V:=.t (.sl (l.map Stm.c))
theorem Ly (x:Stm):x.c.length=9:=by simp [Stm.c,Dv]
theorem Kx (x:Stm):List.take 9 (x.c.map V.t)=x.c.map V.t:=List.take_of_length_le (by simp [Ly])
structure Rul where
 name:List UInt8
 pair:Bool
 stmts:List Stm
 to:Int
def Rul.c (x:Rul):List T:=[.str x.name,.bool x.pair,.sl (x.stmts.map Stm.c),.int .i64 x.to]
abbrev Rul.v (x:Rul):V:=.agg (x.c.map .t)
abbrev Rul.l (l:List Rul):V:=.t (.sl (l.map Rul.c))
theorem Te (x:Rul):x.c.length=4:=by simp [Rul.c]
theorem Uq (x:Rul):List.take 4 (x.c.map V.t)=x.c.map V.t:=List.take_of_length_le (by simp [Te])

theorem A4p (S:St) (hS:OkS S) (l:List Xp) (f:Nat) (caps:List V) (hcp:okNs S.boxes.length S.toks.length caps=true) (q:Xp→Bool) (h : ∀x∈l,FnS Tryz.prog f (Xp.v x::caps) S (.t (.bool (q x))) S) :
  FnS Tryz.prog 207 [Xp.l l,.fn (.func f) caps] S (.t (.int .i64 (Hr q l))) S:=by
 (refine FnS.of_code mix Tryz.call207 k_207 (by simp) (fun hB=>?_);(try simp at hB);(try simp -implicitDefEqProofs))
 refine Ac (X:=Nat) (fun k=>k≤l.length∧∀y∈l.take k,q y=false) (fun k=>[(0,Xp.l l),(1,.fn (.func f) caps),(7,vI l.length),(8,vI k)]) (fun _=>S) (fun k=>l.length-k) 0 ⟨by simp,by simp⟩ ?_ ?_
 ·have:=hS;simp [OkS] at this;simp [this,hcp]
 rintro k ⟨hk,hn⟩ hbd
 rcases Nat.lt_or_ge k l.length with hlt|hge
 ·have hx:l[k]?=some l[k]:=by simp [hlt]
  have hc:=h l[k] (List.getElem_mem hlt)
  have e3:IntKind.i64.wrap ((k:Int)+1)=(k:Int)+1:=wrap64 (by omega) (by simp [maxLen] at hB;omega)
  have hlc:=Dv l[k]
  have htc:=Cw l[k]
  cases hq:q l[k]
  ·rw [hq] at hc
   (try simp -implicitDefEqProofs [hlt,e3,hlc,htc])
   refine A8 hc ?_
   (try simp -implicitDefEqProofs [hlt,e3])
   have hS':=hS
   simp [OkS] at hS'
   refine⟨k+1,⟨by omega,fun y hy=>?_⟩,by omega,?_⟩
   ·rw [Ag hx] at hy
    rcases List.mem_append.1 hy with h1|h1
    ·exact hn y h1
    ·simp at h1;subst h1;exact hq
   ·simp [hS',hcp];try omega
  ·rw [hq] at hc
   rw [H1 hx hn hq]
   (try simp -implicitDefEqProofs [hlt,e3,hlc,htc])
   refine A8 hc ?_
   have hS':=hS
   simp [OkS] at hS'
   (try simp -implicitDefEqProofs [hlt,e3,hS'])
 ·have:k=l.length:=by omega
  subst this
  rw [List.take_length] at hn
  rw [F7 hn]
  have hS':=hS
  simp [OkS] at hS'
  (try simp -implicitDefEqProofs [hS'])
theorem A4q (S:St) (hS:OkS S) (l:List Xp) (f:Nat) (caps:List V) (hcp:okNs S.boxes.length S.toks.length caps=true) (q:Xp→Bool) (h : ∀x∈l,FnS Tryz.prog f (Xp.v x::caps) S (.t (.bool (q x))) S) :
  FnS Tryz.prog 171 [Xp.l l,.fn (.func f) caps] S (.t (.bool (l.any q))) S:=by
 have hi:=A4p S hS l f caps hcp q h
 rw [←F8]
 generalize Hr q l=r at *
 (refine FnS.of_code mix Tryz.call171 k_171 (by simp) (fun hB=>?_);(try simp at hB);(try simp -implicitDefEqProofs))
 refine A8 hi ?_
 have hS':=hS
 simp [OkS] at hS'
 (try simp -implicitDefEqProofs [hS'])

theorem A4r (S:St) (hS:OkS S) (l:List Stm) (f:Nat) (caps:List V) (hcp:okNs S.boxes.length S.toks.length caps=true) (q:Stm→Bool) (h : ∀x∈l,FnS Tryz.prog f (Stm.v x::caps) S (.t (.bool (q x))) S) :
  FnS Tryz.prog 136 [Stm.l l,.fn (.func f) caps] S (.t (.int .i64 (Hr q l))) S:=by
 (refine FnS.of_code mix Tryz.call136 k_136 (by simp) (fun hB=>?_);(try simp at hB);(try simp -implicitDefEqProofs))
 refine Ac (X:=Nat) (fun k=>k≤l.length∧∀y∈l.take k,q y=false) (fun k=>[(0,Stm.l l),(1,.fn (.func f) caps),(7,vI l.length),(8,vI k)]) (fun _=>S) (fun k=>l.length-k) 0 ⟨by simp,by simp⟩ ?_ ?_
 ·have:=hS;simp [OkS] at this;simp [this,hcp]
 rintro k ⟨hk,hn⟩ hbd
 rcases Nat.lt_or_ge k l.length with hlt|hge
 ·have hx:l[k]?=some l[k]:=by simp [hlt]
  have hc:=h l[k] (List.getElem_mem hlt)
  have e3:IntKind.i64.wrap ((k:Int)+1)=(k:Int)+1:=wrap64 (by omega) (by simp [maxLen] at hB;omega)
  have hlc:=Ly l[k]
  have htc:=Kx l[k]
  cases hq:q l[k]
  ·rw [hq] at hc
   (try simp -implicitDefEqProofs [hlt,e3,hlc,htc])
   refine A8 hc ?_
   (try simp -implicitDefEqProofs [hlt,e3])
   have hS':=hS
   simp [OkS] at hS'
   refine⟨k+1,⟨by omega,fun y hy=>?_⟩,by omega,?_⟩
   ·rw [Ag hx] at hy
    rcases List.mem_append.1 hy with h1|h1
    ·exact hn y h1
    ·simp at h1;subst h1;exact hq
   ·simp [hS',hcp];try omega
  ·rw [hq] at hc
   rw [H1 hx hn hq]
   (try simp -implicitDefEqProofs [hlt,e3,hlc,htc])
   refine A8 hc ?_
   have hS':=hS
   simp [OkS] at hS'
   (try simp -implicitDefEqProofs [hlt,e3,hS'])
 ·have:k=l.length:=by omega
  subst this
  rw [List.take_length] at hn
  rw [F7 hn]
  have hS':=hS
  simp [OkS] at hS'
  (try simp -implicitDefEqProofs [hS'])
theorem A4s (S:St) (hS:OkS S) (l:List Stm) (f:Nat) (caps:List V) (hcp:okNs S.boxes.length S.toks.length caps=true) (q:Stm→Bool) (h : ∀x∈l,FnS Tryz.prog f (Stm.v x::caps) S (.t (.bool (q x))) S) :
  FnS Tryz.prog 95 [Stm.l l,.fn (.func f) caps] S (.t (.bool (l.any q))) S:=by
 have hi:=A4r S hS l f caps hcp q h
 rw [←F8]
 generalize Hr q l=r at *
 (refine FnS.of_code mix Tryz.call95 k_95 (by simp) (fun hB=>?_);(try simp at hB);(try simp -implicitDefEqProofs))
 refine A8 hi ?_
 have hS':=hS
 simp [OkS] at hS'
 (try simp -implicitDefEqProofs [hS'])
def fldB (k v f t:Int) (n:List UInt8):Bool:=
 if k=1 then decide (0≤v)&&decide (v≤1000000000000)&&(f==0)&&(t==0)&&n.isEmpty else
 if k=2 then Ir n&&(v==0)&&(f==0)&&(t==0) else
 if k=20 then decide (1≤v)&&decide (v≤1000000000000)&&(f==0)&&(t==0)&&n.isEmpty else
 if k=21∨k=22 then acB f&&acB t&&(v==0)&&n.isEmpty else
 (v==0)&&(f==0)&&(t==0)&&n.isEmpty
def Hs (k v f t:Int) (n:List UInt8) (len:Nat):Bool:=kdB k&&((len:Int)==Ch k)&&fldB k v f t n
namespace Xp
mutual
def prop:Xp→Bool
 | .mk k v f t n xs=>Hs k v f t n xs.length&&props xs
def props:List Xp→Bool
 | []=>true
 | x::ys=>prop x&&props ys
end
theorem props_all (l:List Xp):props l = !l.any fun x=>!prop x:=by
 induction l with
 | nil=>rfl
 | cons x l ih=>rw [props,ih];simp
end Xp
theorem A1o (x:Xp) (h:A7 Tryz.prog 138 [x.v] (vB x.prop)):A7 Tryz.prog 172 [x.v] (vB (!x.prop)):=by
 generalize x.prop=b at *
 have hlc:=Dv x
 have htc:=Cw x
 (refine A7.of_code mix Tryz.call172 k_172 (by simp) (fun hB=>?_);(try simp at hB);(try simp -implicitDefEqProofs))
 ((try simp at h);(try simp -implicitDefEqProofs [hlc,htc]);repeat' first|(with_reducible apply A0<;>first|(simp only [eras,era,A1];first|with_reducible assumption)|(simp -implicitDefEqProofs [hlc,htc])))
theorem w_proper : ∀(x:Xp),A7 Tryz.prog 138 [x.v] (vB x.prop):=by
 refine Xp.ind fun kd vl fr to nm xs ih=>?_
 have hcon:=A4q St0 A1f xs 172 [] rfl (fun x=>!x.prop) (fun x hx=>A1o x (ih x hx))
 rw [Xp.prop,Xp.props_all]
 generalize xs.any (fun x=>!x.prop)=anyb at *
 have hcon':A7 Tryz.prog 171 [Xp.l xs,.fn (.func 172) []] (vB anyb):=hcon
 have hargs:=A4n kd
 have hnm:=Oe nm
 have ha1:=A1m fr
 have ha2:=A1m to
 rw [Xp.v,Xp.c_mk]
 generalize hR:vB (Hs kd vl fr to nm xs.length && !anyb)=R
 unfold Hs fldB at hR
 generalize Ir nm=nb at *
 generalize acB fr=fb at *
 generalize acB to=tb at *
 have hkd:kdB kd=(decide (1≤kd)&&decide (kd≤22)):=rfl
 have hcases:kd=1∨kd=2∨kd=20∨kd=21∨kd=22∨((kd==1)=false∧(kd==2)=false∧(kd==20)=false∧(kd==21)=false∧(kd==22)=false):=by
  simp only [beq_eq_false_iff_ne,ne_eq];omega
 by_cases hsh:(kdB kd&&((xs.length:Int)==Ch kd))=true
 ·rw [Bool.and_eq_true] at hsh
  obtain⟨hk,hlen'⟩:=hsh
  rw [hk,hlen'] at hR
  rw [hkd,Bool.and_eq_true] at hk
  have k1:1≤kd:=of_decide_eq_true hk.1
  have k2:kd≤22:=of_decide_eq_true hk.2
  clear hk hkd
  rcases hcases with rfl|rfl|rfl|rfl|rfl|⟨n1,n2,n3,n4,n5⟩
  ·(refine A7.of_code mix Tryz.call138 k_138 (by simp) (fun hB=>?_);(try simp at hB);(try simp -implicitDefEqProofs))
   ((try simp at hargs hnm ha1 ha2 hcon');(try simp -implicitDefEqProofs [hlen']);repeat' first|((with_reducible first|apply A5|apply A6|apply A3)<;>(intro hc;have hc':=hc;(try simp at hc');simp -implicitDefEqProofs [hc,hc',hlen']))|(with_reducible apply A0<;>first|(simp only [eras,era,A1];first|with_reducible assumption)|(simp -implicitDefEqProofs [hlen'])))
   all_goals (subst hR;simp_all<;>(intros;omega))
  ·(refine A7.of_code mix Tryz.call138 k_138 (by simp) (fun hB=>?_);(try simp at hB);(try simp -implicitDefEqProofs))
   ((try simp at hargs hnm ha1 ha2 hcon');(try simp -implicitDefEqProofs [hlen']);repeat' first|((with_reducible first|apply A5|apply A6|apply A3)<;>(intro hc;have hc':=hc;(try simp at hc');simp -implicitDefEqProofs [hc,hc',hlen']))|(with_reducible apply A0<;>first|(simp only [eras,era,A1];first|with_reducible assumption)|(simp -implicitDefEqProofs [hlen'])))
   all_goals (subst hR;simp_all<;>(intros;omega))
  ·(refine A7.of_code mix Tryz.call138 k_138 (by simp) (fun hB=>?_);(try simp at hB);(try simp -implicitDefEqProofs))
   ((try simp at hargs hnm ha1 ha2 hcon');(try simp -implicitDefEqProofs [hlen']);repeat' first|((with_reducible first|apply A5|apply A6|apply A3)<;>(intro hc;have hc':=hc;(try simp at hc');simp -implicitDefEqProofs [hc,hc',hlen']))|(with_reducible apply A0<;>first|(simp only [eras,era,A1];first|with_reducible assumption)|(simp -implicitDefEqProofs [hlen'])))
   all_goals (subst hR;simp_all<;>(intros;omega))
  ·(refine A7.of_code mix Tryz.call138 k_138 (by simp) (fun hB=>?_);(try simp at hB);(try simp -implicitDefEqProofs))
   ((try simp at hargs hnm ha1 ha2 hcon');(try simp -implicitDefEqProofs [hlen']);repeat' first|((with_reducible first|apply A5|apply A6|apply A3)<;>(intro hc;have hc':=hc;(try simp at hc');simp -implicitDefEqProofs [hc,hc',hlen']))|(with_reducible apply A0<;>first|(simp only [eras,era,A1];first|with_reducible assumption)|(simp -implicitDefEqProofs [hlen'])))
   all_goals (subst hR;simp_all<;>(intros;omega))
  ·(refine A7.of_code mix Tryz.call138 k_138 (by simp) (fun hB=>?_);(try simp at hB);(try simp -implicitDefEqProofs))
   ((try simp at hargs hnm ha1 ha2 hcon');(try simp -implicitDefEqProofs [hlen']);repeat' first|((with_reducible first|apply A5|apply A6|apply A3)<;>(intro hc;have hc':=hc;(try simp at hc');simp -implicitDefEqProofs [hc,hc',hlen']))|(with_reducible apply A0<;>first|(simp only [eras,era,A1];first|with_reducible assumption)|(simp -implicitDefEqProofs [hlen'])))
   all_goals (subst hR;simp_all<;>(intros;omega))
  ·(refine A7.of_code mix Tryz.call138 k_138 (by simp) (fun hB=>?_);(try simp at hB);(try simp -implicitDefEqProofs))
   ((try simp at hargs hnm ha1 ha2 hcon');(try simp -implicitDefEqProofs [hlen',k1,k2,n1,n2,n3,n4,n5]);repeat' first|((with_reducible first|apply A5|apply A6|apply A3)<;>(intro hc;have hc':=hc;(try simp at hc');simp -implicitDefEqProofs [hc,hc',hlen',k1,k2,n1,n2,n3,n4,n5]))|(with_reducible apply A0<;>first|(simp only [eras,era,A1];first|with_reducible assumption)|(simp -implicitDefEqProofs [hlen',k1,k2,n1,n2,n3,n4,n5])))
   all_goals (subst hR;simp_all<;>(intros;omega))
 ·have hf:(kdB kd&&((xs.length:Int)==Ch kd))=false:=by simpa using hsh
  rw [hf] at hR
  simp only [Bool.false_and] at hR
  subst hR
  clear hsh
  rw [hkd] at hf
  rcases hcases with rfl|rfl|rfl|rfl|rfl|⟨n1,n2,n3,n4,n5⟩
  ·have hlen':((xs.length:Int)==Ch 1)=false:=by simpa using hf
   (refine A7.of_code mix Tryz.call138 k_138 (by simp) (fun hB=>?_);(try simp at hB);(try simp -implicitDefEqProofs))
   ((try simp at hargs hnm ha1 ha2 hcon');(try simp -implicitDefEqProofs [hlen']);repeat' first|(with_reducible apply A0<;>first|(simp only [eras,era,A1];first|with_reducible assumption)|(simp -implicitDefEqProofs [hlen'])))
  ·have hlen':((xs.length:Int)==Ch 2)=false:=by simpa using hf
   (refine A7.of_code mix Tryz.call138 k_138 (by simp) (fun hB=>?_);(try simp at hB);(try simp -implicitDefEqProofs))
   ((try simp at hargs hnm ha1 ha2 hcon');(try simp -implicitDefEqProofs [hlen']);repeat' first|(with_reducible apply A0<;>first|(simp only [eras,era,A1];first|with_reducible assumption)|(simp -implicitDefEqProofs [hlen'])))
  ·have hlen':((xs.length:Int)==Ch 20)=false:=by simpa using hf
   (refine A7.of_code mix Tryz.call138 k_138 (by simp) (fun hB=>?_);(try simp at hB);(try simp -implicitDefEqProofs))
   ((try simp at hargs hnm ha1 ha2 hcon');(try simp -implicitDefEqProofs [hlen']);repeat' first|(with_reducible apply A0<;>first|(simp only [eras,era,A1];first|with_reducible assumption)|(simp -implicitDefEqProofs [hlen'])))
  ·have hlen':((xs.length:Int)==Ch 21)=false:=by simpa using hf
   (refine A7.of_code mix Tryz.call138 k_138 (by simp) (fun hB=>?_);(try simp at hB);(try simp -implicitDefEqProofs))
   ((try simp at hargs hnm ha1 ha2 hcon');(try simp -implicitDefEqProofs [hlen']);repeat' first|(with_reducible apply A0<;>first|(simp only [eras,era,A1];first|with_reducible assumption)|(simp -implicitDefEqProofs [hlen'])))
  ·have hlen':((xs.length:Int)==Ch 22)=false:=by simpa using hf
   (refine A7.of_code mix Tryz.call138 k_138 (by simp) (fun hB=>?_);(try simp at hB);(try simp -implicitDefEqProofs))
   ((try simp at hargs hnm ha1 ha2 hcon');(try simp -implicitDefEqProofs [hlen']);repeat' first|(with_reducible apply A0<;>first|(simp only [eras,era,A1];first|with_reducible assumption)|(simp -implicitDefEqProofs [hlen'])))
  ·by_cases k1:1≤kd
   ·by_cases k2:kd≤22
    ·have hlen':((xs.length:Int)==Ch kd)=false:=by simpa [k1,k2] using hf
     (refine A7.of_code mix Tryz.call138 k_138 (by simp) (fun hB=>?_);(try simp at hB);(try simp -implicitDefEqProofs))
     ((try simp at hargs hnm ha1 ha2 hcon');(try simp -implicitDefEqProofs [hlen',k1,k2,n1,n2,n3,n4,n5]);repeat' first|(with_reducible apply A0<;>first|(simp only [eras,era,A1];first|with_reducible assumption)|(simp -implicitDefEqProofs [hlen',k1,k2,n1,n2,n3,n4,n5])))
    ·(refine A7.of_code mix Tryz.call138 k_138 (by simp) (fun hB=>?_);(try simp at hB);(try simp -implicitDefEqProofs))
     ((try simp at hargs hnm ha1 ha2 hcon');(try simp -implicitDefEqProofs [k1,k2,n1,n2,n3,n4,n5]);repeat' first|(with_reducible apply A0<;>first|(simp only [eras,era,A1];first|with_reducible assumption)|(simp -implicitDefEqProofs [k1,k2,n1,n2,n3,n4,n5])))
   ·(refine A7.of_code mix Tryz.call138 k_138 (by simp) (fun hB=>?_);(try simp at hB);(try simp -implicitDefEqProofs))
    ((try simp at hargs hnm ha1 ha2 hcon');(try simp -implicitDefEqProofs [k1,n1,n2,n3,n4,n5]);repeat' first|(with_reducible apply A0<;>first|(simp only [eras,era,A1];first|with_reducible assumption)|(simp -implicitDefEqProofs [k1,n1,n2,n3,n4,n5])))
namespace Xp
mutual
def ok:Xp→Prop
 | .mk _ _ _ _ n xs=>n.length≤maxLen∧oks xs
def oks:List Xp→Prop
 | []=>True
 | x::ys=>ok x∧oks ys
end
end Xp
def inZ (x:Int):Prop:=-9223372036854775808≤x∧x≤9223372036854775807
def inL (s:List UInt8):Prop:=s.length≤9223372036854775807
theorem Fo {n:Nat} {ts:List T} (h:Sh Tryz.prog n 3 ts) : ∃x,ts=[.int .i64 x]∧inZ x:=by
 cases n with
 | zero=>exact h.elim
 | succ n=>
  simp only [Sh,Tryz.underlying3] at h
  obtain⟨x,rfl,hw⟩:=h
  refine⟨x,rfl,?_⟩
  simp [Lit.wf,IntKind.min,IntKind.max,IntKind.signed,IntKind.bits] at hw
  simp [inZ];omega
theorem A4t {n:Nat} {ts:List T} (h:Sh Tryz.prog n 9 ts) : ∃s,ts=[.str s]∧inL s:=by
 cases n with
 | zero=>exact h.elim
 | succ n=>
  simp only [Sh,Tryz.underlying9] at h
  obtain⟨s,rfl,hw⟩:=h
  exact⟨s,rfl,by simpa [inL,maxLen] using hw⟩
theorem A6z {n:Nat} {ts:List T} (h:Sh Tryz.prog n 4 ts) : ∃b,ts=[.bool b]:=by
 cases n with
 | zero=>exact h.elim
 | succ n=>
  simp only [Sh,Tryz.underlying4] at h
  exact h
theorem A1p {α:Type} {n:Nat} {t e:TypeId} {ts:List T} (hu:Tryz.prog.underlying t=some (.slice e)) (c:α→List T) (wf:α→Prop) (he : ∀m,m<n→∀ts,Sh Tryz.prog m e ts→∃x,ts=c x∧wf x) (h:Sh Tryz.prog n t ts) : ∃l:List α,ts=[.sl (l.map c)]∧∀x∈l,wf x:=by
 cases n with
 | zero=>exact h.elim
 | succ n=>
  simp only [Sh,hu] at h
  obtain⟨es,hts,hes⟩:=h
  rw [hts]
  clear hts
  suffices hs : ∃l:List α,es=l.map c∧∀x∈l,wf x by obtain⟨l,rfl,hl⟩:=hs;exact⟨l,rfl,hl⟩
  induction es with
  | nil=>exact⟨[],rfl,by simp⟩
  | cons r es ih=>
   obtain⟨x,rfl,hx⟩:=he n (by omega) r (hes r (by simp))
   obtain⟨l,rfl,hl⟩:=ih (fun r hr=>hes r (by simp [hr]))
   exact⟨x::l,rfl,by simp;exact⟨hx,hl⟩⟩

namespace Xp
mutual
def wf:Xp→Prop
 | .mk k v f t n xs=>(inZ k∧inZ v∧inZ f∧inZ t∧inL n)∧wfs xs
def wfs:List Xp→Prop
 | []=>True
 | x::ys=>wf x∧wfs ys
end
theorem wfs_of {l:List Xp} (h : ∀x∈l,wf x):wfs l:=by
 induction l with
 | nil=>trivial
 | cons x l ih=>exact⟨h x (by simp),ih fun y hy=>h y (by simp [hy])⟩
end Xp
def Stm.wf (s:Stm):Prop:=inZ s.kind∧inZ s.acc∧inL s.name∧s.ex.wf
def Rul.wf (r:Rul):Prop:=inL r.name∧inZ r.to∧∀s∈r.stmts,s.wf

theorem A70 : ∀(n:Nat) (ts:List T),Sh Tryz.prog n 24 ts→∃x:Xp,ts=x.c∧x.wf:=by
 intro n
 induction n using Nat.strongRecOn with
 | ind n ih=>
  intro ts h
  cases n with
  | zero=>exact h.elim
  | succ n=>
   have hc:Tryz.prog.cellsOf 24=6:=by kernel_rfl
   simp only [Sh,Tryz.underlying24,hc,List.forall_mem_cons,List.not_mem_nil,false_imp_iff,implies_true,and_true] at h
   obtain⟨hl,h0,h1,h2,h3,h4,h5⟩:=h
   obtain⟨c0,c1,c2,c3,c4,c5,rfl⟩ : ∃c0 c1 c2 c3 c4 c5,ts=[c0,c1,c2,c3,c4,c5]:=by
    match ts,hl with
    | [c0,c1,c2,c3,c4,c5],_=>exact⟨_,_,_,_,_,_,rfl⟩
   rw [show Tryz.prog.cellsOf 3=1 by kernel_rfl] at h0 h1 h2 h3
   rw [show Tryz.prog.cellsOf 9=1 by kernel_rfl] at h4
   rw [show Tryz.prog.cellsOf 22=1 by kernel_rfl] at h5
   obtain⟨x0,e0,w0⟩:=Fo h0
   obtain⟨x1,e1,w1⟩:=Fo h1
   obtain⟨x2,e2,w2⟩:=Fo h2
   obtain⟨x3,e3,w3⟩:=Fo h3
   obtain⟨x4,e4,w4⟩:=A4t h4
   obtain⟨x5,e5,w5⟩:=A1p (by kernel_rfl) Xp.c Xp.wf (fun m hm ts h=>ih m (by omega) ts h) h5
   refine⟨.mk x0 x1 x2 x3 x4 x5,?_,⟨⟨w0,w1,w2,w3,w4⟩,Xp.wfs_of w5⟩⟩
   rw [Xp.c_mk]
   simp at e0 e1 e2 e3 e4 e5
   simp [*]
theorem A4u (n:Nat) (ts:List T) (h:Sh Tryz.prog n 31 ts) : ∃x:Stm,ts=x.c∧x.wf:=by
 cases n with
 | zero=>exact h.elim
 | succ n=>
  have hc:Tryz.prog.cellsOf 31=9:=by kernel_rfl
  simp only [Sh,Tryz.underlying31,hc,List.forall_mem_cons,List.not_mem_nil,false_imp_iff,implies_true,and_true] at h
  obtain⟨hl,h0,h1,h2,h3⟩:=h
  obtain⟨c0,c1,c2,r,rfl⟩ : ∃c0 c1 c2 r,ts=c0::c1::c2::r:=by
   match ts,hl with
   | c0::c1::c2::r,_=>exact⟨_,_,_,_,rfl⟩
  rw [show Tryz.prog.cellsOf 3=1 by kernel_rfl] at h0 h1
  rw [show Tryz.prog.cellsOf 9=1 by kernel_rfl] at h2
  rw [show Tryz.prog.cellsOf 24=6 by kernel_rfl] at h3
  obtain⟨x0,e0,w0⟩:=Fo h0
  obtain⟨x1,e1,w1⟩:=Fo h1
  obtain⟨x2,e2,w2⟩:=A4t h2
  obtain⟨x3,e3,w3⟩:=A70 n _ h3
  refine⟨⟨x0,x1,x2,x3⟩,?_,⟨w0,w1,w2,w3⟩⟩
  simp at e0 e1 e2 hl
  rw [List.take_of_length_le (by simp;omega)] at e3
  simp at e3
  simp [Stm.c, *]
theorem A4v (n:Nat) (ts:List T) (h:Sh Tryz.prog n 34 ts) : ∃x:Rul,ts=x.c∧x.wf:=by
 cases n with
 | zero=>exact h.elim
 | succ n=>
  have hc:Tryz.prog.cellsOf 34=4:=by kernel_rfl
  simp only [Sh,Tryz.underlying34,hc,List.forall_mem_cons,List.not_mem_nil,false_imp_iff,implies_true,and_true] at h
  obtain⟨hl,h0,h1,h2,h3⟩:=h
  obtain⟨c0,c1,c2,c3,rfl⟩ : ∃c0 c1 c2 c3,ts=[c0,c1,c2,c3]:=by
   match ts,hl with
   | [c0,c1,c2,c3],_=>exact⟨_,_,_,_,rfl⟩
  rw [show Tryz.prog.cellsOf 9=1 by kernel_rfl] at h0
  rw [show Tryz.prog.cellsOf 4=1 by kernel_rfl] at h1
  rw [show Tryz.prog.cellsOf 32=1 by kernel_rfl] at h2
  rw [show Tryz.prog.cellsOf 3=1 by kernel_rfl] at h3
  obtain⟨x0,e0,w0⟩:=A4t h0
  obtain⟨x1,e1⟩:=A6z h1
  obtain⟨x2,e2,w2⟩:=A1p (by kernel_rfl) Stm.c Stm.wf (fun m hm ts h=>A4u m ts h) h2
  obtain⟨x3,e3,w3⟩:=Fo h3
  refine⟨⟨x0,x1,x2,x3⟩,?_,⟨w0,w3,w2⟩⟩
  simp at e0 e1 e2 e3
  simp [Rul.c, *]
theorem A4w (n:Nat) (ts:List T) (h:Sh Tryz.prog n 36 ts) : ∃p:List Rul,ts=[.sl (p.map Rul.c)]∧∀r∈p,r.wf:=
 A1p (by kernel_rfl) Rul.c Rul.wf (fun m hm ts h=>A4v m ts h) h
def Account.wf (x:Account):Prop:=inZ x.code∧inZ x.kind∧inZ x.basis∧inZ x.parent
theorem Tf (n:Nat) (ts:List T) (h:Sh Tryz.prog n 189 ts) : ∃x:Account,ts=x.c∧x.wf:=by
 cases n with
 | zero=>exact h.elim
 | succ n=>
  have hc:Tryz.prog.cellsOf 189=4:=by kernel_rfl
  simp only [Sh,Tryz.underlying189,hc,List.forall_mem_cons,List.not_mem_nil,false_imp_iff,implies_true,and_true] at h
  obtain⟨hl,h0,h1,h2,h3⟩:=h
  obtain⟨c0,c1,c2,c3,rfl⟩ : ∃c0 c1 c2 c3,ts=[c0,c1,c2,c3]:=by
   match ts,hl with
   | [c0,c1,c2,c3],_=>exact⟨_,_,_,_,rfl⟩
  rw [show Tryz.prog.cellsOf 3=1 by kernel_rfl] at h0 h1 h2 h3
  obtain⟨x0,e0,w0⟩:=Fo h0
  obtain⟨x1,e1,w1⟩:=Fo h1
  obtain⟨x2,e2,w2⟩:=Fo h2
  obtain⟨x3,e3,w3⟩:=Fo h3
  refine⟨⟨x0,x1,x2,x3⟩,?_,⟨w0,w1,w2,w3⟩⟩
  simp at e0 e1 e2 e3
  simp [Account.c, *]
theorem A71 (n:Nat) (ts:List T) (h:Sh Tryz.prog n 78 ts) : ∃l:List Account,ts=[.sl (l.map Account.c)]∧∀s∈l,s.wf:=
 A1p (by kernel_rfl) Account.c Account.wf (fun m hm ts h=>Tf m ts h) h
theorem Of {t:TypeId} {ts:List T} {x:T} (h:isAgg Tryz.prog t=false) (hx:ts=[x]):Qa Tryz.prog t ts=.t x:=by
 subst hx
 rw [Qa,h];rfl
theorem A1q {ts:List T} (h : ∃n,Sh Tryz.prog n 36 ts) : ∃p:List Rul,Qa Tryz.prog 36 ts=Rul.l p∧∀r∈p,r.wf:=by
 obtain⟨n,h⟩:=h
 obtain⟨x,e,w⟩:=A4w n _ h
 exact⟨x,Of (by kernel_rfl) e,w⟩
theorem A4x {ts:List T} (h : ∃n,Sh Tryz.prog n 78 ts) : ∃l:List Account,Qa Tryz.prog 78 ts=Account.l l∧∀s∈l,s.wf:=by
 obtain⟨n,h⟩:=h
 obtain⟨x,e,w⟩:=A71 n _ h
 exact⟨x,Of (by kernel_rfl) e,w⟩
end Go.Proofs.YtmlpmdccfmmpoaaGreatDoor
section
set_option linter.unusedSimpArgs false
set_option linter.unusedVariables false
namespace Go.Proofs.YtmlpmdccfmmpoaaGreatDoor
open E

section
variable {α β:Type} [DecidableEq α]
def B7:List (α×β)→α→Option β
 | [],_=>none
 | (a,b)::l,k=>if k=a then some b else B7 l k
def Ce:List (α×β)→α→β→List (α×β)
 | [],k,b=>[(k,b)]
 | (a,c)::l,k,b=>if k=a then (k,b)::l else (a,c)::Ce l k b

theorem Jf (l:List (α×β)) (k:α) (b:β) (q:α):B7 (Ce l k b) q=if q=k then some b else B7 l q:=by
 induction l with
 | nil=>simp [Ce,B7]
 | cons p l ih=>
  obtain⟨a,c⟩:=p
  simp only [Ce]
  by_cases h:k=a
  ·subst h;rw [if_pos rfl];simp only [B7];split<;>rfl
  ·rw [if_neg h];simp only [B7,ih]
   by_cases h2:q=a
   ·subst h2;rw [if_pos rfl,if_neg (Ne.symm h),if_pos rfl]
   ·rw [if_neg h2,if_neg h2]
theorem Gm (l:List (α×β)) (k:α) (b:β):(Ce l k b).length≤l.length+1:=by
 induction l with
 | nil=>simp [Ce]
 | cons p l ih=>obtain⟨a,c⟩:=p;simp only [Ce];split<;>simp<;>omega

theorem Nd {ka:Bool} {ks:List Nat} (enc:α→V) (c:α→List T) (v:β→V) (h1 : ∀a,Br (cellsV (enc a))=some (c a)) (h2 : ∀a,isAggV (enc a)=ka) (h3 : ∀a b,eqC ks (c a) (c b)=some (decide (a=b))) (k:α) (l:List (α×β)) :
  Em ka ks (c k) (l.map fun p=>(enc p.1,v p.2))=some ((B7 l k).map v):=by
 induction l with
 | nil=>simp [Em,B7]
 | cons p l ih=>
  obtain⟨a,b⟩:=p
  simp only [List.map_cons,Em,eqK,h1,h2,h3,if_true,B7]
  by_cases h:k=a
  ·simp [h]
  ·simp only [h,decide_false,if_false];exact ih
theorem Qf {ka:Bool} {ks:List Nat} (enc:α→V) (c:α→List T) (v:β→V) (h1 : ∀a,Br (cellsV (enc a))=some (c a)) (h2 : ∀a,isAggV (enc a)=ka) (h3 : ∀a b,eqC ks (c a) (c b)=some (decide (a=b))) (k:α) (b:β) (l:List (α×β)) :
  Ga ka ks (c k) (enc k) (v b) (l.map fun p=>(enc p.1,v p.2))=some ((Ce l k b).map fun p=>(enc p.1,v p.2)):=by
 induction l with
 | nil=>simp [Ga,Ce]
 | cons p l ih=>
  obtain⟨a,q⟩:=p
  simp only [List.map_cons,Ga,eqK,h1,h2,h3,if_true,Ce]
  by_cases h:k=a
  ·simp [h]
  ·simp only [h,decide_false,if_false,ih];simp
end

section
variable {α:Type} [DecidableEq α]
def Bm (l:List α):List (α×Bool):=l.map fun c=>(c,true)
theorem Ed (l:List α) (k:α):B7 (Bm l) k=if k∈l then some true else none:=by
 induction l with
 | nil=>rfl
 | cons x l ih=>
  simp only [Bm,List.map_cons,B7] at ih ⊢
  by_cases h:k=x
  ·simp [h]
  ·rw [if_neg h,ih];simp [h]
theorem Ht {l:List α} {k:α} (h:k∉l):Ce (Bm l) k true=Bm (l++[k]):=by
 induction l with
 | nil=>rfl
 | cons x l ih=>
  have h1:k≠x:=fun e=>h (by simp [e])
  have:=ih (fun hm=>h (by simp [hm]))
  simp only [Bm,List.map_cons,Ce,List.cons_append] at this ⊢
  rw [if_neg h1,this]
end

abbrev mI {β:Type} (v:β→V) (l:List (Int×β)):List (V×V):=l.map fun p=>(V.t (.int .i64 p.1),v p.2)
abbrev mS {β:Type} (v:β→V) (l:List (List UInt8×β)):List (V×V):=l.map fun p=>(V.t (.str p.1),v p.2)
theorem Og {β:Type} (v:β→V) (k:Int) (l:List (Int×β)):Em false [1] [T.int .i64 k] (mI v l)=some ((B7 l k).map v):=
 Nd (fun k=>V.t (.int .i64 k)) (fun k=>[T.int .i64 k]) v (fun _=>rfl) (fun _=>rfl) (fun a b=>by by_cases h:a=b<;>simp [eqC,h]) k l
theorem Yr {β:Type} (v:β→V) (k:Int) (b:β) (l:List (Int×β)):Ga false [1] [T.int .i64 k] (V.t (.int .i64 k)) (v b) (mI v l)=some (mI v (Ce l k b)):=
 Qf (fun k=>V.t (.int .i64 k)) (fun k=>[T.int .i64 k]) v (fun _=>rfl) (fun _=>rfl) (fun a b=>by by_cases h:a=b<;>simp [eqC,h]) k b l
theorem Fp {β:Type} (v:β→V) (k:List UInt8) (l:List (List UInt8×β)):Em false [2] [T.str k] (mS v l)=some ((B7 l k).map v):=
 Nd (fun k=>V.t (.str k)) (fun k=>[T.str k]) v (fun _=>rfl) (fun _=>rfl) (fun a b=>by by_cases h:a=b<;>simp [eqC,h]) k l
theorem Lz {β:Type} (v:β→V) (k:List UInt8) (b:β) (l:List (List UInt8×β)):Ga false [2] [T.str k] (V.t (.str k)) (v b) (mS v l)=some (mS v (Ce l k b)):=
 Qf (fun k=>V.t (.str k)) (fun k=>[T.str k]) v (fun _=>rfl) (fun _=>rfl) (fun a b=>by by_cases h:a=b<;>simp [eqC,h]) k b l
theorem Ak {nb nt:Nat} {l:List V} (h : ∀v∈l,okN nb nt v=true):okNs nb nt l=true:=by
 induction l with
 | nil=>rfl
 | cons x l ih=>simp [okNs,h x (by simp),ih fun v hv=>h v (by simp [hv])]

theorem Nf {α:Type} [DecidableEq α] : ∀{l m:List α},l.Nodup→(∀x∈l,x∈m)→l.length≤m.length
 | [],m,_,_=>by simp
 | x::l,m,hn,hs=>by
  obtain⟨h1,h2⟩:=List.nodup_cons.1 hn
  have hx:=hs x (by simp)
  have:=Nf (l:=l) (m:=m.erase x) h2 (fun y hy=>by
   have hne:y≠x:=fun e=>h1 (e▸hy)
   exact (List.mem_erase_of_ne hne).2 (hs y (by simp [hy])))
  rw [List.length_erase_of_mem hx] at this
  have:=List.length_pos_of_mem hx
  simp;omega
@[simp] theorem A1r {α:Type} (l:List α):(Bm l).length=l.length:=by simp [Bm]
@[simp] theorem A6b {α:Type} : Bm ([]:List α)=[]:=rfl
end Go.Proofs.YtmlpmdccfmmpoaaGreatDoor
end
