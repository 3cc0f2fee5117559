/- Chapter 33: the types of expressions; the reference's Infer. -/
import Derived.Test.YtmlpmdccfmmpoaaGreatDoorLea
import Derived.Test.YtmlpmdccfmmpoaaGreatDoorMaps
import Derived.Test.YtmlpmdccfmmpoaaGreatDoorCodeB
set_option linter.unusedSimpArgs false
set_option linter.unusedVariables false
set_option maxRecDepth 8000
set_option maxHeartbeats 4000000
namespace Go.Proofs.YtmlpmdccfmmpoaaGreatDoor
open E
theorem A2e {α:Type} {n:Nat} {t e:TypeId} {ts:List T} (hu:Tryz.prog.underlying t=some (.slice e)) (c:α→List T) (wf:α→Prop) (he : ∀n ts,Sh Tryz.prog n e ts→∃x,ts=c x∧wf x) (hk:Tryz.prog.cellsOf t=1) (h:Sh Tryz.prog n t (ts.take (Tryz.prog.cellsOf t))) : ∃l:List α,ts.take 1=[.sl (l.map c)]∧∀x∈l,wf x:=by
 rw [hk] at h
 cases n with
 | zero=>exact h.elim
 | succ n=>
  simp only [Sh,hu] at h
  obtain⟨es,hts,hes⟩:=h
  rw [hts]
  clear hts
  suffices hs : ∃l:List α,es=l.map c∧∀x∈l,wf x by obtain⟨l,rfl,hl⟩:=hs;exact⟨l,rfl,hl⟩
  induction es with
  | nil=>exact⟨[],rfl,by simp⟩
  | cons r es ih=>
   obtain⟨x,rfl,hx⟩:=he n r (hes r (by simp))
   obtain⟨l,rfl,hl⟩:=ih (fun r hr=>hes r (by simp [hr]))
   exact⟨x::l,rfl,by simp;exact⟨hx,hl⟩⟩
theorem A2f {n:Nat} {ts:List T} (h:Sh Tryz.prog n 70 ts) : ∃x y,ts=[.int .i64 x,.int .i64 y]:=by
 cases n with
 | zero=>exact h.elim
 | succ n=>
  have hc:Tryz.prog.cellsOf 70=2:=by kernel_rfl
  simp only [Sh,Tryz.underlying70,hc,List.forall_mem_cons,List.not_mem_nil,false_imp_iff,implies_true,and_true] at h
  obtain⟨hl,h0,h1⟩:=h
  obtain⟨c0,c1,rfl⟩ : ∃c0 c1,ts=[c0,c1]:=by
   match ts,hl with
   | [c0,c1],_=>exact⟨_,_,rfl⟩
  rw [show Tryz.prog.cellsOf 3=1 by kernel_rfl] at h0 h1
  obtain⟨x0,e0,w0⟩:=Gl h0
  obtain⟨x1,e1,w1⟩:=Gl h1
  refine⟨x0,x1,?_⟩
  simp at e0 e1
  simp [*]
theorem Zg {n:Nat} {ts:List T} (h:Sh Tryz.prog n 72 ts) : ∃x:Item,ts=x.c∧True:=by
 cases n with
 | zero=>exact h.elim
 | succ n=>
  have hc:Tryz.prog.cellsOf 72=7:=by kernel_rfl
  simp only [Sh,Tryz.underlying72,hc,List.forall_mem_cons,List.not_mem_nil,false_imp_iff,implies_true,and_true] at h
  obtain⟨hl,h0,h1,h2,h3,h4,h5⟩:=h
  obtain⟨c0,c1,c2,c3,c4,c5,c6,rfl⟩ : ∃c0 c1 c2 c3 c4 c5 c6,ts=[c0,c1,c2,c3,c4,c5,c6]:=by
   match ts,hl with
   | [c0,c1,c2,c3,c4,c5,c6],_=>exact⟨_,_,_,_,_,_,_,rfl⟩
  rw [show Tryz.prog.cellsOf 70=2 by kernel_rfl] at h0
  obtain⟨x0,y0,e0⟩:=A2f h0
  rw [show Tryz.prog.cellsOf 3=1 by kernel_rfl] at h1
  obtain⟨x1,e1,w1⟩:=Gl h1
  rw [show Tryz.prog.cellsOf 3=1 by kernel_rfl] at h2
  obtain⟨x2,e2,w2⟩:=Gl h2
  rw [show Tryz.prog.cellsOf 3=1 by kernel_rfl] at h3
  obtain⟨x3,e3,w3⟩:=Gl h3
  rw [show Tryz.prog.cellsOf 3=1 by kernel_rfl] at h4
  obtain⟨x4,e4,w4⟩:=Gl h4
  rw [show Tryz.prog.cellsOf 3=1 by kernel_rfl] at h5
  obtain⟨x5,e5,w5⟩:=Gl h5
  refine⟨⟨x0,y0,x1,x2,x3,x4,x5⟩,?_,trivial⟩
  simp at e0 e1 e2 e3 e4 e5
  simp [*]
theorem A2g {n:Nat} {ts:List T} (h:Sh Tryz.prog n 96 ts) : ∃x:Int,ts=[.int .i16 x]∧-32768≤x∧x≤32767:=by
 cases n with
 | zero=>exact h.elim
 | succ n=>
  simp only [Sh,Tryz.underlying96] at h
  obtain⟨x,rfl,hw⟩:=h
  refine⟨x,rfl,?_⟩
  simp [Lit.wf,IntKind.min,IntKind.max,IntKind.signed,IntKind.bits] at hw
  omega
theorem A2h {n:Nat} {ts:List T} (h:Sh Tryz.prog n 98 ts) : ∃x:Sou,ts=x.c∧x.wf:=by
 cases n with
 | zero=>exact h.elim
 | succ n=>
  have hc:Tryz.prog.cellsOf 98=4:=by kernel_rfl
  simp only [Sh,Tryz.underlying98,hc,List.forall_mem_cons,List.not_mem_nil,false_imp_iff,implies_true,and_true] at h
  obtain⟨hl,h0,h1,h2,h3⟩:=h
  obtain⟨c0,c1,c2,c3,rfl⟩ : ∃c0 c1 c2 c3,ts=[c0,c1,c2,c3]:=by
   match ts,hl with
   | [c0,c1,c2,c3],_=>exact⟨_,_,_,_,rfl⟩
  rw [show Tryz.prog.cellsOf 3=1 by kernel_rfl] at h0
  rw [show Tryz.prog.cellsOf 4=1 by kernel_rfl] at h1
  rw [show Tryz.prog.cellsOf 96=1 by kernel_rfl] at h2
  obtain⟨x0,e0,w0⟩:=Gl h0
  obtain⟨x1,e1⟩:=A51 h1
  obtain⟨x2,e2,w2⟩:=A2g h2
  obtain⟨x3,e3,w3⟩:=A2e (by kernel_rfl) Item.c (fun _=>True) (fun n ts h=>Zg h) (by kernel_rfl) h3
  refine⟨⟨x0,x1,x2,x3⟩,?_,w2⟩
  simp at e0 e1 e2 e3
  simp [*,Sou.c]
theorem Zh {n:Nat} {ts:List T} (h:Sh Tryz.prog n 27 ts) : ∃x y z,ts=[.int .i64 x,.int .i64 y,.int .i64 z]∧inZ x∧inZ y∧inZ z:=by
 cases n with
 | zero=>exact h.elim
 | succ n=>
  have hc:Tryz.prog.cellsOf 27=3:=by kernel_rfl
  simp only [Sh,Tryz.underlying27,hc,List.forall_mem_cons,List.not_mem_nil,false_imp_iff,implies_true,and_true] at h
  obtain⟨hl,h0,h1,h2⟩:=h
  obtain⟨c0,c1,c2,rfl⟩ : ∃c0 c1 c2,ts=[c0,c1,c2]:=by
   match ts,hl with
   | [c0,c1,c2],_=>exact⟨_,_,_,rfl⟩
  rw [show Tryz.prog.cellsOf 3=1 by kernel_rfl] at h0 h1 h2
  obtain⟨x0,e0,w0⟩:=Gl h0
  obtain⟨x1,e1,w1⟩:=Gl h1
  obtain⟨x2,e2,w2⟩:=Gl h2
  refine⟨x0,x1,x2,?_,w0,w1,w2⟩
  simp at e0 e1 e2
  simp [*]
theorem A2i {α:Type} {n:Nat} {t e:TypeId} {ts:List T} (hu:Tryz.prog.underlying t=some (.slice e)) (c:α→List T) (wf:α→Prop) (he : ∀n ts,Sh Tryz.prog n e ts→∃x,ts=c x∧wf x) (h:Sh Tryz.prog n t ts) : ∃l:List α,ts=[.sl (l.map c)]∧∀x∈l,wf x:=by
 cases n with
 | zero=>exact h.elim
 | succ n=>
  simp only [Sh,hu] at h
  obtain⟨es,hts,hes⟩:=h
  rw [hts]
  clear hts
  suffices hs : ∃l:List α,es=l.map c∧∀x∈l,wf x by obtain⟨l,rfl,hl⟩:=hs;exact⟨l,rfl,hl⟩
  induction es with
  | nil=>exact⟨[],rfl,by simp⟩
  | cons r es ih=>
   obtain⟨x,rfl,hx⟩:=he n r (hes r (by simp))
   obtain⟨l,rfl,hl⟩:=ih (fun r hr=>hes r (by simp [hr]))
   exact⟨x::l,rfl,by simp;exact⟨hx,hl⟩⟩
theorem X1 {ts:List T} (h : ∃n,Sh Tryz.prog n 25 ts) : ∃l:List Sou,Ko Tryz.prog 25 ts=Sou.l l∧∀x∈l,x.wf:=by
 obtain⟨n,h⟩:=h
 obtain⟨l,e,w⟩:=A2i (by kernel_rfl) Sou.c Sou.wf (fun n ts h=>A2h h) h
 exact⟨l,Yq (by kernel_rfl) e,w⟩
theorem X2 {ts:List T} (h : ∃n,Sh Tryz.prog n 27 ts) : ∃x y z,Ko Tryz.prog 27 ts=.agg [vI x,vI y,vI z]∧inZ x∧inZ y∧inZ z:=by
 obtain⟨n,h⟩:=h
 obtain⟨x,y,z,rfl,w⟩:=Zh h
 exact⟨x,y,z,O9 (by kernel_rfl),w⟩
def Ey (k:Int):Int:=if k=6∨k=12∨k=13 then 2 else 1
def Fp (k:Int):Int:=if k=6∨k=12∨k=13∨(14≤k∧k≤19) then 2 else 1
def Du (known pair wrong:Bool) (e k f t:Int):Int×Int:=
 if e≠0 then (0,e) else if wrong=true then (0,16) else if k=2∧known=false then (0,17) else
 if (k=21∨k=22)∧t<f then (0,2) else if k=22∧pair=false then (0,7) else (Fp k,0)
namespace Xp
mutual
def inf (q:List UInt8→Bool) (pair:Bool):Xp→Int×Int
 | .mk k _ f t n xs=>Du (q n) pair (infs q pair (Ey k) xs).2 (infs q pair (Ey k) xs).1 k f t
def infs (q:List UInt8→Bool) (pair:Bool) (w:Int):List Xp→Int×Bool
 | []=>(0,false)
 | x::xs=>if (inf q pair x).2≠0 then ((inf q pair x).2,false) else ((infs q pair w xs).1,((inf q pair x).1 != w)||(infs q pair w xs).2)
end
end Xp
theorem A2j (k:Int):A3 Tryz.prog 120 [vI k] (.tup [vI (Fp k),vI (Ey k)]):=by
 generalize hR:V.tup [vI (Fp k),vI (Ey k)]=R
 unfold Fp Ey at hR
 by_cases h1:k=6
 ·subst h1;subst hR
  (refine A3.of_code mix Tryz.call120 k_120 (by simp) (fun hB=>?_);(try simp at hB);(try simp -implicitDefEqProofs))
  (try simp -implicitDefEqProofs)
 by_cases h2:k=12
 ·subst h2;subst hR
  (refine A3.of_code mix Tryz.call120 k_120 (by simp) (fun hB=>?_);(try simp at hB);(try simp -implicitDefEqProofs))
  (try simp -implicitDefEqProofs)
 by_cases h3:k=13
 ·subst h3;subst hR
  (refine A3.of_code mix Tryz.call120 k_120 (by simp) (fun hB=>?_);(try simp at hB);(try simp -implicitDefEqProofs))
  (try simp -implicitDefEqProofs)
 have n1:(k==6)=false:=by simpa using h1
 have n2:(k==12)=false:=by simpa using h2
 have n3:(k==13)=false:=by simpa using h3
 rw [if_neg (show ¬(k=6∨k=12∨k=13) by omega)] at hR
 by_cases h4:14≤k∧k≤19
 ·rw [if_pos (by omega)] at hR
  subst hR
  obtain⟨a,b⟩:=h4
  (refine A3.of_code mix Tryz.call120 k_120 (by simp) (fun hB=>?_);(try simp at hB);(try simp -implicitDefEqProofs))
  (try simp -implicitDefEqProofs [n1,n2,n3,a,b])
 ·rw [if_neg (by omega)] at hR
  subst hR
  by_cases a:14≤k
  ·have b : ¬k≤19:=fun h=>h4 ⟨a,h⟩
   (refine A3.of_code mix Tryz.call120 k_120 (by simp) (fun hB=>?_);(try simp at hB);(try simp -implicitDefEqProofs))
   (try simp -implicitDefEqProofs [n1,n2,n3,a,b])
  ·(refine A3.of_code mix Tryz.call120 k_120 (by simp) (fun hB=>?_);(try simp at hB);(try simp -implicitDefEqProofs))
   (try simp -implicitDefEqProofs [n1,n2,n3,a])
theorem Zi (names:List (List UInt8)) (pair:Bool) : ∀(x:Xp),A3 Tryz.prog 75 [x.v,vSL names,vB pair] (.tup [vI (x.inf (inS names) pair).1,vI (x.inf (inS names) pair).2]):=by
 refine Xp.ind fun kd vl fr to nm xs ih=>?_
 have hkind:=A2j kd
 have hin:=A3w names nm
 rw [Xp.inf]
 rw [Xp.v,Xp.c_mk]
 generalize hq:inS names=q at *
 generalize hqn:q nm=qn at *
 generalize hr0:Xp.infs q pair (Ey kd) xs=r0 at *
 generalize hR:Du qn pair r0.2 r0.1 kd fr to=R at *
 generalize hop:Ey kd=w at *
 generalize how:Fp kd=ow at *
 (refine A3.of_code mix Tryz.call75 k_75 (by simp) (fun hB=>?_);(try simp at hB);(try simp -implicitDefEqProofs))
 ((try simp at hkind);(try simp -implicitDefEqProofs);repeat' first|(with_reducible apply A0<;>first|(simp only [eras,era,A1];first|with_reducible assumption)|(simp -implicitDefEqProofs)))
 refine A6 (X:=Nat×Bool) (fun X=>X.1≤xs.length∧(Xp.infs q pair w (xs.drop X.1)).1=r0.1∧(r0.1=0→(X.2||(Xp.infs q pair w (xs.drop X.1)).2)=r0.2)) (fun X=>[(1,vSL names),(2,vB pair),(3,.ptr 0 0),(8,vI ow),(9,vI w),(10,vB X.2),(11,vI X.1)]) (fun _=>⟨[.cells [vI kd,vI vl,vI fr,vI to,vS nm,Xp.l xs]],[]⟩) (fun X=>xs.length-X.1) (0,false) ⟨by simp,by simp [hr0],by simp [hr0]⟩ (by simp) ?_
 rintro ⟨k,wr⟩ ⟨hk,h1,h2⟩ hbd
 simp only [] at hk h1 h2
 clear hbd
 rcases Nat.lt_or_ge k xs.length with h|h
 ·have hx:xs[k]?=some xs[k]:=by simp [h]
  have hrec:=ih xs[k] (List.getElem_mem h)
  have e3:IntKind.i64.wrap ((k:Int)+1)=(k:Int)+1:=wrap64 (by omega) (by simp [maxLen] at hB;omega)
  have hlc:=C1 xs[k]
  have htc:=Bf xs[k]
  rw [List.drop_eq_getElem_cons h,Xp.infs] at h1 h2
  generalize hix:Xp.inf q pair xs[k]=ix at *
  obtain⟨it,ie⟩:=ix
  simp only [] at h1 h2 hrec
  by_cases he:ie=0
  ·rw [if_neg (by simpa using he)] at h1 h2
   simp only [] at h1 h2
   have he':(ie != 0)=false:=by simpa using he
   cases wr
   ·((try simp at hrec);(try simp -implicitDefEqProofs [h,e3,hlc,htc,he']);repeat' first|(with_reducible apply A0<;>first|(simp only [eras,era,A1];first|with_reducible assumption)|(simp -implicitDefEqProofs [h,e3,hlc,htc,he'])))
    have hp1:((k+1:Nat):Int)=(k:Int)+1:=by push_cast;rfl
    by_cases hw:it=w
    ·have hw':(it != w)=false:=by simpa using hw
     exact⟨k+1,.inl ⟨⟨by omega,h1,by simpa [hw'] using h2⟩,by omega,hw,hp1⟩⟩
    ·have hw':(it != w)=true:=by simpa using hw
     exact⟨k+1,.inr ⟨⟨by omega,h1,fun h=>by have:=h2 h;simpa [hw'] using this.symm⟩,by omega,hw,hp1⟩⟩
   ·((try simp at hrec);(try simp -implicitDefEqProofs [h,e3,hlc,htc,he']);repeat' first|(with_reducible apply A0<;>first|(simp only [eras,era,A1];first|with_reducible assumption)|(simp -implicitDefEqProofs [h,e3,hlc,htc,he'])))
    exact⟨k+1,⟨by omega,h1,fun h=>by have:=h2 h;simpa using this.symm⟩,by omega,by push_cast;rfl⟩
  ·rw [if_pos he] at h1
   simp only [] at h1
   have he':(ie != 0)=true:=by simpa using he
   rw [←h1] at hR
   unfold Du at hR
   rw [if_pos he] at hR
   subst hR
   ((try simp at hrec);(try simp -implicitDefEqProofs [h,e3,hlc,htc,he']);repeat' first|(with_reducible apply A0<;>first|(simp only [eras,era,A1];first|with_reducible assumption)|(simp -implicitDefEqProofs [h,e3,hlc,htc,he'])))
 ·have:k=xs.length:=by omega
  subst this
  simp only [List.drop_length,Xp.infs] at h1 h2
  have h2:=h2 h1.symm
  simp only [Bool.or_false] at h2
  rw [←h1,←h2] at hR
  unfold Du at hR
  rw [if_neg (by simp)] at hR
  cases wr
  ·rw [if_neg (by simp)] at hR
   have hcases:kd=2∨kd=21∨kd=22∨((kd==2)=false∧(kd==21)=false∧(kd==22)=false):=by
    simp only [beq_eq_false_iff_ne,ne_eq];omega
   rcases hcases with rfl|rfl|rfl|⟨n1,n2,n3⟩
   ·cases qn
    ·subst hR
     ((try simp at hin);(try simp -implicitDefEqProofs);repeat' first|(with_reducible apply A0<;>first|(simp only [eras,era,A1];first|with_reducible assumption)|(simp -implicitDefEqProofs)))
    ·rw [how] at hR
     subst hR
     ((try simp at hin);(try simp -implicitDefEqProofs);repeat' first|(with_reducible apply A0<;>first|(simp only [eras,era,A1];first|with_reducible assumption)|(simp -implicitDefEqProofs)))
   ·rw [how] at hR
    by_cases hft:to<fr
    ·have hft':decide (to<fr)=true:=by simpa using hft
     rw [if_neg (by simp),if_pos ⟨.inl rfl,hft⟩] at hR
     subst hR
     ((try simp at hin);(try simp -implicitDefEqProofs [hft']);repeat' first|(with_reducible apply A0<;>first|(simp only [eras,era,A1];first|with_reducible assumption)|(simp -implicitDefEqProofs [hft'])))
    ·have hft':decide (to<fr)=false:=by simpa using hft
     rw [if_neg (by simp),if_neg (fun h=>hft h.2),if_neg (by simp)] at hR
     subst hR
     ((try simp at hin);(try simp -implicitDefEqProofs [hft']);repeat' first|(with_reducible apply A0<;>first|(simp only [eras,era,A1];first|with_reducible assumption)|(simp -implicitDefEqProofs [hft'])))
   ·rw [how] at hR
    by_cases hft:to<fr
    ·have hft':decide (to<fr)=true:=by simpa using hft
     rw [if_neg (by simp),if_pos ⟨.inr rfl,hft⟩] at hR
     subst hR
     ((try simp at hin);(try simp -implicitDefEqProofs [hft']);repeat' first|(with_reducible apply A0<;>first|(simp only [eras,era,A1];first|with_reducible assumption)|(simp -implicitDefEqProofs [hft'])))
    ·have hft':decide (to<fr)=false:=by simpa using hft
     rw [if_neg (by simp),if_neg (fun h=>hft h.2)] at hR
     cases pair
     ·subst hR
      ((try simp at hin);(try simp -implicitDefEqProofs [hft']);repeat' first|(with_reducible apply A0<;>first|(simp only [eras,era,A1];first|with_reducible assumption)|(simp -implicitDefEqProofs [hft'])))
     ·subst hR
      ((try simp at hin);(try simp -implicitDefEqProofs [hft']);repeat' first|(with_reducible apply A0<;>first|(simp only [eras,era,A1];first|with_reducible assumption)|(simp -implicitDefEqProofs [hft'])))
   ·have m1 : ¬kd=2:=by simpa using n1
    have m2 : ¬kd=21:=by simpa using n2
    have m3 : ¬kd=22:=by simpa using n3
    rw [if_neg (fun h=>m1 h.1),if_neg (fun h=>h.1.elim m2 m3),if_neg (fun h=>m3 h.1),how] at hR
    subst hR
    ((try simp at hin);(try simp -implicitDefEqProofs [n1,n2,n3]);repeat' first|(with_reducible apply A0<;>first|(simp only [eras,era,A1];first|with_reducible assumption)|(simp -implicitDefEqProofs [n1,n2,n3])))
  ·rw [if_pos rfl] at hR
   subst hR
   ((try simp at hin);(try simp -implicitDefEqProofs);repeat' first|(with_reducible apply A0<;>first|(simp only [eras,era,A1];first|with_reducible assumption)|(simp -implicitDefEqProofs)))
end Go.Proofs.YtmlpmdccfmmpoaaGreatDoor
