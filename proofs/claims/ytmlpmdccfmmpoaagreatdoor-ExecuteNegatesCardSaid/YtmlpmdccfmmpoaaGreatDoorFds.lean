/- strings.Fields of the text of the double marks. -/
import Derived.Test.YtmlpmdccfmmpoaaGreatDoorCodeM
import Derived.Test.YtmlpmdccfmmpoaaGreatDoorApi
import Derived.Test.YtmlpmdccfmmpoaaGreatDoorCodeB
set_option linter.unusedSimpArgs false
set_option linter.unusedVariables false
set_option maxHeartbeats 4000000
set_option maxRecDepth 8000
namespace Go.Proofs.YtmlpmdccfmmpoaaGreatDoor
open E
def OkS (S:St):Prop:=leS S S
theorem A1u:OkS St0:=⟨trivial,trivial⟩
def Ix {α:Type} (q:α→Bool) (l:List α):Int:=match l.findIdx? q with|some i=>i|none=>-1
theorem Iy {α:Type} {q:α→Bool} {l:List α} {k:Nat} {x:α} (h:l[k]?=some x) (hn : ∀y∈l.take k,q y=false) (hq:q x=true):Ix q l=k:=by
  have hk:=A4 h
  have:l.findIdx? q=some k:=by
    rw [List.findIdx?_eq_some_iff_getElem]
    refine ⟨hk, by have : l[k] = x := by simpa [hk] using h
                   rw [this];exact hq,fun j hj=>?_⟩
    have:=hn l[j] (List.mem_iff_getElem?.2 ⟨j,by rw [List.getElem?_take,if_pos hj];simp [show j<l.length by omega]⟩)
    simp [this]
  simp [Ix,this]
theorem Gv {α:Type} {q:α→Bool} {l:List α} (hn : ∀y∈l,q y=false):Ix q l = -1:=by
 have:l.findIdx? q=none:=by rw [List.findIdx?_eq_none_iff];exact fun x hx=>hn x hx
 simp [Ix,this]
theorem Gw {α:Type} (q:α→Bool) (l:List α):decide (0≤Ix q l)=l.any q:=by
 unfold Ix
 cases h:l.findIdx? q with
 | none=>rw [List.findIdx?_eq_none_iff] at h;simp;intro x hx;simpa using h x hx
 | some i=>rw [List.findIdx?_eq_some_iff_getElem] at h;obtain⟨h1,h2,_⟩:=h;simp;exact⟨l[i],List.getElem_mem h1,h2⟩
end Go.Proofs.YtmlpmdccfmmpoaaGreatDoor
section
section
set_option linter.unusedSimpArgs false
set_option linter.unusedVariables false
set_option maxHeartbeats 1000000
set_option maxRecDepth 8000
namespace Go.Proofs.YtmlpmdccfmmpoaaGreatDoor
open E

def M3 (c:Int):Bool:=decide (97≤c)&&decide (c≤122)
def Gf (c:Int):Bool:=decide (48≤c)&&decide (c≤57)
def N8 (c:Int):Bool:=M3 c||Gf c||(c==95)
abbrev vY (c:Int):V:=.t (.int .u8 c)
theorem Qt (c:Int):A8 Tryz.prog 200 [vY c] (vB (M3 c)):=by
 unfold M3
 (refine A8.of_code mix Tryz.call200 k_200 (by simp) (fun hB=>?_);(try simp at hB);(try simp -implicitDefEqProofs))
 ((try simp -implicitDefEqProofs);repeat' first|((with_reducible first|apply Ac|apply Ad|apply A5)<;>(intro hc;have hc':=hc;(try simp at hc');simp -implicitDefEqProofs [hc,hc'])))
theorem L4 (c:Int):A8 Tryz.prog 203 [vY c] (vB (Gf c)):=by
 unfold Gf
 (refine A8.of_code mix Tryz.call203 k_203 (by simp) (fun hB=>?_);(try simp at hB);(try simp -implicitDefEqProofs))
 ((try simp -implicitDefEqProofs);repeat' first|((with_reducible first|apply Ac|apply Ad|apply A5)<;>(intro hc;have hc':=hc;(try simp at hc');simp -implicitDefEqProofs [hc,hc'])))
theorem A79 (c:Int):A8 Tryz.prog 202 [vY c] (vB (N8 c)):=by
 unfold N8
 have h1:=Qt c
 have h2:=L4 c
 generalize M3 c=a at *
 generalize Gf c=b at *
 (refine A8.of_code mix Tryz.call202 k_202 (by simp) (fun hB=>?_);(try simp at hB);(try simp -implicitDefEqProofs))
 cases a<;>cases b<;>((try simp at h1 h2);(try simp -implicitDefEqProofs);repeat' first|(with_reducible apply A0<;>first|(simp only [eras,era,A1];first|with_reducible assumption)|(simp -implicitDefEqProofs)))

def Eh (p:Int→Bool):List UInt8→Nat
 | []=>0
 | c::s=>if p c.toNat=true then 1+Eh p s else 0
theorem L5 (p:Int→Bool) (s:List UInt8):Eh p s≤s.length:=by
 induction s with
 | nil=>simp [Eh]
 | cons c s ih=>simp only [Eh,List.length_cons];split<;>omega
theorem Kg (c:UInt8) (s:List UInt8) (k:Nat):Am (c::s) ((k:Int)+1)=Am s k:=by
 unfold Am
 rw [show ((k:Int)+1).toNat=k+1 from by omega,show ((k:Int)).toNat=k from by omega]
 simp
theorem Ox (p:Int→Bool) : ∀(s:List UInt8) (k:Nat),k≤s.length→(∀j:Nat,j<k→p (Am s j)=true)→(k=s.length∨p (Am s k)=false)→Eh p s=k
 | [],k,hk,_,_=>by simp at hk;subst hk;rfl
 | c::s,0,hk,h1,h2=>by
  have:p (Am (c::s) ((0:Nat):Int))=false:=h2.resolve_left (by simp)
  simp only [Eh]
  rw [if_neg]
  have e:Am (c::s) ((0:Nat):Int)=(c.toNat:Int):=rfl
  rw [e] at this
  simp [this]
 | c::s,k+1,hk,h1,h2=>by
  have h0:=h1 0 (by omega)
  have e:Am (c::s) ((0:Nat):Int)=(c.toNat:Int):=rfl
  rw [e] at h0
  simp only [Eh,h0,if_true]
  have:=Ox p s k (by simpa using hk) (fun j hj=>by
   have:=h1 (j+1) (by omega)
   rwa [show (((j+1:Nat)):Int)=(j:Int)+1 from by push_cast;rfl,Kg] at this) (h2.imp (fun h=>by simpa using h) (fun h=>by
   rwa [show (((k+1:Nat)):Int)=(k:Int)+1 from by push_cast;rfl,Kg] at h))
  omega
theorem Z3 (p:Int→Bool) (f:Nat) (hf : ∀c:Int,A8 Tryz.prog f [vY c] (vB (p c))) (s:List UInt8) (hs:s.length≤1000000):A8 Tryz.prog 201 [vS s,.fn (.func f) []] (vI (Eh p s)):=by
 generalize hR:vI (Eh p s)=R
 (refine A8.of_code mix Tryz.call201 k_201 (by simp) (fun hB=>?_);(try simp at hB);(try simp -implicitDefEqProofs))
 refine A7 (X:=Nat) (fun k=>k≤s.length∧∀j:Nat,j<k→p (Am s j)=true) (fun k=>[(0,vS s),(1,.fn (.func f) []),(7,vI s.length),(8,vI k)]) (fun _=>St0) (fun k=>s.length-k) 0 ⟨by omega,fun j hj=>by omega⟩ (by simp) ?_
 rintro k ⟨hk,hp⟩ hbd
 rcases Nat.lt_or_ge k s.length with h|h
 ·have hc:=hf (Am s k)
  have e3:IntKind.i64.wrap ((k:Int)+1)=(k:Int)+1:=wrap64 (by omega) (by omega)
  cases hpk:p (Am s k)
  ·rw [Ox p s k hk hp (.inr hpk)] at hR
   subst hR
   rw [hpk] at hc
   ((try simp at hc);(try simp -implicitDefEqProofs [h,e3]);repeat' first|(with_reducible apply A0<;>first|(simp only [eras,era,A1];first|with_reducible assumption)|(simp -implicitDefEqProofs [h,e3])))
  ·rw [hpk] at hc
   ((try simp at hc);(try simp -implicitDefEqProofs [h,e3]);repeat' first|(with_reducible apply A0<;>first|(simp only [eras,era,A1];first|with_reducible assumption)|(simp -implicitDefEqProofs [h,e3])))
   refine⟨k+1,⟨by omega,fun j hj=>?_⟩,by omega,by push_cast;rfl⟩
   rcases Nat.lt_or_ge j k with h1|h1
   ·exact hp j h1
   ·have:j=k:=by omega
    subst this;exact hpk
 ·have:k=s.length:=by omega
  rw [Ox p s k hk hp (.inl this)] at hR
  subst this
  subst hR
  (try simp -implicitDefEqProofs)

def kwL:List (List UInt8):=[[114,117,108,101],[101,97,99,104],[101,110,116,105,116,121],[112,97,105,114],[108,101,116],[114,101,113,117,105,114,101],[112,111,115,116],[116,111],[112,101,114],[97,110,100],[111,114],[110,111,116],[109,105,110],[109,97,120],[97,98,115],[98,97,108,97,110,99,101],[112,97,114,116,110,101,114],[115,104,97,114,101]]
def kwB (s:List UInt8):Bool:=kwL.contains s
theorem A8c (s:List UInt8):A8 Tryz.prog 135 [vS s] (vB (kwB s)):=by
 generalize hR:vB (kwB s)=R
 (refine A8.of_code mix Tryz.call135 k_135 (by simp) (fun hB=>?_);(try simp at hB);(try simp -implicitDefEqProofs))
 ((try simp -implicitDefEqProofs);repeat' first|((with_reducible first|apply Ac|apply Ad|apply A5)<;>(intro hc;have hc':=hc;(try simp at hc');simp -implicitDefEqProofs [hc,hc'])))
 all_goals (subst hR;simp_all [kwB,kwL])
end Go.Proofs.YtmlpmdccfmmpoaaGreatDoor
end

/- Chapter 31: what is skipped ahead of a token. -/
section
set_option linter.unusedSimpArgs false
set_option linter.unusedVariables false
set_option maxHeartbeats 2000000
set_option maxRecDepth 8000
namespace Go.Proofs.YtmlpmdccfmmpoaaGreatDoor
open E

theorem Z4 (l:List UInt8) (k:Nat):(⟨l.toArray⟩:ByteArray).get! k=l.getD k 0:=by
 show (l.toArray)[k]! = _
 rw [getElem!_def]
 simp only [List.getElem?_toArray,List.getD_eq_getElem?_getD]
 cases l[k]?<;>rfl
theorem Nv {l:List UInt8} {p:Nat} (h:(l.getD p 0).toNat<128):Gm l p=((l.getD p 0).toNat:Int)∧E0 l p=1:=by
 unfold Gm E0 Utf8.decode
 simp only [Z4,Nat.add_zero]
 rw [if_pos (by exact h)]
 exact⟨rfl,rfl⟩
theorem X1 {l:List UInt8} {p:Nat} (hp:p<l.length) (h:128≤(l.getD p 0).toNat):128≤Gm l p∧1≤E0 l p∧p+E0 l p≤l.length∧∀j,j<E0 l p→128≤(l.getD (p+j) 0).toNat:=by
 have hsz:(⟨l.toArray⟩:ByteArray).size=l.length:=by simp [ByteArray.size]
 unfold Gm E0 Utf8.decode
 simp only [Z4,Nat.add_zero,hsz]
 rw [if_neg (by omega)]
 repeat' split
 all_goals have hsz2:(⟨l.toArray⟩:ByteArray).size=l.length:=by simp [ByteArray.size]
 all_goals rename_i hcond
 all_goals (try simp only [Bool.and_eq_true,decide_eq_true_eq,beq_iff_eq] at hcond)
 all_goals refine⟨?_,?_,?_,fun j hj=>?_⟩
 all_goals (try simp only [Bool.and_eq_true,decide_eq_true_eq,beq_iff_eq,Utf8.runeError,Nat.add_zero] at *)
 all_goals (try omega)
 all_goals (rcases j with _|_|_|_|j<;>(try simp only [Nat.zero_add,Nat.reduceAdd,Nat.add_zero] at *)<;>first|exact h|omega)

def skR:List UInt8→Bool→Nat
 | [],_=>0
 | c::s,com=>if c.toNat=10 then 1+skR s false else if com=true∨c.toNat=32∨c.toNat=9∨c.toNat=13 then 1+skR s com else if c.toNat=35 then 1+skR s true else 0
theorem Jj : ∀(s:List UInt8) (com:Bool),skR s com≤s.length
 | [],_=>by simp [skR]
 | c::s,com=>by
  have h1:=Jj s false
  have h2:=Jj s com
  have h3:=Jj s true
  simp only [skR,List.length_cons]
  (repeat' split)<;>omega
theorem Z5 : ∀(w:Nat) (s:List UInt8) (p:Nat),p+w≤s.length→(∀j,j<w→128≤(s.getD (p+j) 0).toNat)→skR (s.drop p) true=w+skR (s.drop (p+w)) true
 | 0,s,p,_,_=>by simp
 | w+1,s,p,h,hj=>by
  have hx:s.drop p=s.getD p 0::s.drop (p+1):=by
   rw [List.drop_eq_getElem_cons (by omega)]
   simp [List.getD_eq_getElem?_getD,show p<s.length by omega]
  have h0:=hj 0 (by omega)
  simp only [Nat.add_zero] at h0
  rw [hx,skR,if_neg (by omega),if_pos (.inl rfl),Z5 w s (p+1) (by omega) (fun j hj'=>by have:=hj (j+1) (by omega);rwa [show p+(j+1)=p+1+j from by omega] at this)]
  rw [show p+1+w=p+(w+1) from by omega]
  omega

theorem A1v (s:List UInt8) (hs:s.length≤1000000):A8 Tryz.prog 167 [vS s] (vI (skR s false)):=by
 generalize hR:vI (skR s false)=R
 (refine A8.of_code mix Tryz.call167 k_167 (by simp) (fun hB=>?_);(try simp at hB);(try simp -implicitDefEqProofs))
 refine A7 (X:=Nat×Bool) (fun X=>X.1≤s.length∧X.1+skR (s.drop X.1) X.2=skR s false) (fun X=>[(0,vS s),(3,vB X.2),(7,.ptr 0 0)]) (fun X=>⟨[.itr s X.1],[]⟩) (fun X=>s.length-X.1) (0,false) ⟨by omega,by simp⟩ (by simp) ?_
 rintro ⟨p,com⟩ ⟨hp,hk⟩ hbd
 simp only [] at hp hk
 clear hbd
 rcases Nat.lt_or_ge p s.length with h|h
 ·have hx:s.drop p=s.getD p 0::s.drop (p+1):=by
   rw [List.drop_eq_getElem_cons h]
   simp [List.getD_eq_getElem?_getD,h]
  rcases Nat.lt_or_ge (s.getD p 0).toNat 128 with hlo|hhi
  ·obtain⟨d1,d2⟩:=Nv hlo
   have hn:(s.getD p 0).toNat=(s.getD p 0).toNat:=rfl
   generalize hc:(s.getD p 0).toNat=c at *
   rw [hx,skR,hc] at hk
   by_cases c10:c=10
   ·rw [if_pos c10] at hk
    subst c10
    cases com
    ·(try simp -implicitDefEqProofs [h,d1,d2])
     exact⟨⟨by omega,by omega⟩,by omega⟩
    ·(try simp -implicitDefEqProofs [h,d1,d2])
     exact⟨⟨by omega,by omega⟩,by omega⟩
   rw [if_neg c10] at hk
   have k10:((c:Int)==10)=false:=by simp;omega
   cases com
   ·by_cases c3:c=32∨c=9∨c=13
    ·rw [if_pos (.inr c3)] at hk
     rcases c3 with rfl|rfl|rfl<;>((try simp -implicitDefEqProofs [h,d1,d2]);exact⟨⟨by omega,by omega⟩,by omega⟩)
    ·rw [if_neg (by simp [c3])] at hk
     have k32:((c:Int)==32)=false:=by simp;omega
     have k9:((c:Int)==9)=false:=by simp;omega
     have k13:((c:Int)==13)=false:=by simp;omega
     by_cases c35:c=35
     ·rw [if_pos c35] at hk
      subst c35
      (try simp -implicitDefEqProofs [h,d1,d2])
      exact⟨⟨by omega,by omega⟩,by omega⟩
     ·rw [if_neg c35] at hk
      have k35:((c:Int)==35)=false:=by simp;omega
      have hp0:skR s false=p:=by omega
      rw [hp0] at hR
      subst hR
      (try simp -implicitDefEqProofs [h,d1,d2,k10,k32,k9,k13,k35])
   ·rw [if_pos (.inl rfl)] at hk
    (try simp -implicitDefEqProofs [h,d1,d2,k10])
    exact⟨⟨by omega,by omega⟩,by omega⟩
  ·obtain⟨d1,d2,d3,d4⟩:=X1 h hhi
   generalize hr:Gm s p=r at *
   generalize hw:E0 s p=w at *
   have k10:(r==10)=false:=by simp;omega
   have k32:(r==32)=false:=by simp;omega
   have k9:(r==9)=false:=by simp;omega
   have k13:(r==13)=false:=by simp;omega
   have k35:(r==35)=false:=by simp;omega
   cases com
   ·have h0:skR (s.drop p) false=0:=by
     rw [hx,skR,if_neg (by omega),if_neg (by rintro (h|h|h|h)<;>first|(cases h;done)|omega),if_neg (by omega)]
    have hp0:skR s false=p:=by omega
    rw [hp0] at hR
    subst hR
    (try simp -implicitDefEqProofs [h,hr,hw,k10,k32,k9,k13,k35])
   ·have h0:=Z5 w s p d3 d4
    (try simp -implicitDefEqProofs [h,hr,hw,k10])
    exact⟨⟨by omega,by omega⟩,by omega⟩
 ·have:p=s.length:=by omega
  subst this
  have h0:skR (s.drop s.length) com=0:=by simp [skR]
  have hp0:skR s false=s.length:=by omega
  rw [hp0] at hR
  subst hR
  (try simp -implicitDefEqProofs)
end Go.Proofs.YtmlpmdccfmmpoaaGreatDoor
end
end
namespace Go.Proofs.YtmlpmdccfmmpoaaGreatDoor
open E
def A4t:List UInt8:=[46,46,32,60,61,32,62,61,32,33,61]
def A1w:List (List UInt8):=[[46,46],[60,61],[62,61],[33,61]]
def N9:List T:=(List.range 256).map fun i=>T.int .u8 (if i=9∨i=10∨i=11∨i=12∨i=13∨i=32 then 1 else 0)
theorem A4u:Tu 0=.tp N9 0:=by
 have:Pr 0=some N9:=by kernel_rfl
 unfold Tu
 rw [this];rfl
def f1 (k:Nat):Int×Int×Int:=[((0:Int),(1:Int),(0:Int)),(1,0,46),(1,0,46),(1,1,46),(2,0,62),(2,0,63),(2,1,63),(3,0,63),(3,0,63),(3,1,63),(4,0,63),(4,0,63)].getD k (0,0,0)

def f3 (k:Nat):Int×Int×List (List UInt8):=[((0:Int),(0:Int),[[],[],[],[]]),((0:Int),(0:Int),[[],[],[],[]]),((0:Int),(0:Int),[[],[],[],[]]),((1:Int),(3:Int),[[46,46],[],[],[]]),((1:Int),(3:Int),[[46,46],[],[],[]]),((1:Int),(3:Int),[[46,46],[],[],[]]),((2:Int),(6:Int),[[46,46],[60,61],[],[]]),((2:Int),(6:Int),[[46,46],[60,61],[],[]]),((2:Int),(6:Int),[[46,46],[60,61],[],[]]),((3:Int),(9:Int),[[46,46],[60,61],[62,61],[]]),((3:Int),(9:Int),[[46,46],[60,61],[62,61],[]]),((3:Int),(9:Int),[[46,46],[60,61],[62,61],[]])].getD k (0,0,[])
theorem Z6:A8 Tryz.prog 205 [vS A4t] (.t (.sl (A1w.map fun x=>[T.str x]))):=by
 have hA:=A4u
 have h256:N9.length=256:=by kernel_rfl
 have g46:N9[46]?=some (.int .u8 0):=by kernel_rfl
 have g32:N9[32]?=some (.int .u8 1):=by kernel_rfl
 have g60:N9[60]?=some (.int .u8 0):=by kernel_rfl
 have g61:N9[61]?=some (.int .u8 0):=by kernel_rfl
 have g62:N9[62]?=some (.int .u8 0):=by kernel_rfl
 have g33:N9[33]?=some (.int .u8 0):=by kernel_rfl
 have x0:Fc .xor .i64 (-1) 0 = -1:=by decide
 have x1:Fc .xor .i64 (-1) 1 = -2:=by decide
 have a0:Fc .and .i64 0 (-1)=0:=by decide
 have a1:Fc .and .i64 1 (-1)=1:=by decide
 have a2:Fc .and .i64 0 (-2)=0:=by decide
 have o1:Fc .or .u8 0 46=46:=by decide
 have o2:Fc .or .u8 46 46=46:=by decide
 have o3:Fc .or .u8 46 32=46:=by decide
 have o4:Fc .or .u8 46 60=62:=by decide
 have o5:Fc .or .u8 62 61=63:=by decide
 have o6:Fc .or .u8 63 32=63:=by decide
 have o7:Fc .or .u8 63 62=63:=by decide
 have o8:Fc .or .u8 63 61=63:=by decide
 have o9:Fc .or .u8 63 33=63:=by decide
 generalize N9=AS at *
 have q46 : ∀h:46<AS.length,AS[46]'h=.int .u8 0:=fun h=>by rw [List.getElem?_eq_getElem h] at g46;exact Option.some.inj g46
 have q32 : ∀h:32<AS.length,AS[32]'h=.int .u8 1:=fun h=>by rw [List.getElem?_eq_getElem h] at g32;exact Option.some.inj g32
 have q60 : ∀h:60<AS.length,AS[60]'h=.int .u8 0:=fun h=>by rw [List.getElem?_eq_getElem h] at g60;exact Option.some.inj g60
 have q61 : ∀h:61<AS.length,AS[61]'h=.int .u8 0:=fun h=>by rw [List.getElem?_eq_getElem h] at g61;exact Option.some.inj g61
 have q62 : ∀h:62<AS.length,AS[62]'h=.int .u8 0:=fun h=>by rw [List.getElem?_eq_getElem h] at g62;exact Option.some.inj g62
 have q33 : ∀h:33<AS.length,AS[33]'h=.int .u8 0:=fun h=>by rw [List.getElem?_eq_getElem h] at g33;exact Option.some.inj g33
 have sg:IntKind.i64.signed=true:=rfl
 generalize hs:A4t=s at *
 have hl:s.length=11:=by rw [←hs];rfl
 (refine A8.of_code mix Tryz.call205 k_205 (by simp) (fun hB=>?_);(try simp at hB);(try simp -implicitDefEqProofs))
 refine A7 (X:=Nat) (fun k=>k≤11) (fun k=>[(0,vS s),(3,vI (f1 k).1),(4,vI (f1 k).2.1),(5,.t (.int .u8 (f1 k).2.2)),(6,vI k)]) (fun _=>St0) (fun k=>11-k) 0 (by omega) (by simp [f1]) ?_
 rintro k hk hbd
 clear hbd
 rcases (by omega:k=0∨k=1∨k=2∨k=3∨k=4∨k=5∨k=6∨k=7∨k=8∨k=9∨k=10∨k=11) with rfl|rfl|rfl|rfl|rfl|rfl|rfl|rfl|rfl|rfl|rfl|rfl
 ·have hb:Am s 0=46:=by rw [←hs];rfl
  (try simp -implicitDefEqProofs [hb,f1,hl,hA,h256,q46,q32,q60,q61,q62,q33,sg,x0,x1,a0,a1,a2,o1,o2,o3,o4,o5,o6,o7,o8,o9])
  exact⟨1,by omega,by omega,rfl,rfl,rfl,rfl⟩
 ·have hb:Am s 1=46:=by rw [←hs];rfl
  (try simp -implicitDefEqProofs [hb,f1,hl,hA,h256,q46,q32,q60,q61,q62,q33,sg,x0,x1,a0,a1,a2,o1,o2,o3,o4,o5,o6,o7,o8,o9])
  exact⟨2,by omega,by omega,rfl,rfl,rfl,rfl⟩
 ·have hb:Am s 2=32:=by rw [←hs];rfl
  (try simp -implicitDefEqProofs [hb,f1,hl,hA,h256,q46,q32,q60,q61,q62,q33,sg,x0,x1,a0,a1,a2,o1,o2,o3,o4,o5,o6,o7,o8,o9])
  exact⟨3,by omega,by omega,rfl,rfl,rfl,rfl⟩
 ·have hb:Am s 3=60:=by rw [←hs];rfl
  (try simp -implicitDefEqProofs [hb,f1,hl,hA,h256,q46,q32,q60,q61,q62,q33,sg,x0,x1,a0,a1,a2,o1,o2,o3,o4,o5,o6,o7,o8,o9])
  exact⟨4,by omega,by omega,rfl,rfl,rfl,rfl⟩
 ·have hb:Am s 4=61:=by rw [←hs];rfl
  (try simp -implicitDefEqProofs [hb,f1,hl,hA,h256,q46,q32,q60,q61,q62,q33,sg,x0,x1,a0,a1,a2,o1,o2,o3,o4,o5,o6,o7,o8,o9])
  exact⟨5,by omega,by omega,rfl,rfl,rfl,rfl⟩
 ·have hb:Am s 5=32:=by rw [←hs];rfl
  (try simp -implicitDefEqProofs [hb,f1,hl,hA,h256,q46,q32,q60,q61,q62,q33,sg,x0,x1,a0,a1,a2,o1,o2,o3,o4,o5,o6,o7,o8,o9])
  exact⟨6,by omega,by omega,rfl,rfl,rfl,rfl⟩
 ·have hb:Am s 6=62:=by rw [←hs];rfl
  (try simp -implicitDefEqProofs [hb,f1,hl,hA,h256,q46,q32,q60,q61,q62,q33,sg,x0,x1,a0,a1,a2,o1,o2,o3,o4,o5,o6,o7,o8,o9])
  exact⟨7,by omega,by omega,rfl,rfl,rfl,rfl⟩
 ·have hb:Am s 7=61:=by rw [←hs];rfl
  (try simp -implicitDefEqProofs [hb,f1,hl,hA,h256,q46,q32,q60,q61,q62,q33,sg,x0,x1,a0,a1,a2,o1,o2,o3,o4,o5,o6,o7,o8,o9])
  exact⟨8,by omega,by omega,rfl,rfl,rfl,rfl⟩
 ·have hb:Am s 8=32:=by rw [←hs];rfl
  (try simp -implicitDefEqProofs [hb,f1,hl,hA,h256,q46,q32,q60,q61,q62,q33,sg,x0,x1,a0,a1,a2,o1,o2,o3,o4,o5,o6,o7,o8,o9])
  exact⟨9,by omega,by omega,rfl,rfl,rfl,rfl⟩
 ·have hb:Am s 9=33:=by rw [←hs];rfl
  (try simp -implicitDefEqProofs [hb,f1,hl,hA,h256,q46,q32,q60,q61,q62,q33,sg,x0,x1,a0,a1,a2,o1,o2,o3,o4,o5,o6,o7,o8,o9])
  exact⟨10,by omega,by omega,rfl,rfl,rfl,rfl⟩
 ·have hb:Am s 10=61:=by rw [←hs];rfl
  (try simp -implicitDefEqProofs [hb,f1,hl,hA,h256,q46,q32,q60,q61,q62,q33,sg,x0,x1,a0,a1,a2,o1,o2,o3,o4,o5,o6,o7,o8,o9])
  exact⟨11,by omega,by omega,rfl,rfl,rfl,rfl⟩
 ·(try simp -implicitDefEqProofs [f1,hl,hA,h256])
  refine⟨by simp [maxLen],?_⟩
  refine A7 (X:=Unit) (fun _=>True) (fun _=>[(0,vS s),(9,.bw 0 4),(10,vI 0),(11,vI 0),(12,vI 0)]) (fun _=>⟨[.buf 9 1 [vS [],vS [],vS [],vS []]],[]⟩) (fun _=>0) () trivial (by simp) ?_
  rintro ⟨⟩ _ _
  have hb:Am s 0=46:=by rw [←hs];rfl
  (try simp -implicitDefEqProofs [hb,hl,hA,h256,q46,q32,q60,q61,q62,q33])
  clear hb
  refine A7 (X:=Nat) (fun k=>k≤11) (fun k=>[(0,vS s),(9,.bw 0 4),(10,vI (f3 k).1),(11,vI (f3 k).2.1),(12,vI k)]) (fun k=>⟨[.buf 9 1 ((f3 k).2.2.map fun x=>vS x)],[]⟩) (fun k=>11-k) 0 (by omega) (by simp [f3]) ?_
  rintro k hk hbd
  clear hbd
  rcases (by omega:k=0∨k=1∨k=2∨k=3∨k=4∨k=5∨k=6∨k=7∨k=8∨k=9∨k=10∨k=11) with rfl|rfl|rfl|rfl|rfl|rfl|rfl|rfl|rfl|rfl|rfl|rfl
  ·have hb:Am s 0=46:=by rw [←hs];rfl
   (try simp -implicitDefEqProofs [f3,hb,hl,hA,h256,q46,q32,q60,q61,q62,q33])
   refine⟨1,by omega,by omega,?_⟩
   simp
  ·have hb:Am s 1=46:=by rw [←hs];rfl
   (try simp -implicitDefEqProofs [f3,hb,hl,hA,h256,q46,q32,q60,q61,q62,q33])
   refine⟨2,by omega,by omega,?_⟩
   simp
  ·have hb:Am s 2=32:=by rw [←hs];rfl
   have hsl:(s.take 2).drop 0=[46,46]:=by rw [←hs];rfl
   (try simp -implicitDefEqProofs [f3,hb,hsl,hl,hA,h256,q46,q32,q60,q61,q62,q33])
   refine A7 (X:=Unit) (fun _=>True) (fun _=>[(0,vS s),(9,.bw 0 4),(10,vI 1),(12,vI 3)]) (fun _=>⟨[.buf 9 1 ((f3 3).2.2.map fun x=>vS x)],[]⟩) (fun _=>0) () trivial (by simp [f3]) ?_
   rintro ⟨⟩ _ _
   have hb2:Am s 3=60:=by rw [←hs];rfl
   (try simp -implicitDefEqProofs [f3,hb2,hl,hA,h256,q46,q32,q60,q61,q62,q33])
   refine⟨3,by omega,by omega,?_⟩
   simp
  ·have hb:Am s 3=60:=by rw [←hs];rfl
   (try simp -implicitDefEqProofs [f3,hb,hl,hA,h256,q46,q32,q60,q61,q62,q33])
   refine⟨4,by omega,by omega,?_⟩
   simp
  ·have hb:Am s 4=61:=by rw [←hs];rfl
   (try simp -implicitDefEqProofs [f3,hb,hl,hA,h256,q46,q32,q60,q61,q62,q33])
   refine⟨5,by omega,by omega,?_⟩
   simp
  ·have hb:Am s 5=32:=by rw [←hs];rfl
   have hsl:(s.take 5).drop 3=[60,61]:=by rw [←hs];rfl
   (try simp -implicitDefEqProofs [f3,hb,hsl,hl,hA,h256,q46,q32,q60,q61,q62,q33])
   refine A7 (X:=Unit) (fun _=>True) (fun _=>[(0,vS s),(9,.bw 0 4),(10,vI 2),(12,vI 6)]) (fun _=>⟨[.buf 9 1 ((f3 6).2.2.map fun x=>vS x)],[]⟩) (fun _=>0) () trivial (by simp [f3]) ?_
   rintro ⟨⟩ _ _
   have hb2:Am s 6=62:=by rw [←hs];rfl
   (try simp -implicitDefEqProofs [f3,hb2,hl,hA,h256,q46,q32,q60,q61,q62,q33])
   refine⟨6,by omega,by omega,?_⟩
   simp
  ·have hb:Am s 6=62:=by rw [←hs];rfl
   (try simp -implicitDefEqProofs [f3,hb,hl,hA,h256,q46,q32,q60,q61,q62,q33])
   refine⟨7,by omega,by omega,?_⟩
   simp
  ·have hb:Am s 7=61:=by rw [←hs];rfl
   (try simp -implicitDefEqProofs [f3,hb,hl,hA,h256,q46,q32,q60,q61,q62,q33])
   refine⟨8,by omega,by omega,?_⟩
   simp
  ·have hb:Am s 8=32:=by rw [←hs];rfl
   have hsl:(s.take 8).drop 6=[62,61]:=by rw [←hs];rfl
   (try simp -implicitDefEqProofs [f3,hb,hsl,hl,hA,h256,q46,q32,q60,q61,q62,q33])
   refine A7 (X:=Unit) (fun _=>True) (fun _=>[(0,vS s),(9,.bw 0 4),(10,vI 3),(12,vI 9)]) (fun _=>⟨[.buf 9 1 ((f3 9).2.2.map fun x=>vS x)],[]⟩) (fun _=>0) () trivial (by simp [f3]) ?_
   rintro ⟨⟩ _ _
   have hb2:Am s 9=33:=by rw [←hs];rfl
   (try simp -implicitDefEqProofs [f3,hb2,hl,hA,h256,q46,q32,q60,q61,q62,q33])
   refine⟨9,by omega,by omega,?_⟩
   simp
  ·have hb:Am s 9=33:=by rw [←hs];rfl
   (try simp -implicitDefEqProofs [f3,hb,hl,hA,h256,q46,q32,q60,q61,q62,q33])
   refine⟨10,by omega,by omega,?_⟩
   simp
  ·have hb:Am s 10=61:=by rw [←hs];rfl
   (try simp -implicitDefEqProofs [f3,hb,hl,hA,h256,q46,q32,q60,q61,q62,q33])
   refine⟨11,by omega,by omega,?_⟩
   simp
  ·have hsl:(s.take 11).drop 9=[33,61]:=by rw [←hs];rfl
   (try simp -implicitDefEqProofs [f3,hsl,hl,hA,h256,q46,q32,q60,q61,q62,q33])
   rfl
end Go.Proofs.YtmlpmdccfmmpoaaGreatDoor
