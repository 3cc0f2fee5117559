/- strings.Fields of the text of the double marks. -/
import Derived.Test.YtmlpmdccfmmpoaaGreatDoorCodeM
import Derived.Test.YtmlpmdccfmmpoaaGreatDoorApi
import Derived.Test.YtmlpmdccfmmpoaaGreatDoorCodeB
set_option linter.unusedSimpArgs false
set_option linter.unusedVariables false
set_option maxHeartbeats 4000000
set_option maxRecDepth 8000
namespace Go.Proofs.YtmlpmdccfmmpoaaGreatDoor
open E
def OkS (S:St):Prop:=leS S S
theorem A1f:OkS St0:=⟨trivial,trivial⟩
def Hr {α:Type} (q:α→Bool) (l:List α):Int:=match l.findIdx? q with|some i=>i|none=>-1
theorem H1 {α:Type} {q:α→Bool} {l:List α} {k:Nat} {x:α} (h:l[k]?=some x) (hn : ∀y∈l.take k,q y=false) (hq:q x=true):Hr q l=k:=by
  have hk:=Ab h
  have:l.findIdx? q=some k:=by
    rw [List.findIdx?_eq_some_iff_getElem]
    refine ⟨hk, by have : l[k] = x := by simpa [hk] using h
                   rw [this];exact hq,fun j hj=>?_⟩
    have:=hn l[j] (List.mem_iff_getElem?.2 ⟨j,by rw [List.getElem?_take,if_pos hj];simp [show j<l.length by omega]⟩)
    simp [this]
  simp [Hr,this]
theorem F7 {α:Type} {q:α→Bool} {l:List α} (hn : ∀y∈l,q y=false):Hr q l = -1:=by
 have:l.findIdx? q=none:=by rw [List.findIdx?_eq_none_iff];exact fun x hx=>hn x hx
 simp [Hr,this]
theorem F8 {α:Type} (q:α→Bool) (l:List α):decide (0≤Hr q l)=l.any q:=by
 unfold Hr
 cases h:l.findIdx? q with
 | none=>rw [List.findIdx?_eq_none_iff] at h;simp;intro x hx;simpa using h x hx
 | some i=>rw [List.findIdx?_eq_some_iff_getElem] at h;obtain⟨h1,h2,_⟩:=h;simp;exact⟨l[i],List.getElem_mem h1,h2⟩
end Go.Proofs.YtmlpmdccfmmpoaaGreatDoor
section
section
set_option linter.unusedSimpArgs false
set_option linter.unusedVariables false
set_option maxHeartbeats 1000000
set_option maxRecDepth 8000
namespace Go.Proofs.YtmlpmdccfmmpoaaGreatDoor
open E

def Lv (c:Int):Bool:=decide (97≤c)&&decide (c≤122)
def G7 (c:Int):Bool:=decide (48≤c)&&decide (c≤57)
def Mq (c:Int):Bool:=Lv c||G7 c||(c==95)
abbrev vY (c:Int):V:=.t (.int .u8 c)
theorem Qd (c:Int):A7 Tryz.prog 200 [vY c] (vB (Lv c)):=by
 unfold Lv
 (refine A7.of_code mix Tryz.call200 k_200 (by simp) (fun hB=>?_);(try simp at hB);(try simp -implicitDefEqProofs))
 ((try simp -implicitDefEqProofs);repeat' first|((with_reducible first|apply A5|apply A6|apply A3)<;>(intro hc;have hc':=hc;(try simp at hc');simp -implicitDefEqProofs [hc,hc'])))
theorem Kv (c:Int):A7 Tryz.prog 203 [vY c] (vB (G7 c)):=by
 unfold G7
 (refine A7.of_code mix Tryz.call203 k_203 (by simp) (fun hB=>?_);(try simp at hB);(try simp -implicitDefEqProofs))
 ((try simp -implicitDefEqProofs);repeat' first|((with_reducible first|apply A5|apply A6|apply A3)<;>(intro hc;have hc':=hc;(try simp at hc');simp -implicitDefEqProofs [hc,hc'])))
theorem A6v (c:Int):A7 Tryz.prog 202 [vY c] (vB (Mq c)):=by
 unfold Mq
 have h1:=Qd c
 have h2:=Kv c
 generalize Lv c=a at *
 generalize G7 c=b at *
 (refine A7.of_code mix Tryz.call202 k_202 (by simp) (fun hB=>?_);(try simp at hB);(try simp -implicitDefEqProofs))
 cases a<;>cases b<;>((try simp at h1 h2);(try simp -implicitDefEqProofs);repeat' first|(with_reducible apply A0<;>first|(simp only [eras,era,A1];first|with_reducible assumption)|(simp -implicitDefEqProofs)))

def Ec (p:Int→Bool):List UInt8→Nat
 | []=>0
 | c::s=>if p c.toNat=true then 1+Ec p s else 0
theorem Kw (p:Int→Bool) (s:List UInt8):Ec p s≤s.length:=by
 induction s with
 | nil=>simp [Ec]
 | cons c s ih=>simp only [Ec,List.length_cons];split<;>omega
theorem K9 (c:UInt8) (s:List UInt8) (k:Nat):An (c::s) ((k:Int)+1)=An s k:=by
 unfold An
 rw [show ((k:Int)+1).toNat=k+1 from by omega,show ((k:Int)).toNat=k from by omega]
 simp
theorem Od (p:Int→Bool) : ∀(s:List UInt8) (k:Nat),k≤s.length→(∀j:Nat,j<k→p (An s j)=true)→(k=s.length∨p (An s k)=false)→Ec p s=k
 | [],k,hk,_,_=>by simp at hk;subst hk;rfl
 | c::s,0,hk,h1,h2=>by
  have:p (An (c::s) ((0:Nat):Int))=false:=h2.resolve_left (by simp)
  simp only [Ec]
  rw [if_neg]
  have e:An (c::s) ((0:Nat):Int)=(c.toNat:Int):=rfl
  rw [e] at this
  simp [this]
 | c::s,k+1,hk,h1,h2=>by
  have h0:=h1 0 (by omega)
  have e:An (c::s) ((0:Nat):Int)=(c.toNat:Int):=rfl
  rw [e] at h0
  simp only [Ec,h0,if_true]
  have:=Od p s k (by simpa using hk) (fun j hj=>by
   have:=h1 (j+1) (by omega)
   rwa [show (((j+1:Nat)):Int)=(j:Int)+1 from by push_cast;rfl,K9] at this) (h2.imp (fun h=>by simpa using h) (fun h=>by
   rwa [show (((k+1:Nat)):Int)=(k:Int)+1 from by push_cast;rfl,K9] at h))
  omega
theorem Yl (p:Int→Bool) (f:Nat) (hf : ∀c:Int,A7 Tryz.prog f [vY c] (vB (p c))) (s:List UInt8) (hs:s.length≤1000000):A7 Tryz.prog 201 [vS s,.fn (.func f) []] (vI (Ec p s)):=by
 generalize hR:vI (Ec p s)=R
 (refine A7.of_code mix Tryz.call201 k_201 (by simp) (fun hB=>?_);(try simp at hB);(try simp -implicitDefEqProofs))
 refine Ac (X:=Nat) (fun k=>k≤s.length∧∀j:Nat,j<k→p (An s j)=true) (fun k=>[(0,vS s),(1,.fn (.func f) []),(7,vI s.length),(8,vI k)]) (fun _=>St0) (fun k=>s.length-k) 0 ⟨by omega,fun j hj=>by omega⟩ (by simp) ?_
 rintro k ⟨hk,hp⟩ hbd
 rcases Nat.lt_or_ge k s.length with h|h
 ·have hc:=hf (An s k)
  have e3:IntKind.i64.wrap ((k:Int)+1)=(k:Int)+1:=wrap64 (by omega) (by omega)
  cases hpk:p (An s k)
  ·rw [Od p s k hk hp (.inr hpk)] at hR
   subst hR
   rw [hpk] at hc
   ((try simp at hc);(try simp -implicitDefEqProofs [h,e3]);repeat' first|(with_reducible apply A0<;>first|(simp only [eras,era,A1];first|with_reducible assumption)|(simp -implicitDefEqProofs [h,e3])))
  ·rw [hpk] at hc
   ((try simp at hc);(try simp -implicitDefEqProofs [h,e3]);repeat' first|(with_reducible apply A0<;>first|(simp only [eras,era,A1];first|with_reducible assumption)|(simp -implicitDefEqProofs [h,e3])))
   refine⟨k+1,⟨by omega,fun j hj=>?_⟩,by omega,by push_cast;rfl⟩
   rcases Nat.lt_or_ge j k with h1|h1
   ·exact hp j h1
   ·have:j=k:=by omega
    subst this;exact hpk
 ·have:k=s.length:=by omega
  rw [Od p s k hk hp (.inl this)] at hR
  subst this
  subst hR
  (try simp -implicitDefEqProofs)

def kwL:List (List UInt8):=[[114,117,108,101],[101,97,99,104],[101,110,116,105,116,121],[112,97,105,114],[108,101,116],[114,101,113,117,105,114,101],[112,111,115,116],[116,111],[112,101,114],[97,110,100],[111,114],[110,111,116],[109,105,110],[109,97,120],[97,98,115],[98,97,108,97,110,99,101],[112,97,114,116,110,101,114],[115,104,97,114,101]]
def kwB (s:List UInt8):Bool:=kwL.contains s
theorem A81 (s:List UInt8):A7 Tryz.prog 135 [vS s] (vB (kwB s)):=by
 generalize hR:vB (kwB s)=R
 (refine A7.of_code mix Tryz.call135 k_135 (by simp) (fun hB=>?_);(try simp at hB);(try simp -implicitDefEqProofs))
 ((try simp -implicitDefEqProofs);repeat' first|((with_reducible first|apply A5|apply A6|apply A3)<;>(intro hc;have hc':=hc;(try simp at hc');simp -implicitDefEqProofs [hc,hc'])))
 all_goals (subst hR;simp_all [kwB,kwL])
end Go.Proofs.YtmlpmdccfmmpoaaGreatDoor
end

/- Chapter 31: what is skipped ahead of a token. -/
section
set_option linter.unusedSimpArgs false
set_option linter.unusedVariables false
set_option maxHeartbeats 2000000
set_option maxRecDepth 8000
namespace Go.Proofs.YtmlpmdccfmmpoaaGreatDoor
open E

theorem Ym (l:List UInt8) (k:Nat):(⟨l.toArray⟩:ByteArray).get! k=l.getD k 0:=by
 show (l.toArray)[k]! = _
 rw [getElem!_def]
 simp only [List.getElem?_toArray,List.getD_eq_getElem?_getD]
 cases l[k]?<;>rfl
theorem Nb {l:List UInt8} {p:Nat} (h:(l.getD p 0).toNat<128):Gc l p=((l.getD p 0).toNat:Int)∧Dz l p=1:=by
 unfold Gc Dz Utf8.decode
 simp only [Ym,Nat.add_zero]
 rw [if_pos (by exact h)]
 exact⟨rfl,rfl⟩
theorem Wm {l:List UInt8} {p:Nat} (hp:p<l.length) (h:128≤(l.getD p 0).toNat):128≤Gc l p∧1≤Dz l p∧p+Dz l p≤l.length∧∀j,j<Dz l p→128≤(l.getD (p+j) 0).toNat:=by
 have hsz:(⟨l.toArray⟩:ByteArray).size=l.length:=by simp [ByteArray.size]
 unfold Gc Dz Utf8.decode
 simp only [Ym,Nat.add_zero,hsz]
 rw [if_neg (by omega)]
 repeat' split
 all_goals have hsz2:(⟨l.toArray⟩:ByteArray).size=l.length:=by simp [ByteArray.size]
 all_goals rename_i hcond
 all_goals (try simp only [Bool.and_eq_true,decide_eq_true_eq,beq_iff_eq] at hcond)
 all_goals refine⟨?_,?_,?_,fun j hj=>?_⟩
 all_goals (try simp only [Bool.and_eq_true,decide_eq_true_eq,beq_iff_eq,Utf8.runeError,Nat.add_zero] at *)
 all_goals (try omega)
 all_goals (rcases j with _|_|_|_|j<;>(try simp only [Nat.zero_add,Nat.reduceAdd,Nat.add_zero] at *)<;>first|exact h|omega)

def skR:List UInt8→Bool→Nat
 | [],_=>0
 | c::s,com=>if c.toNat=10 then 1+skR s false else if com=true∨c.toNat=32∨c.toNat=9∨c.toNat=13 then 1+skR s com else if c.toNat=35 then 1+skR s true else 0
theorem Jd : ∀(s:List UInt8) (com:Bool),skR s com≤s.length
 | [],_=>by simp [skR]
 | c::s,com=>by
  have h1:=Jd s false
  have h2:=Jd s com
  have h3:=Jd s true
  simp only [skR,List.length_cons]
  (repeat' split)<;>omega
theorem Yn : ∀(w:Nat) (s:List UInt8) (p:Nat),p+w≤s.length→(∀j,j<w→128≤(s.getD (p+j) 0).toNat)→skR (s.drop p) true=w+skR (s.drop (p+w)) true
 | 0,s,p,_,_=>by simp
 | w+1,s,p,h,hj=>by
  have hx:s.drop p=s.getD p 0::s.drop (p+1):=by
   rw [List.drop_eq_getElem_cons (by omega)]
   simp [List.getD_eq_getElem?_getD,show p<s.length by omega]
  have h0:=hj 0 (by omega)
  simp only [Nat.add_zero] at h0
  rw [hx,skR,if_neg (by omega),if_pos (.inl rfl),Yn w s (p+1) (by omega) (fun j hj'=>by have:=hj (j+1) (by omega);rwa [show p+(j+1)=p+1+j from by omega] at this)]
  rw [show p+1+w=p+(w+1) from by omega]
  omega

theorem A1g (s:List UInt8) (hs:s.length≤1000000):A7 Tryz.prog 167 [vS s] (vI (skR s false)):=by
 generalize hR:vI (skR s false)=R
 (refine A7.of_code mix Tryz.call167 k_167 (by simp) (fun hB=>?_);(try simp at hB);(try simp -implicitDefEqProofs))
 refine Ac (X:=Nat×Bool) (fun X=>X.1≤s.length∧X.1+skR (s.drop X.1) X.2=skR s false) (fun X=>[(0,vS s),(3,vB X.2),(7,.ptr 0 0)]) (fun X=>⟨[.itr s X.1],[]⟩) (fun X=>s.length-X.1) (0,false) ⟨by omega,by simp⟩ (by simp) ?_
 rintro ⟨p,com⟩ ⟨hp,hk⟩ hbd
 simp only [] at hp hk
 clear hbd
 rcases Nat.lt_or_ge p s.length with h|h
 ·have hx:s.drop p=s.getD p 0::s.drop (p+1):=by
   rw [List.drop_eq_getElem_cons h]
   simp [List.getD_eq_getElem?_getD,h]
  rcases Nat.lt_or_ge (s.getD p 0).toNat 128 with hlo|hhi
  ·obtain⟨d1,d2⟩:=Nb hlo
   have hn:(s.getD p 0).toNat=(s.getD p 0).toNat:=rfl
   generalize hc:(s.getD p 0).toNat=c at *
   rw [hx,skR,hc] at hk
   by_cases c10:c=10
   ·rw [if_pos c10] at hk
    subst c10
    cases com
    ·(try simp -implicitDefEqProofs [h,d1,d2])
     exact⟨⟨by omega,by omega⟩,by omega⟩
    ·(try simp -implicitDefEqProofs [h,d1,d2])
     exact⟨⟨by omega,by omega⟩,by omega⟩
   rw [if_neg c10] at hk
   have k10:((c:Int)==10)=false:=by simp;omega
   cases com
   ·by_cases c3:c=32∨c=9∨c=13
    ·rw [if_pos (.inr c3)] at hk
     rcases c3 with rfl|rfl|rfl<;>((try simp -implicitDefEqProofs [h,d1,d2]);exact⟨⟨by omega,by omega⟩,by omega⟩)
    ·rw [if_neg (by simp [c3])] at hk
     have k32:((c:Int)==32)=false:=by simp;omega
     have k9:((c:Int)==9)=false:=by simp;omega
     have k13:((c:Int)==13)=false:=by simp;omega
     by_cases c35:c=35
     ·rw [if_pos c35] at hk
      subst c35
      (try simp -implicitDefEqProofs [h,d1,d2])
      exact⟨⟨by omega,by omega⟩,by omega⟩
     ·rw [if_neg c35] at hk
      have k35:((c:Int)==35)=false:=by simp;omega
      have hp0:skR s false=p:=by omega
      rw [hp0] at hR
      subst hR
      (try simp -implicitDefEqProofs [h,d1,d2,k10,k32,k9,k13,k35])
   ·rw [if_pos (.inl rfl)] at hk
    (try simp -implicitDefEqProofs [h,d1,d2,k10])
    exact⟨⟨by omega,by omega⟩,by omega⟩
  ·obtain⟨d1,d2,d3,d4⟩:=Wm h hhi
   generalize hr:Gc s p=r at *
   generalize hw:Dz s p=w at *
   have k10:(r==10)=false:=by simp;omega
   have k32:(r==32)=false:=by simp;omega
   have k9:(r==9)=false:=by simp;omega
   have k13:(r==13)=false:=by simp;omega
   have k35:(r==35)=false:=by simp;omega
   cases com
   ·have h0:skR (s.drop p) false=0:=by
     rw [hx,skR,if_neg (by omega),if_neg (by rintro (h|h|h|h)<;>first|(cases h;done)|omega),if_neg (by omega)]
    have hp0:skR s false=p:=by omega
    rw [hp0] at hR
    subst hR
    (try simp -implicitDefEqProofs [h,hr,hw,k10,k32,k9,k13,k35])
   ·have h0:=Yn w s p d3 d4
    (try simp -implicitDefEqProofs [h,hr,hw,k10])
    exact⟨⟨by omega,by omega⟩,by omega⟩
 ·have:p=s.length:=by omega
  subst this
  have h0:skR (s.drop s.length) com=0:=by simp [skR]
  have hp0:skR s false=s.length:=by omega
  rw [hp0] at hR
  subst hR
  (try simp -implicitDefEqProofs)
end Go.Proofs.YtmlpmdccfmmpoaaGreatDoor
end
end
namespace Go.Proofs.YtmlpmdccfmmpoaaGreatDoor
open E
def A4f:List UInt8:=[46,46,32,60,61,32,62,61,32,33,61]
def A1h:List (List UInt8):=[[46,46],[60,61],[62,61],[33,61]]
def Mr:List T:=(List.range 256).map fun i=>T.int .u8 (if i=9∨i=10∨i=11∨i=12∨i=13∨i=32 then 1 else 0)
theorem A4g:T8 0=.tp Mr 0:=by
 have:P9 0=some Mr:=by kernel_rfl
 unfold T8
 rw [this];rfl
def f1 (k:Nat):Int×Int×Int:=[((0:Int),(1:Int),(0:Int)),(1,0,46),(1,0,46),(1,1,46),(2,0,62),(2,0,63),(2,1,63),(3,0,63),(3,0,63),(3,1,63),(4,0,63),(4,0,63)].getD k (0,0,0)

def f3 (k:Nat):Int×Int×List (List UInt8):=[((0:Int),(0:Int),[[],[],[],[]]),((0:Int),(0:Int),[[],[],[],[]]),((0:Int),(0:Int),[[],[],[],[]]),((1:Int),(3:Int),[[46,46],[],[],[]]),((1:Int),(3:Int),[[46,46],[],[],[]]),((1:Int),(3:Int),[[46,46],[],[],[]]),((2:Int),(6:Int),[[46,46],[60,61],[],[]]),((2:Int),(6:Int),[[46,46],[60,61],[],[]]),((2:Int),(6:Int),[[46,46],[60,61],[],[]]),((3:Int),(9:Int),[[46,46],[60,61],[62,61],[]]),((3:Int),(9:Int),[[46,46],[60,61],[62,61],[]]),((3:Int),(9:Int),[[46,46],[60,61],[62,61],[]])].getD k (0,0,[])
theorem Yo:A7 Tryz.prog 205 [vS A4f] (.t (.sl (A1h.map fun x=>[T.str x]))):=by
 have hA:=A4g
 have h256:Mr.length=256:=by kernel_rfl
 have g46:Mr[46]?=some (.int .u8 0):=by kernel_rfl
 have g32:Mr[32]?=some (.int .u8 1):=by kernel_rfl
 have g60:Mr[60]?=some (.int .u8 0):=by kernel_rfl
 have g61:Mr[61]?=some (.int .u8 0):=by kernel_rfl
 have g62:Mr[62]?=some (.int .u8 0):=by kernel_rfl
 have g33:Mr[33]?=some (.int .u8 0):=by kernel_rfl
 have x0:Ez .xor .i64 (-1) 0 = -1:=by decide
 have x1:Ez .xor .i64 (-1) 1 = -2:=by decide
 have a0:Ez .and .i64 0 (-1)=0:=by decide
 have a1:Ez .and .i64 1 (-1)=1:=by decide
 have a2:Ez .and .i64 0 (-2)=0:=by decide
 have o1:Ez .or .u8 0 46=46:=by decide
 have o2:Ez .or .u8 46 46=46:=by decide
 have o3:Ez .or .u8 46 32=46:=by decide
 have o4:Ez .or .u8 46 60=62:=by decide
 have o5:Ez .or .u8 62 61=63:=by decide
 have o6:Ez .or .u8 63 32=63:=by decide
 have o7:Ez .or .u8 63 62=63:=by decide
 have o8:Ez .or .u8 63 61=63:=by decide
 have o9:Ez .or .u8 63 33=63:=by decide
 generalize Mr=AS at *
 have q46 : ∀h:46<AS.length,AS[46]'h=.int .u8 0:=fun h=>by rw [List.getElem?_eq_getElem h] at g46;exact Option.some.inj g46
 have q32 : ∀h:32<AS.length,AS[32]'h=.int .u8 1:=fun h=>by rw [List.getElem?_eq_getElem h] at g32;exact Option.some.inj g32
 have q60 : ∀h:60<AS.length,AS[60]'h=.int .u8 0:=fun h=>by rw [List.getElem?_eq_getElem h] at g60;exact Option.some.inj g60
 have q61 : ∀h:61<AS.length,AS[61]'h=.int .u8 0:=fun h=>by rw [List.getElem?_eq_getElem h] at g61;exact Option.some.inj g61
 have q62 : ∀h:62<AS.length,AS[62]'h=.int .u8 0:=fun h=>by rw [List.getElem?_eq_getElem h] at g62;exact Option.some.inj g62
 have q33 : ∀h:33<AS.length,AS[33]'h=.int .u8 0:=fun h=>by rw [List.getElem?_eq_getElem h] at g33;exact Option.some.inj g33
 have sg:IntKind.i64.signed=true:=rfl
 generalize hs:A4f=s at *
 have hl:s.length=11:=by rw [←hs];rfl
 (refine A7.of_code mix Tryz.call205 k_205 (by simp) (fun hB=>?_);(try simp at hB);(try simp -implicitDefEqProofs))
 refine Ac (X:=Nat) (fun k=>k≤11) (fun k=>[(0,vS s),(3,vI (f1 k).1),(4,vI (f1 k).2.1),(5,.t (.int .u8 (f1 k).2.2)),(6,vI k)]) (fun _=>St0) (fun k=>11-k) 0 (by omega) (by simp [f1]) ?_
 rintro k hk hbd
 clear hbd
 rcases (by omega:k=0∨k=1∨k=2∨k=3∨k=4∨k=5∨k=6∨k=7∨k=8∨k=9∨k=10∨k=11) with rfl|rfl|rfl|rfl|rfl|rfl|rfl|rfl|rfl|rfl|rfl|rfl
 ·have hb:An s 0=46:=by rw [←hs];rfl
  (try simp -implicitDefEqProofs [hb,f1,hl,hA,h256,q46,q32,q60,q61,q62,q33,sg,x0,x1,a0,a1,a2,o1,o2,o3,o4,o5,o6,o7,o8,o9])
  exact⟨1,by omega,by omega,rfl,rfl,rfl,rfl⟩
 ·have hb:An s 1=46:=by rw [←hs];rfl
  (try simp -implicitDefEqProofs [hb,f1,hl,hA,h256,q46,q32,q60,q61,q62,q33,sg,x0,x1,a0,a1,a2,o1,o2,o3,o4,o5,o6,o7,o8,o9])
  exact⟨2,by omega,by omega,rfl,rfl,rfl,rfl⟩
 ·have hb:An s 2=32:=by rw [←hs];rfl
  (try simp -implicitDefEqProofs [hb,f1,hl,hA,h256,q46,q32,q60,q61,q62,q33,sg,x0,x1,a0,a1,a2,o1,o2,o3,o4,o5,o6,o7,o8,o9])
  exact⟨3,by omega,by omega,rfl,rfl,rfl,rfl⟩
 ·have hb:An s 3=60:=by rw [←hs];rfl
  (try simp -implicitDefEqProofs [hb,f1,hl,hA,h256,q46,q32,q60,q61,q62,q33,sg,x0,x1,a0,a1,a2,o1,o2,o3,o4,o5,o6,o7,o8,o9])
  exact⟨4,by omega,by omega,rfl,rfl,rfl,rfl⟩
 ·have hb:An s 4=61:=by rw [←hs];rfl
  (try simp -implicitDefEqProofs [hb,f1,hl,hA,h256,q46,q32,q60,q61,q62,q33,sg,x0,x1,a0,a1,a2,o1,o2,o3,o4,o5,o6,o7,o8,o9])
  exact⟨5,by omega,by omega,rfl,rfl,rfl,rfl⟩
 ·have hb:An s 5=32:=by rw [←hs];rfl
  (try simp -implicitDefEqProofs [hb,f1,hl,hA,h256,q46,q32,q60,q61,q62,q33,sg,x0,x1,a0,a1,a2,o1,o2,o3,o4,o5,o6,o7,o8,o9])
  exact⟨6,by omega,by omega,rfl,rfl,rfl,rfl⟩
 ·have hb:An s 6=62:=by rw [←hs];rfl
  (try simp -implicitDefEqProofs [hb,f1,hl,hA,h256,q46,q32,q60,q61,q62,q33,sg,x0,x1,a0,a1,a2,o1,o2,o3,o4,o5,o6,o7,o8,o9])
  exact⟨7,by omega,by omega,rfl,rfl,rfl,rfl⟩
 ·have hb:An s 7=61:=by rw [←hs];rfl
  (try simp -implicitDefEqProofs [hb,f1,hl,hA,h256,q46,q32,q60,q61,q62,q33,sg,x0,x1,a0,a1,a2,o1,o2,o3,o4,o5,o6,o7,o8,o9])
  exact⟨8,by omega,by omega,rfl,rfl,rfl,rfl⟩
 ·have hb:An s 8=32:=by rw [←hs];rfl
  (try simp -implicitDefEqProofs [hb,f1,hl,hA,h256,q46,q32,q60,q61,q62,q33,sg,x0,x1,a0,a1,a2,o1,o2,o3,o4,o5,o6,o7,o8,o9])
  exact⟨9,by omega,by omega,rfl,rfl,rfl,rfl⟩
 ·have hb:An s 9=33:=by rw [←hs];rfl
  (try simp -implicitDefEqProofs [hb,f1,hl,hA,h256,q46,q32,q60,q61,q62,q33,sg,x0,x1,a0,a1,a2,o1,o2,o3,o4,o5,o6,o7,o8,o9])
  exact⟨10,by omega,by omega,rfl,rfl,rfl,rfl⟩
 ·have hb:An s 10=61:=by rw [←hs];rfl
  (try simp -implicitDefEqProofs [hb,f1,hl,hA,h256,q46,q32,q60,q61,q62,q33,sg,x0,x1,a0,a1,a2,o1,o2,o3,o4,o5,o6,o7,o8,o9])
  exact⟨11,by omega,by omega,rfl,rfl,rfl,rfl⟩
 ·(try simp -implicitDefEqProofs [f1,hl,hA,h256])
  refine⟨by simp [maxLen],?_⟩
  refine Ac (X:=Unit) (fun _=>True) (fun _=>[(0,vS s),(9,.bw 0 4),(10,vI 0),(11,vI 0),(12,vI 0)]) (fun _=>⟨[.buf 9 1 [vS [],vS [],vS [],vS []]],[]⟩) (fun _=>0) () trivial (by simp) ?_
  rintro ⟨⟩ _ _
  have hb:An s 0=46:=by rw [←hs];rfl
  (try simp -implicitDefEqProofs [hb,hl,hA,h256,q46,q32,q60,q61,q62,q33])
  clear hb
  refine Ac (X:=Nat) (fun k=>k≤11) (fun k=>[(0,vS s),(9,.bw 0 4),(10,vI (f3 k).1),(11,vI (f3 k).2.1),(12,vI k)]) (fun k=>⟨[.buf 9 1 ((f3 k).2.2.map fun x=>vS x)],[]⟩) (fun k=>11-k) 0 (by omega) (by simp [f3]) ?_
  rintro k hk hbd
  clear hbd
  rcases (by omega:k=0∨k=1∨k=2∨k=3∨k=4∨k=5∨k=6∨k=7∨k=8∨k=9∨k=10∨k=11) with rfl|rfl|rfl|rfl|rfl|rfl|rfl|rfl|rfl|rfl|rfl|rfl
  ·have hb:An s 0=46:=by rw [←hs];rfl
   (try simp -implicitDefEqProofs [f3,hb,hl,hA,h256,q46,q32,q60,q61,q62,q33])
   refine⟨1,by omega,by omega,?_⟩
   simp
  ·have hb:An s 1=46:=by rw [←hs];rfl
   (try simp -implicitDefEqProofs [f3,hb,hl,hA,h256,q46,q32,q60,q61,q62,q33])
   refine⟨2,by omega,by omega,?_⟩
   simp
  ·have hb:An s 2=32:=by rw [←hs];rfl
   have hsl:(s.take 2).drop 0=[46,46]:=by rw [←hs];rfl
   (try simp -implicitDefEqProofs [f3,hb,hsl,hl,hA,h256,q46,q32,q60,q61,q62,q33])
   refine Ac (X:=Unit) (fun _=>True) (fun _=>[(0,vS s),(9,.bw 0 4),(10,vI 1),(12,vI 3)]) (fun _=>⟨[.buf 9 1 ((f3 3).2.2.map fun x=>vS x)],[]⟩) (fun _=>0) () trivial (by simp [f3]) ?_
   rintro ⟨⟩ _ _
   have hb2:An s 3=60:=by rw [←hs];rfl
   (try simp -implicitDefEqProofs [f3,hb2,hl,hA,h256,q46,q32,q60,q61,q62,q33])
   refine⟨3,by omega,by omega,?_⟩
   simp
  ·have hb:An s 3=60:=by rw [←hs];rfl
   (try simp -implicitDefEqProofs [f3,hb,hl,hA,h256,q46,q32,q60,q61,q62,q33])
   refine⟨4,by omega,by omega,?_⟩
   simp
  ·have hb:An s 4=61:=by rw [←hs];rfl
   (try simp -implicitDefEqProofs [f3,hb,hl,hA,h256,q46,q32,q60,q61,q62,q33])
   refine⟨5,by omega,by omega,?_⟩
   simp
  ·have hb:An s 5=32:=by rw [←hs];rfl
   have hsl:(s.take 5).drop 3=[60,61]:=by rw [←hs];rfl
   (try simp -implicitDefEqProofs [f3,hb,hsl,hl,hA,h256,q46,q32,q60,q61,q62,q33])
   refine Ac (X:=Unit) (fun _=>True) (fun _=>[(0,vS s),(9,.bw 0 4),(10,vI 2),(12,vI 6)]) (fun _=>⟨[.buf 9 1 ((f3 6).2.2.map fun x=>vS x)],[]⟩) (fun _=>0) () trivial (by simp [f3]) ?_
   rintro ⟨⟩ _ _
   have hb2:An s 6=62:=by rw [←hs];rfl
   (try simp -implicitDefEqProofs [f3,hb2,hl,hA,h256,q46,q32,q60,q61,q62,q33])
   refine⟨6,by omega,by omega,?_⟩
   simp
  ·have hb:An s 6=62:=by rw [←hs];rfl
   (try simp -implicitDefEqProofs [f3,hb,hl,hA,h256,q46,q32,q60,q61,q62,q33])
   refine⟨7,by omega,by omega,?_⟩
   simp
  ·have hb:An s 7=61:=by rw [←hs];rfl
   (try simp -implicitDefEqProofs [f3,hb,hl,hA,h256,q46,q32,q60,q61,q62,q33])
   refine⟨8,by omega,by omega,?_⟩
   simp
  ·have hb:An s 8=32:=by rw [←hs];rfl
   have hsl:(s.take 8).drop 6=[62,61]:=by rw [←hs];rfl
   (try simp -implicitDefEqProofs [f3,hb,hsl,hl,hA,h256,q46,q32,q60,q61,q62,q33])
   refine Ac (X:=Unit) (fun _=>True) (fun _=>[(0,vS s),(9,.bw 0 4),(10,vI 3),(12,vI 9)]) (fun _=>⟨[.buf 9 1 ((f3 9).2.2.map fun x=>vS x)],[]⟩) (fun _=>0) () trivial (by simp [f3]) ?_
   rintro ⟨⟩ _ _
   have hb2:An s 9=33:=by rw [←hs];rfl
   (try simp -implicitDefEqProofs [f3,hb2,hl,hA,h256,q46,q32,q60,q61,q62,q33])
   refine⟨9,by omega,by omega,?_⟩
   simp
  ·have hb:An s 9=33:=by rw [←hs];rfl
   (try simp -implicitDefEqProofs [f3,hb,hl,hA,h256,q46,q32,q60,q61,q62,q33])
   refine⟨10,by omega,by omega,?_⟩
   simp
  ·have hb:An s 10=61:=by rw [←hs];rfl
   (try simp -implicitDefEqProofs [f3,hb,hl,hA,h256,q46,q32,q60,q61,q62,q33])
   refine⟨11,by omega,by omega,?_⟩
   simp
  ·have hsl:(s.take 11).drop 9=[33,61]:=by rw [←hs];rfl
   (try simp -implicitDefEqProofs [f3,hsl,hl,hA,h256,q46,q32,q60,q61,q62,q33])
   rfl
end Go.Proofs.YtmlpmdccfmmpoaaGreatDoor
