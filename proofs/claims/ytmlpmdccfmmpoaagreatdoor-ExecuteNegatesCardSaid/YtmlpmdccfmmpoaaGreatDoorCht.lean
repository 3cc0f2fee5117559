/- Walks of the charts. -/
import Derived.Test.YtmlpmdccfmmpoaaGreatDoorApi
import Derived.Test.YtmlpmdccfmmpoaaGreatDoorMaps
import Derived.Test.YtmlpmdccfmmpoaaGreatDoorCodeB
section
set_option linter.unusedSimpArgs false
set_option linter.unusedVariables false
set_option maxHeartbeats 400000
set_option maxRecDepth 8000
namespace Go.Proofs.YtmlpmdccfmmpoaaGreatDoor
open E
namespace Cht

def findS (l:List Account) (code:Int):Option Account:=l.find? (fun a=>a.code==code)
def acc0:Account:=⟨0,0,0,0⟩
theorem Uf {l:List Account} {k:Nat} {x:Account} {code:Int} (h:l[k]?=some x) (hn:findS (l.take k) code=none):findS (l.take (k+1)) code=if x.code=code then some x else none:=by
 rw [Ag h]
 simp only [findS,List.find?_append] at *
 rw [hn]
 by_cases hx:x.code=code<;>simp [hx]
theorem Xn {l:List Account} {k:Nat} {code:Int} {x:Account} (h:findS (l.take k) code=some x):findS l code=some x:=by
 rw [←List.take_append_drop k l]
 simp only [findS,List.find?_append] at *
 rw [h];rfl

theorem w_cFind (l:List Account) (code:Int):A8 Tryz.prog 139 [Account.l l,vI code] (.tup [((findS l code).getD acc0).v,vB (findS l code).isSome]):=by
 (refine A8.of_code mix Tryz.call139 k_139 (by simp) (fun hB=>?_);(try simp at hB);(try simp -implicitDefEqProofs))
 refine A7 (X:=Nat) (fun k=>k≤l.length∧findS (l.take k) code=none) (fun k=>[(1,vI code),(4,.ptr 0 0),(8,Account.l l),(9,vI l.length),(10,vI k)]) (fun _=>⟨[.cells (acc0.c.map .t)],[]⟩) (fun k=>l.length-k) 0 ⟨by simp,rfl⟩ (by simp [acc0]) ?_
 rintro k ⟨hk,hn⟩ hbd
 rcases Nat.lt_or_ge k l.length with h|h
 ·have hx:l[k]?=some l[k]:=by simp [h]
  have hnx:=Uf hx hn
  generalize hxx:l[k]=x at hx hnx
  have e3:IntKind.i64.wrap ((k:Int)+1)=(k:Int)+1:=wrap64 (by omega) (by simp [maxLen] at hB;omega)
  by_cases hc:x.code=code
  ·rw [if_pos hc] at hnx
   rw [Xn hnx]
   (try simp -implicitDefEqProofs [h,hxx,hc])
  ·rw [if_neg hc] at hnx
   have hcb:(x.code==code)=false:=by simpa using hc
   (try simp -implicitDefEqProofs [h,hxx,hcb,e3])
   exact⟨k+1,⟨by omega,hnx⟩,by omega,by omega⟩
 ·have:k=l.length:=by omega
  subst this
  rw [List.take_length] at hn
  rw [hn]
  (try simp -implicitDefEqProofs [acc0])

def Bf (l:List Account):Nat→List Int→Int→List Int
 | 0,out,_=>out
 | n+1,out,code=>match findS l code with
  | some a=>if code∈out then out else Bf l n (out++[code]) a.parent
  | none=>out
@[simp] def ints (l:List Int):V:=.t (.sl (l.map fun n=>[.int .i64 n]))

theorem Hh {l:List Account} {code:Int} {a:Account} (h:findS l code=some a):a∈l∧a.code=code:=by
 unfold findS at h
 exact⟨List.mem_of_find?_eq_some h,by simpa using List.find?_some h⟩

abbrev A0e (b:Bool):V:=.t (.bool b)
def Nc (l:List Int):List (Int×Bool):=l.map fun c=>(c,true)
theorem Xo (l:List Int) (k:Int):B7 (Nc l) k=if k∈l then some true else none:=by
 induction l with
 | nil=>rfl
 | cons x l ih=>
  simp only [Nc,List.map_cons,B7] at ih ⊢
  by_cases h:k=x
  ·simp [h]
  ·rw [if_neg h,ih];simp [h]
theorem Xq {l:List Int} {k:Int} (h:k∉l):Ca (Nc l) k true=Nc (l++[k]):=by
 induction l with
 | nil=>rfl
 | cons x l ih=>
  have h1:k≠x:=fun e=>h (by simp [e])
  have:=ih (fun hm=>h (by simp [hm]))
  simp only [Nc,List.map_cons,Ca,List.cons_append] at this ⊢
  rw [if_neg h1,this]

theorem Hi {l:List Account} {out:List Int} (h1:out.Nodup) (h2 : ∀c∈out,(findS l c).isSome=true):out.length≤l.length:=by
 have:=Ny (m:=l.map (·.code)) h1 (fun c hc=>by
  obtain⟨a,ha⟩:=Option.isSome_iff_exists.1 (h2 c hc)
  obtain⟨m1,m2⟩:=Hh ha
  exact List.mem_map.2 ⟨a,m1,m2⟩)
 simpa using this

theorem A33 (l:List Account) (code:Int) (hl:l.length≤1000000):A8 Tryz.prog 140 [Account.l l,vI code] (ints (Bf l (l.length+1) [] code)):=by
 obtain⟨R,hR⟩ : ∃R,Bf l (l.length+1) [] code=R:=⟨_,rfl⟩
 rw [hR]
 (refine A8.of_code mix Tryz.call140 k_140 (by simp) (fun hB=>?_);(try simp at hB);(try simp -implicitDefEqProofs))
 refine Bm [(.slot 5,3,1)] (X:=List Int×Int) (fun z=>z.1.Nodup∧(∀c∈z.1,(findS l c).isSome=true)∧Bf l (l.length+1-z.1.length) z.1 z.2=R)
  (fun z=>[(0,Account.l l),(1,vI z.2),(5,.own 0 3 1 (z.1.map fun n=>[.int .i64 n])),(6,.mp 0)]) (fun z=>⟨[.mp (mI A0e (Nc z.1))],[z.1.length]⟩) (fun z=>l.length-z.1.length) ([],code) ⟨by simp,by simp,by simpa using hR⟩ (by simp [Nc]) ?_
 rintro ⟨out,cd⟩ ⟨h1,h2,h3⟩ hbd
 simp only at h1 h2 h3
 have hlen:=Hi h1 h2
 obtain⟨f,hf⟩ : ∃f,l.length+1-out.length=f+1:=⟨l.length-out.length,by omega⟩
 rw [hf] at h3
 simp only [Bf] at h3
 have hfm:=L7 A0e cd (Nc out)
 rw [Xo] at hfm
 have hfind:=w_cFind l cd
 cases hfs:findS l cd with
 | none=>
  rw [hfs] at h3 hfind
  simp only at h3
  subst h3
  ((try simp at hfind);(try simp -implicitDefEqProofs);repeat' first|(with_reducible apply A0<;>first|(simp only [eras,era,A1];first|with_reducible assumption)|(simp -implicitDefEqProofs)))
 | some a=>
  rw [hfs] at h3 hfind
  simp only at h3
  by_cases hm:cd∈out
  ·rw [if_pos hm] at h3 hfm
   subst h3
   ((try simp at hfind);(try simp -implicitDefEqProofs [hfm]);repeat' first|(with_reducible apply A0<;>first|(simp only [eras,era,A1];first|with_reducible assumption)|(simp -implicitDefEqProofs [hfm])))
  ·rw [if_neg hm] at h3 hfm
   have hsm:=Z9 A0e cd true (Nc out)
   rw [Xq hm] at hsm
   ((try simp at hfind);(try simp -implicitDefEqProofs [hfm,hsm]);repeat' first|(with_reducible apply A0<;>first|(simp only [eras,era,A1];first|with_reducible assumption)|(simp -implicitDefEqProofs [hfm,hsm])))
   have hnd:(out++[cd]).Nodup:=by simp [List.nodup_append,h1];exact fun x hx e=>hm (e▸hx)
   have hfo : ∀c∈out++[cd],(findS l c).isSome=true:=fun c hc=>by
    rcases List.mem_append.1 hc with h|h
    ·exact h2 c h
    ·simp at h;subst h;simp [hfs]
   have hl2:=Hi hnd hfo
   simp at hl2
   refine⟨by simp [Nc,maxLen];omega,⟨by simp [maxLen];omega,by omega⟩,out++[cd],a.parent,⟨hnd,hfo,?_⟩,by simp;omega,⟨⟨rfl,Au (fun v hv=>by obtain⟨p,_,rfl⟩:=List.mem_map.1 hv;rfl),Au (fun v hv=>by obtain⟨p,_,rfl⟩:=List.mem_map.1 hv;rfl)⟩,by simp⟩,rfl,by simp⟩
   rw [←h3];congr 1;simp;omega

def fldB (a:Account) (g:Bool):Bool:=decide (1≤a.code)&&decide (a.code≤99999)&&decide (1≤a.kind)&&decide (a.kind≤5)&&(if g then decide (1≤a.basis)&&decide (a.basis≤3) else a.basis==0)
def Xr (l:List Account) (a:Account):Bool:=match findS l a.parent with
 | some p=>!(p.code==a.code)&&p.kind==a.kind
 | none=>false
def okB (l:List Account) (a:Account) (g:Bool):Bool:=fldB a g&&(a.parent==0||Xr l a)
def Dh (R:List Int):Int:=R.getD (R.length-1) 0
def Rv (l:List Account) (code:Int):Bool:=((findS l (Dh (Bf l (l.length+1) [] code))).getD acc0).parent==0

theorem Xs {l:List Account} {code:Int} (h:(findS l code).isSome=true):Bf l (l.length+1) [] code≠[]:=by
 obtain⟨a,ha⟩:=Option.isSome_iff_exists.1 h
 simp only [Bf,ha,List.not_mem_nil,if_false,List.nil_append]
 have : ∀(n:Nat) (out:List Int) (c:Int),out≠[]→Bf l n out c≠[]:=by
  intro n
  induction n with
  | zero=>intro out c h;exact h
  | succ n ih=>
   intro out c h
   simp only [Bf]
   split
   ·split
    ·exact h
    ·exact ih _ _ (by simp)
   ·exact h
 exact this _ _ _ (by simp)

theorem w_proper (l:List Account) (a:Account) (g:Bool) (hl:l.length≤1000000) (ha:(findS l a.code).isSome=true):A8 Tryz.prog 98 [Account.l l,a.v,vB g] (vB (okB l a g&&(a.parent==0||Rv l a.code))):=by
 have hf:=w_cFind l a.parent
 have hcl:=A33 l a.code hl
 have hne:=Xs ha
 have hlen:0<(Bf l (l.length+1) [] a.code).length:=List.length_pos_iff.2 hne
 have hlm:(Bf l (l.length+1) [] a.code).length≤1000001:=by
  have gen : ∀(n:Nat) (out:List Int) (c:Int),(Bf l n out c).length≤out.length+n:=by
   intro n
   induction n with
   | zero=>intro out c;simp [Bf]
   | succ n ih=>
    intro out c
    simp only [Bf]
    split
    ·split
     ·omega
     ·have:=ih (out++[c]) (by assumption:Account).parent
      simp at this;omega
    ·omega
  have:=gen (l.length+1) [] a.code
  simp at this;omega
 have htop:Rv l a.code=(((findS l (Dh (Bf l (l.length+1) [] a.code))).getD acc0).parent==0):=rfl
 have hft:=w_cFind l (Dh (Bf l (l.length+1) [] a.code))
 rw [htop]
 generalize Bf l (l.length+1) [] a.code=R at *
 have e0:IntKind.i64.wrap ((R.length:Int)-1)=((R.length-1:Nat):Int):=by rw [wrap64 (by omega) (by omega)];omega
 have e1:R.length-1<R.length:=by omega
 have e2:Dh R=R[R.length-1]:=by simp [Dh,e1]
 rw [e2] at hft ⊢
 unfold okB
 cases hp:findS l a.parent with
 | none=>
  have e:Xr l a=false:=by simp [Xr,hp]
  rw [hp] at hf
  rw [e]
  cases g
  all_goals
   (refine A8.of_code mix Tryz.call98 k_98 (by simp) (fun hB=>?_);(try simp at hB);(try simp -implicitDefEqProofs))
   ((try simp at hf);(try simp -implicitDefEqProofs [fldB]);repeat' first|((with_reducible first|apply Ac|apply Ad|apply A5)<;>(intro hc;have hc':=hc;(try simp at hc');simp -implicitDefEqProofs [hc,hc',fldB]))|(with_reducible apply A0<;>first|(simp only [eras,era,A1];first|with_reducible assumption)|(simp -implicitDefEqProofs [fldB])))
   all_goals first|(intros;omega)|grind
 | some p=>
  have e:Xr l a=(!(p.code==a.code)&&p.kind==a.kind):=by simp [Xr,hp]
  rw [hp] at hf
  rw [e]
  cases g
  all_goals
   (refine A8.of_code mix Tryz.call98 k_98 (by simp) (fun hB=>?_);(try simp at hB);(try simp -implicitDefEqProofs))
   ((try simp at hf hcl hft);(try simp -implicitDefEqProofs [fldB,e0,e1]);repeat' first|((with_reducible first|apply Ac|apply Ad|apply A5)<;>(intro hc;have hc':=hc;(try simp at hc');simp -implicitDefEqProofs [hc,hc',fldB,e0,e1]))|(with_reducible apply A0<;>first|(simp only [eras,era,A1];first|with_reducible assumption)|(simp -implicitDefEqProofs [fldB,e0,e1])))
   all_goals first|(intros;omega)|grind|trace_state
end Cht
end Go.Proofs.YtmlpmdccfmmpoaaGreatDoor
end

/- Walks of the charts, second part. -/
section
set_option linter.unusedSimpArgs false
set_option linter.unusedVariables false
set_option maxHeartbeats 400000
set_option maxRecDepth 8000
namespace Go.Proofs.YtmlpmdccfmmpoaaGreatDoor
open E
namespace Cht

def E3 (l:List Account):Nat→Int→List Int
 | 0,_=>[]
 | n+1,code=>match findS l code with
  | some a=>code::E3 l n a.parent
  | none=>[]
def incB (l:List Account) (k:Nat):Bool:=k==0||decide ((l.getD (k-1) acc0).code<(l.getD k acc0).code)
def Fg (l:List Account) (p:Account→Bool) (n:Nat):Bool:=(List.range n).all fun k=>incB l k&&p (l.getD k acc0)
theorem Rw (l:List Account) (p:Account→Bool) (n:Nat):Fg l p (n+1)=(Fg l p n&&(incB l n&&p (l.getD n acc0))):=by
 simp [Fg,List.range_succ,List.all_append]
theorem Pd {l:List Account} {p:Account→Bool} {k n:Nat} (h:k<n) (hk:(incB l k&&p (l.getD k acc0))=false):Fg l p n=false:=by
 simp only [Fg,List.all_eq_false]
 exact⟨k,by simpa using h,by simpa using hk⟩
def goodP (l:List Account) (g:Bool) (a:Account):Bool:=okB l a g&&(a.parent==0||Rv l a.code)
def Vp (l:List Account) (g:Bool) (a:Account):Bool:=okB l a g&&decide ((E3 l (l.length+1) a.code).length≤l.length)
def validP (l:List Account) (g:Bool):Bool:=decide (l.length≤200)&&Fg l (goodP l g) l.length
def validR (l:List Account) (g:Bool):Bool:=decide (l.length≤200)&&Fg l (Vp l g) l.length

theorem Mo {l:List Account} {a:Account} (h:a∈l):(findS l a.code).isSome=true:=by
 simp only [findS,List.find?_isSome]
 exact⟨a,h,by simp⟩

theorem w_cValid (l:List Account) (g:Bool) (hl:l.length≤1000000):A8 Tryz.prog 46 [Account.l l,vB g] (vB (validP l g)):=by
 unfold validP
 (refine A8.of_code mix Tryz.call46 k_46 (by simp) (fun hB=>?_);(try simp at hB);(try simp -implicitDefEqProofs))
 refine A7 (X:=Nat) (fun k=>k≤l.length∧Fg l (goodP l g) k=true) (fun k=>[(0,Account.l l),(1,vB g),(7,Account.l l),(8,vI l.length),(9,vI k)]) (fun _=>⟨[],[]⟩) (fun k=>l.length-k) 0 ⟨by simp,rfl⟩ (by simp) ?_
 rintro k ⟨hk,hn⟩ hbd
 rcases Nat.lt_or_ge k l.length with h|h
 ·have hx:l[k]?=some l[k]:=by simp [h]
  have hxm:l[k]∈l:=List.getElem_mem h
  have hsucc:=Rw l (goodP l g) k
  have hfl:=Pd (l:=l) (p:=goodP l g) h
  have hg:l.getD k acc0=l[k]:=by simp [List.getD_eq_getElem?_getD,h]
  rw [hn,hg] at hsucc
  rw [hg] at hfl
  have hpr:=w_proper l l[k] g hl (Mo hxm)
  have hgd:goodP l g l[k]=(okB l l[k] g&&(l[k].parent==0||Rv l l[k].code)):=rfl
  rw [←hgd] at hpr
  have e3:IntKind.i64.wrap ((k:Int)+1)=(k:Int)+1:=wrap64 (by omega) (by omega)
  by_cases h0:k=0
  ·subst h0
   have hi:incB l 0=true:=rfl
   rw [hi] at hsucc hfl
   cases hgp:goodP l g l[0]
   ·rw [hgp] at hpr hfl
    rw [hfl rfl]
    ((try simp at hpr);(try simp -implicitDefEqProofs [h,e3]);repeat' first|(with_reducible apply A0<;>first|(simp only [eras,era,A1];first|with_reducible assumption)|(simp -implicitDefEqProofs [h,e3])))
   ·rw [hgp] at hpr hsucc
    ((try simp at hpr);(try simp -implicitDefEqProofs [h,e3]);repeat' first|(with_reducible apply A0<;>first|(simp only [eras,era,A1];first|with_reducible assumption)|(simp -implicitDefEqProofs [h,e3])))
    exact⟨1,⟨by omega,hsucc⟩,by omega,by omega⟩
  ·have hk1:k-1<l.length:=by omega
   have e4:IntKind.i64.wrap ((k:Int)-1)=((k-1:Nat):Int):=by rw [wrap64 (by omega) (by omega)];omega
   have hkp:(0:Int)<k:=by omega
   have hkp':0<k:=by omega
   have hi:incB l k=decide (l[k-1].code<l[k].code):=by simp [incB,h0,List.getD_eq_getElem?_getD,h,hk1]
   rw [hi] at hsucc hfl
   by_cases hc:l[k-1].code<l[k].code
   ·have hc2 : ¬l[k].code≤l[k-1].code:=by omega
    cases hgp:goodP l g l[k]
    ·rw [hgp] at hpr hfl
     rw [hfl (by simp)]
     ((try simp at hpr);(try simp -implicitDefEqProofs [h,e3,e4,hk1,hkp,hkp',hc2]);repeat' first|(with_reducible apply A0<;>first|(simp only [eras,era,A1];first|with_reducible assumption)|(simp -implicitDefEqProofs [h,e3,e4,hk1,hkp,hkp',hc2])))
    ·rw [hgp] at hpr hsucc
     simp [hc] at hsucc
     ((try simp at hpr);(try simp -implicitDefEqProofs [h,e3,e4,hk1,hkp,hkp',hc2]);repeat' first|(with_reducible apply A0<;>first|(simp only [eras,era,A1];first|with_reducible assumption)|(simp -implicitDefEqProofs [h,e3,e4,hk1,hkp,hkp',hc2])))
     exact⟨k+1,⟨by omega,hsucc⟩,by omega,by omega⟩
   ·have hc2:l[k].code≤l[k-1].code:=by omega
    rw [hfl (by simp [hc])]
    (try simp -implicitDefEqProofs [h,e3,e4,hk1,hkp,hkp',hc2])
 ·have:k=l.length:=by omega
  subst this
  rw [hn]
  (try simp -implicitDefEqProofs)
  omega

def Ug (l:List Account):Prop:=∀a∈l,a.parent=0∨(findS l a.parent).isSome=true
theorem A34 {l:List Account} (h : ∀a∈l,1≤a.code):findS l 0=none:=by
 cases hf:findS l 0 with
 | none=>rfl
 | some a=>
  obtain⟨h1,h2⟩:=Hh hf
  have:=h a h1
  omega

theorem O9 {l:List Account} {C:List Int} (hc : ∀c∈C,∃x,findS l c=some x∧x.parent∈C) : ∀(n:Nat) (c:Int),c∈C→(E3 l n c).length=n
 | 0,c,_=>rfl
 | n+1,c,h=>by
  obtain⟨x,h1,h2⟩:=hc c h
  simp only [E3,h1,List.length_cons,O9 hc n x.parent h2]

theorem Kl {l:List Account} (hr:Ug l) (hz:findS l 0=none) : ∀(n:Nat) (out:List Int) (a:Account),out.Nodup→(∀c∈out,(findS l c).isSome=true)→out≠[]→n+out.length=l.length+1→
  findS l (Dh out)=some a→(∀c∈out,∀x,findS l c=some x→c=Dh out∨x.parent∈out)→
  (((findS l (Dh (Bf l n out a.parent))).getD acc0).parent=0↔out.length+(E3 l n a.parent).length≤l.length)
 | 0,out,a,hnd,hin,hne,hlen,hlast,hch=>by
  have:=Hi hnd hin
  omega
 | n+1,out,a,hnd,hin,hne,hlen,hlast,hch=>by
  have ha:=(Hh hlast).1
  have hcl:=Hi hnd hin
  rcases hr a ha with h0|h0
  ·simp only [Bf,E3]
   rw [h0,hz]
   simp only []
   rw [hlast]
   simp [h0];omega
  ·obtain⟨b,hb⟩:=Option.isSome_iff_exists.1 h0
   by_cases hm:a.parent∈out
   ·have hrl:=O9 (l:=l) (C:=out) (fun c hc=>by
     obtain⟨x,hx⟩:=Option.isSome_iff_exists.1 (hin c hc)
     rcases hch c hc x hx with h|h
     ·rw [h,hlast] at hx;cases hx;exact⟨a,by rw [h];exact hlast,hm⟩
     ·exact⟨x,hx,h⟩) (n+1) a.parent hm
    rw [hrl]
    simp only [Bf,hb]
    rw [if_pos hm,hlast]
    have hne0:a.parent≠0:=fun e=>by rw [e,hz] at hb;cases hb
    simp only [Option.getD_some,hne0,false_iff]
    omega
   ·simp only [Bf,E3]
    rw [hb]
    simp only []
    rw [if_neg hm]
    have hnd2:(out++[a.parent]).Nodup:=by simp [List.nodup_append,hnd];exact fun x hx e=>hm (e▸hx)
    have hin2 : ∀c∈out++[a.parent],(findS l c).isSome=true:=fun c hc=>by
     rcases List.mem_append.1 hc with h|h
     ·exact hin c h
     ·simp at h;subst h;exact h0
    have hl2:Dh (out++[a.parent])=a.parent:=by simp [Dh]
    have:=Kl hr hz n (out++[a.parent]) b hnd2 hin2 (by simp) (by simp;omega) (by rw [hl2];exact hb) (fun c hc x hx=>by
     rw [hl2]
     rcases List.mem_append.1 hc with h|h
     ·rcases hch c h x hx with h3|h3
      ·rw [h3,hlast] at hx;cases hx;right;simp
      ·right;simp [h3]
     ·left;simpa using h)
    rw [this]
    simp;omega

theorem Xt {l:List Account} (hr:Ug l) (hz:findS l 0=none) {a:Account} (ha:findS l a.code=some a):Rv l a.code=decide ((E3 l (l.length+1) a.code).length≤l.length):=by
 have:=Kl hr hz l.length [a.code] a (by simp) (by simp [ha]) (by simp) (by simp) (by simpa [Dh] using ha) (fun c hc x hx=>.inl (by simpa [Dh] using hc))
 have e1:Bf l (l.length+1) [] a.code=Bf l l.length [a.code] a.parent:=by simp [Bf,ha]
 have e2:E3 l (l.length+1) a.code=a.code::E3 l l.length a.parent:=by simp [E3,ha]
 unfold Rv
 rw [e1,e2]
 simp only [List.length_cons,List.length_nil] at this ⊢
 rw [Bool.eq_iff_iff]
 simp only [beq_iff_eq,decide_eq_true_eq]
 rw [this];omega

theorem steps_all {l:List Account} {p:Account→Bool} : Fg l p l.length=true↔(∀k,k<l.length→incB l k=true)∧∀a∈l,p a=true:=by
 simp only [Fg,List.all_eq_true,List.mem_range,Bool.and_eq_true]
 constructor
 ·intro h
  refine⟨fun k hk=>(h k hk).1,fun a ha=>?_⟩
  obtain⟨k,hk⟩:=List.mem_iff_getElem?.1 ha
  have hkl:=A4 hk
  have:=(h k hkl).2
  rwa [List.getD_eq_getElem?_getD,hk] at this
 ·rintro ⟨h1,h2⟩ k hk
  refine⟨h1 k hk,h2 _ ?_⟩
  simp [List.getD_eq_getElem?_getD,hk]

theorem A0f {l:List Account} (h : ∀k,k<l.length→incB l k=true) : ∀(j i:Nat) (hi:i<j) (hj:j<l.length),(l[i]'(by omega)).code<(l[j]'hj).code:=by
 intro j
 induction j with
 | zero=>intro i hi;omega
 | succ j ih=>
  intro i hi hj
  have h1:=h (j+1) hj
  have hj':j<l.length:=by omega
  simp [incB,List.getD_eq_getElem?_getD,hj,hj'] at h1
  by_cases hij:i=j
  ·subst hij;exact h1
  ·have:=ih i (by omega) hj';omega
theorem Rx {l:List Account} (h : ∀k,k<l.length→incB l k=true) {a:Account} (ha:a∈l):findS l a.code=some a:=by
 have hs:=Mo ha
 obtain⟨b,hb⟩:=Option.isSome_iff_exists.1 hs
 obtain⟨h1,h2⟩:=Hh hb
 obtain⟨i,hi⟩:=List.mem_iff_getElem?.1 ha
 obtain⟨j,hj⟩:=List.mem_iff_getElem?.1 h1
 have hil:=A4 hi
 have hjl:=A4 hj
 have ei:l[i]=a:=by simpa [hil] using hi
 have ej:l[j]=b:=by simpa [hjl] using hj
 rw [hb]
 rcases Nat.lt_trichotomy i j with hlt|heq|hgt
 ·have:=A0f h j i hlt hjl;rw [ei,ej] at this;omega
 ·subst heq;rw [←ei,←ej]
 ·have:=A0f h i j hgt hil;rw [ei,ej] at this;omega

theorem valid_agree (l:List Account) (g:Bool):validP l g=validR l g:=by
 unfold validP validR
 congr 1
 rw [Bool.eq_iff_iff,steps_all,steps_all]
 have main:(∀k,k<l.length→incB l k=true)→(∀a∈l,okB l a g=true)→∀a∈l,(a.parent==0||Rv l a.code)=decide ((E3 l (l.length+1) a.code).length≤l.length):=by
  intro hinc hok a ha
  have hz:findS l 0=none:=A34 fun b hb=>by
   have:=hok b hb
   simp [okB,fldB] at this
   omega
  have hr:Ug l:=fun b hb=>by
   have:=hok b hb
   simp only [okB,Bool.and_eq_true,Bool.or_eq_true,beq_iff_eq] at this
   rcases this.2 with h|h
   ·exact .inl h
   ·right;unfold Xr at h;cases hf:findS l b.parent with
    | none=>rw [hf] at h;cases h
    | some p=>rfl
  rw [←Xt hr hz (Rx hinc ha)]
  by_cases hp:a.parent=0
  ·have hfa:=Rx hinc ha
   have:Bf l (l.length+1) [] a.code=[a.code]:=by
    obtain⟨n,hn⟩ : ∃n,l.length=n+1:=⟨l.length-1,by have:=List.length_pos_of_mem ha;omega⟩
    simp only [Bf,hfa,List.not_mem_nil,if_false,List.nil_append,hn,hp,hz]
   simp [hp,Rv,this,Dh,hfa]
  ·simp [hp]
 constructor
 ·rintro ⟨h1,h2⟩
  have hok : ∀a∈l,okB l a g=true:=fun a ha=>by have:=h2 a ha;simp only [goodP,Bool.and_eq_true] at this;exact this.1
  refine⟨h1,fun a ha=>?_⟩
  have:=h2 a ha
  simp only [goodP,Vp,Bool.and_eq_true] at this ⊢
  rw [←main h1 hok a ha];exact this
 ·rintro ⟨h1,h2⟩
  have hok : ∀a∈l,okB l a g=true:=fun a ha=>by have:=h2 a ha;simp only [Vp,Bool.and_eq_true] at this;exact this.1
  refine⟨h1,fun a ha=>?_⟩
  have:=h2 a ha
  simp only [goodP,Vp,Bool.and_eq_true] at this ⊢
  rw [main h1 hok a ha];exact this
end Cht
end Go.Proofs.YtmlpmdccfmmpoaaGreatDoor
end
