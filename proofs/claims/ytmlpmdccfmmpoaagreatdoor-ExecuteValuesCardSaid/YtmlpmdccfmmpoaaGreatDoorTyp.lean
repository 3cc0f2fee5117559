/- Chapter 33: check.settle. -/
import Derived.Test.YtmlpmdccfmmpoaaGreatDoorApi
import Derived.Test.YtmlpmdccfmmpoaaGreatDoorMaps
import Derived.Test.YtmlpmdccfmmpoaaGreatDoorCodeB
import Derived.Test.YtmlpmdccfmmpoaaGreatDoorExp
import Derived.Test.YtmlpmdccfmmpoaaGreatDoorSyf
set_option linter.unusedSimpArgs false
set_option linter.unusedVariables false
set_option maxHeartbeats 4000000
set_option maxRecDepth 8000
section
section
set_option linter.unusedSimpArgs false
set_option linter.unusedVariables false
set_option maxHeartbeats 400000
set_option maxRecDepth 8000
namespace Go.Proofs.YtmlpmdccfmmpoaaGreatDoor
open E
namespace Cht

def findS (l:List Account) (code:Int):Option Account:=l.find? (fun a=>a.code==code)
def Ue:Account:=⟨0,0,0,0⟩
theorem R5 {l:List Account} {k:Nat} {x:Account} {code:Int} (h:l[k]?=some x) (hn:findS (l.take k) code=none):findS (l.take (k+1)) code=if x.code=code then some x else none:=by
 rw [Ah h]
 simp only [findS,List.find?_append] at *
 rw [hn]
 by_cases hx:x.code=code<;>simp [hx]
theorem Uf {l:List Account} {k:Nat} {code:Int} {x:Account} (h:findS (l.take k) code=some x):findS l code=some x:=by
 rw [←List.take_append_drop k l]
 simp only [findS,List.find?_append] at *
 rw [h];rfl

theorem Mz (l:List Account) (code:Int):A3 Tryz.prog 139 [Account.l l,vI code] (.tup [((findS l code).getD Ue).v,vB (findS l code).isSome]):=by
 (refine A3.of_code mix Tryz.call139 k_139 (by simp) (fun hB=>?_);(try simp at hB);(try simp -implicitDefEqProofs))
 refine A6 (X:=Nat) (fun k=>k≤l.length∧findS (l.take k) code=none) (fun k=>[(1,vI code),(4,.ptr 0 0),(8,Account.l l),(9,vI l.length),(10,vI k)]) (fun _=>⟨[.cells (Ue.c.map .t)],[]⟩) (fun k=>l.length-k) 0 ⟨by simp,rfl⟩ (by simp [Ue]) ?_
 rintro k ⟨hk,hn⟩ hbd
 rcases Nat.lt_or_ge k l.length with h|h
 ·have hx:l[k]?=some l[k]:=by simp [h]
  have hnx:=R5 hx hn
  generalize hxx:l[k]=x at hx hnx
  have e3:IntKind.i64.wrap ((k:Int)+1)=(k:Int)+1:=wrap64 (by omega) (by simp [maxLen] at hB;omega)
  by_cases hc:x.code=code
  ·rw [if_pos hc] at hnx
   rw [Uf hnx]
   (try simp -implicitDefEqProofs [h,hxx,hc])
  ·rw [if_neg hc] at hnx
   have hcb:(x.code==code)=false:=by simpa using hc
   (try simp -implicitDefEqProofs [h,hxx,hcb,e3])
   exact⟨k+1,⟨by omega,hnx⟩,by omega,by omega⟩
 ·have:k=l.length:=by omega
  subst this
  rw [List.take_length] at hn
  rw [hn]
  (try simp -implicitDefEqProofs [Ue])

def Bw (l:List Account):Nat→List Int→Int→List Int
 | 0,out,_=>out
 | n+1,out,code=>match findS l code with
  | some a=>if code∈out then out else Bw l n (out++[code]) a.parent
  | none=>out
@[simp] def ints (l:List Int):V:=.t (.sl (l.map fun n=>[.int .i64 n]))

theorem Ug {l:List Account} {code:Int} {a:Account} (h:findS l code=some a):a∈l∧a.code=code:=by
 unfold findS at h
 exact⟨List.mem_of_find?_eq_some h,by simpa using List.find?_some h⟩

abbrev X7 (b:Bool):V:=.t (.bool b)
def Ks (l:List Int):List (Int×Bool):=l.map fun c=>(c,true)
theorem Uh (l:List Int) (k:Int):Bg (Ks l) k=if k∈l then some true else none:=by
 induction l with
 | nil=>rfl
 | cons x l ih=>
  simp only [Ks,List.map_cons,Bg] at ih ⊢
  by_cases h:k=x
  ·simp [h]
  ·rw [if_neg h,ih];simp [h]
theorem Ui {l:List Int} {k:Int} (h:k∉l):Cc (Ks l) k true=Ks (l++[k]):=by
 induction l with
 | nil=>rfl
 | cons x l ih=>
  have h1:k≠x:=fun e=>h (by simp [e])
  have:=ih (fun hm=>h (by simp [hm]))
  simp only [Ks,List.map_cons,Cc,List.cons_append] at this ⊢
  rw [if_neg h1,this]

theorem Lq {l:List Account} {out:List Int} (h1:out.Nodup) (h2 : ∀c∈out,(findS l c).isSome=true):out.length≤l.length:=by
 have:=Lb (m:=l.map (·.code)) h1 (fun c hc=>by
  obtain⟨a,ha⟩:=Option.isSome_iff_exists.1 (h2 c hc)
  obtain⟨m1,m2⟩:=Ug ha
  exact List.mem_map.2 ⟨a,m1,m2⟩)
 simpa using this

theorem Zo (l:List Account) (code:Int) (hl:l.length≤1000000):A3 Tryz.prog 140 [Account.l l,vI code] (ints (Bw l (l.length+1) [] code)):=by
 obtain⟨R,hR⟩ : ∃R,Bw l (l.length+1) [] code=R:=⟨_,rfl⟩
 rw [hR]
 (refine A3.of_code mix Tryz.call140 k_140 (by simp) (fun hB=>?_);(try simp at hB);(try simp -implicitDefEqProofs))
 refine Bd [(.slot 5,3,1)] (X:=List Int×Int) (fun z=>z.1.Nodup∧(∀c∈z.1,(findS l c).isSome=true)∧Bw l (l.length+1-z.1.length) z.1 z.2=R)
  (fun z=>[(0,Account.l l),(1,vI z.2),(5,.own 0 3 1 (z.1.map fun n=>[.int .i64 n])),(6,.mp 0)]) (fun z=>⟨[.mp (mI X7 (Ks z.1))],[z.1.length]⟩) (fun z=>l.length-z.1.length) ([],code) ⟨by simp,by simp,by simpa using hR⟩ (by simp [Ks]) ?_
 rintro ⟨out,cd⟩ ⟨h1,h2,h3⟩ hbd
 simp only at h1 h2 h3
 have hlen:=Lq h1 h2
 obtain⟨f,hf⟩ : ∃f,l.length+1-out.length=f+1:=⟨l.length-out.length,by omega⟩
 rw [hf] at h3
 simp only [Bw] at h3
 have hfm:=Md X7 cd (Ks out)
 rw [Uh] at hfm
 have hfind:=Mz l cd
 cases hfs:findS l cd with
 | none=>
  rw [hfs] at h3 hfind
  simp only at h3
  subst h3
  ((try simp at hfind);(try simp -implicitDefEqProofs);repeat' first|(with_reducible apply A0<;>first|(simp only [eras,era,A1];first|with_reducible assumption)|(simp -implicitDefEqProofs)))
 | some a=>
  rw [hfs] at h3 hfind
  simp only at h3
  by_cases hm:cd∈out
  ·rw [if_pos hm] at h3 hfm
   subst h3
   ((try simp at hfind);(try simp -implicitDefEqProofs [hfm]);repeat' first|(with_reducible apply A0<;>first|(simp only [eras,era,A1];first|with_reducible assumption)|(simp -implicitDefEqProofs [hfm])))
  ·rw [if_neg hm] at h3 hfm
   have hsm:=Vk X7 cd true (Ks out)
   rw [Ui hm] at hsm
   ((try simp at hfind);(try simp -implicitDefEqProofs [hfm,hsm]);repeat' first|(with_reducible apply A0<;>first|(simp only [eras,era,A1];first|with_reducible assumption)|(simp -implicitDefEqProofs [hfm,hsm])))
   have hnd:(out++[cd]).Nodup:=by simp [List.nodup_append,h1];exact fun x hx e=>hm (e▸hx)
   have hfo : ∀c∈out++[cd],(findS l c).isSome=true:=fun c hc=>by
    rcases List.mem_append.1 hc with h|h
    ·exact h2 c h
    ·simp at h;subst h;simp [hfs]
   have hl2:=Lq hnd hfo
   simp at hl2
   refine⟨by simp [Ks,maxLen];omega,⟨by simp [maxLen];omega,by omega⟩,out++[cd],a.parent,⟨hnd,hfo,?_⟩,by simp;omega,⟨⟨rfl,C2 (fun v hv=>by obtain⟨p,_,rfl⟩:=List.mem_map.1 hv;rfl),C2 (fun v hv=>by obtain⟨p,_,rfl⟩:=List.mem_map.1 hv;rfl)⟩,by simp⟩,rfl,by simp⟩
   rw [←h3];congr 1;simp;omega

def fldB (a:Account) (g:Bool):Bool:=decide (1≤a.code)&&decide (a.code≤99999)&&decide (1≤a.kind)&&decide (a.kind≤5)&&(if g then decide (1≤a.basis)&&decide (a.basis≤3) else a.basis==0)
def X8 (l:List Account) (a:Account):Bool:=match findS l a.parent with
 | some p=>!(p.code==a.code)&&p.kind==a.kind
 | none=>false
def okB (l:List Account) (a:Account) (g:Bool):Bool:=fldB a g&&(a.parent==0||X8 l a)
def Kg (R:List Int):Int:=R.getD (R.length-1) 0
def A4a (l:List Account) (code:Int):Bool:=((findS l (Kg (Bw l (l.length+1) [] code))).getD Ue).parent==0

theorem Uj {l:List Account} {code:Int} (h:(findS l code).isSome=true):Bw l (l.length+1) [] code≠[]:=by
 obtain⟨a,ha⟩:=Option.isSome_iff_exists.1 h
 simp only [Bw,ha,List.not_mem_nil,if_false,List.nil_append]
 have : ∀(n:Nat) (out:List Int) (c:Int),out≠[]→Bw l n out c≠[]:=by
  intro n
  induction n with
  | zero=>intro out c h;exact h
  | succ n ih=>
   intro out c h
   simp only [Bw]
   split
   ·split
    ·exact h
    ·exact ih _ _ (by simp)
   ·exact h
 exact this _ _ _ (by simp)

theorem w_proper (l:List Account) (a:Account) (g:Bool) (hl:l.length≤1000000) (ha:(findS l a.code).isSome=true):A3 Tryz.prog 98 [Account.l l,a.v,vB g] (vB (okB l a g&&(a.parent==0||A4a l a.code))):=by
 have hf:=Mz l a.parent
 have hcl:=Zo l a.code hl
 have hne:=Uj ha
 have hlen:0<(Bw l (l.length+1) [] a.code).length:=List.length_pos_iff.2 hne
 have hlm:(Bw l (l.length+1) [] a.code).length≤1000001:=by
  have gen : ∀(n:Nat) (out:List Int) (c:Int),(Bw l n out c).length≤out.length+n:=by
   intro n
   induction n with
   | zero=>intro out c;simp [Bw]
   | succ n ih=>
    intro out c
    simp only [Bw]
    split
    ·split
     ·omega
     ·have:=ih (out++[c]) (by assumption:Account).parent
      simp at this;omega
    ·omega
  have:=gen (l.length+1) [] a.code
  simp at this;omega
 have htop:A4a l a.code=(((findS l (Kg (Bw l (l.length+1) [] a.code))).getD Ue).parent==0):=rfl
 have hft:=Mz l (Kg (Bw l (l.length+1) [] a.code))
 rw [htop]
 generalize Bw l (l.length+1) [] a.code=R at *
 have e0:IntKind.i64.wrap ((R.length:Int)-1)=((R.length-1:Nat):Int):=by rw [wrap64 (by omega) (by omega)];omega
 have e1:R.length-1<R.length:=by omega
 have e2:Kg R=R[R.length-1]:=by simp [Kg,e1]
 rw [e2] at hft ⊢
 unfold okB
 cases hp:findS l a.parent with
 | none=>
  have e:X8 l a=false:=by simp [X8,hp]
  rw [hp] at hf
  rw [e]
  cases g
  all_goals
   (refine A3.of_code mix Tryz.call98 k_98 (by simp) (fun hB=>?_);(try simp at hB);(try simp -implicitDefEqProofs))
   ((try simp at hf);(try simp -implicitDefEqProofs [fldB]);repeat' first|((with_reducible first|apply Ad|apply Ae|apply A8)<;>(intro hc;have hc':=hc;(try simp at hc');simp -implicitDefEqProofs [hc,hc',fldB]))|(with_reducible apply A0<;>first|(simp only [eras,era,A1];first|with_reducible assumption)|(simp -implicitDefEqProofs [fldB])))
   all_goals first|(intros;omega)|grind
 | some p=>
  have e:X8 l a=(!(p.code==a.code)&&p.kind==a.kind):=by simp [X8,hp]
  rw [hp] at hf
  rw [e]
  cases g
  all_goals
   (refine A3.of_code mix Tryz.call98 k_98 (by simp) (fun hB=>?_);(try simp at hB);(try simp -implicitDefEqProofs))
   ((try simp at hf hcl hft);(try simp -implicitDefEqProofs [fldB,e0,e1]);repeat' first|((with_reducible first|apply Ad|apply Ae|apply A8)<;>(intro hc;have hc':=hc;(try simp at hc');simp -implicitDefEqProofs [hc,hc',fldB,e0,e1]))|(with_reducible apply A0<;>first|(simp only [eras,era,A1];first|with_reducible assumption)|(simp -implicitDefEqProofs [fldB,e0,e1])))
   all_goals first|(intros;omega)|grind|trace_state
end Cht
end Go.Proofs.YtmlpmdccfmmpoaaGreatDoor
end

/- Walks of the charts, second part. -/
section
set_option linter.unusedSimpArgs false
set_option linter.unusedVariables false
set_option maxHeartbeats 400000
set_option maxRecDepth 8000
namespace Go.Proofs.YtmlpmdccfmmpoaaGreatDoor
open E
namespace Cht

end Cht
end Go.Proofs.YtmlpmdccfmmpoaaGreatDoor
end
end
section
section
section
set_option linter.unusedSimpArgs false
set_option linter.unusedVariables false
set_option maxHeartbeats 4000000
set_option maxRecDepth 8000
namespace Go.Proofs.YtmlpmdccfmmpoaaGreatDoor
open E

theorem Uk (b:Nat) (B:List Bx) (hle : ∀n m,B.length≤n→Aa n m B B):FnS Tryz.prog 63 [.ptr b 0,.t .nili] ⟨B,[]⟩ (.tup []) ⟨B,[]⟩:=by
 have h0:=hle B.length 0 (Nat.le_refl _)
 (refine FnS.of_code mix Tryz.call63 k_63 (by simp) (fun hB=>?_);(try simp at hB);(try simp -implicitDefEqProofs))
 (try simp -implicitDefEqProofs [h0])
theorem Ul (b:Nat) (B:List Bx) (e0 e:Int) (hb:B[b]?=some (.cells [vI e0])) (hle : ∀n m,B.length≤n→Aa n m (B.set b (.cells [vI e])) (B.set b (.cells [vI e]))):FnS Tryz.prog 63 [.ptr b 0,Hn e] ⟨B,[]⟩ (.tup []) ⟨B.set b (.cells [vI e]),[]⟩:=by
 have h0:=hle B.length 0 (Nat.le_refl _)
 unfold Hn
 (refine FnS.of_code mix Tryz.call63 k_63 (by simp) (fun hB=>?_);(try simp at hB);(try simp -implicitDefEqProofs))
 (try simp -implicitDefEqProofs [h0,hb])
end Go.Proofs.YtmlpmdccfmmpoaaGreatDoor
end

/- Chapter 33: check.Type (begun). -/
section
set_option linter.unusedSimpArgs false
set_option linter.unusedVariables false
set_option maxHeartbeats 4000000
set_option maxRecDepth 8000
namespace Go.Proofs.YtmlpmdccfmmpoaaGreatDoor
open E

theorem Kh {α:Type} [DecidableEq α] {l:List α} {k:α} (h:k∈l):Cc (Cy l) k true=Cy l:=by
 induction l with
 | nil=>cases h
 | cons x l ih=>
  simp only [Cy,List.map_cons,Cc] at ih ⊢
  by_cases hx:k=x
  ·subst hx;rw [if_pos rfl]
  ·rw [if_neg hx,ih ((List.mem_cons.1 h).resolve_left hx)]
def Ki (x:Xp):Bool:=decide (x.dep≤30)&&x.prop
theorem Zp (x:Xp) (names:List (List UInt8)) (pair:Bool) (hc:x.cnt≤100000) (hv:Kr [⟨[114],false,[⟨2,0,[],x⟩],1⟩]=false):A3 Tryz.prog 27 [x.v,vSL names,vB pair] (.tup [vI 0,vI 1]):=by
 have hval:=Sa [⟨[114],false,[⟨2,0,[],x⟩],1⟩] (by intro r hr s hs;simp at hr;subst hr;simp at hs;subst hs;exact hc)
 rw [hv] at hval
 simp only [Rul.l,Rul.c,Stm.c,List.map] at hval
 have hlc:=C1 x
 have htc:=Bf x
 show FnS _ _ _ _ _ _
 (refine FnS.of_codeD mix Tryz.call27 kd_27 (by simp) (fun hB=>?_);(try simp at hB);(try simp -implicitDefEqProofs))
 ((try simp at hval);(try simp -implicitDefEqProofs [hlc,htc]);repeat' first|(with_reducible apply A0<;>first|(simp only [eras,era,A1];first|with_reducible assumption)|(simp -implicitDefEqProofs [hlc,htc])))
theorem X9 (x:Xp) (pair:Bool) (q:List UInt8→Bool) (he:(x.inf q pair).2≠0):(x.inf q pair).1=0:=by
 obtain⟨k,v,f,t,n,xs⟩:=x
 rw [Xp.inf] at he ⊢
 unfold Du at he ⊢
 (repeat' split)<;>simp_all
theorem Zq (x:Xp) (names:List (List UInt8)) (pair:Bool) (hc:x.cnt≤100000) (hv:Kr [⟨[114],false,[⟨2,0,[],x⟩],1⟩]=true) (hp:x.prop=true) (hn:names.length≤20):A3 Tryz.prog 27 [x.v,vSL names,vB pair] (.tup [vI (x.inf (fun s=>decide (s∈names)) pair).1,vI (x.inf (fun s=>decide (s∈names)) pair).2]):=by
 have hval:=Sa [⟨[114],false,[⟨2,0,[],x⟩],1⟩] (by intro r hr s hs;simp at hr;subst hr;simp at hs;subst hs;exact hc)
 rw [hv] at hval
 simp only [Rul.l,Rul.c,Stm.c,List.map] at hval
 have hlc:=C1 x
 have htc:=Bf x
 generalize hR:V.tup [vI (x.inf (fun s=>decide (s∈names)) pair).1,vI (x.inf (fun s=>decide (s∈names)) pair).2]=R
 show FnS _ _ _ _ _ _
 (refine FnS.of_codeD mix Tryz.call27 kd_27 (by simp) (fun hB=>?_);(try simp at hB);(try simp -implicitDefEqProofs))
 ((try simp at hval);(try simp -implicitDefEqProofs [hlc,htc]);repeat' first|(with_reducible apply A0<;>first|(simp only [eras,era,A1];first|with_reducible assumption)|(simp -implicitDefEqProofs [hlc,htc])))
 refine A6 (X:=Nat×List (List UInt8)) (fun X=>X.1≤names.length∧(∀y,y∈X.2↔y∈names.take X.1)∧X.2.length≤X.1) (fun X=>[(3,.ptr 0 0),(6,vI 0),(7,.ptr 1 0),(8,.ptr 3 0),(22,vSL names),(23,vI names.length),(24,vI X.1)])
  (fun X=>⟨[.cells (x.c.map V.t),.cells [vI 0],.mp (mS Lp (Cy X.2)),.cells [.mp 2,vB pair]],[]⟩) (fun X=>names.length-X.1) (0,[]) ⟨by simp,by simp,by simp⟩ (by simp [Cy]) ?_
 rintro ⟨k,M⟩ ⟨hk,hm,hl⟩ hbd
 simp only [] at hk hm hl
 clear hbd
 rcases Nat.lt_or_ge k names.length with h|h
 ·have hx:names[k]?=some names[k]:=by simp [h]
  have e3:IntKind.i64.wrap ((k:Int)+1)=(k:Int)+1:=wrap64 (by omega) (by omega)
  have hsm:=A1q Lp names[k] true (Cy M)
  have htk:=Ah hx
  by_cases hin:names[k]∈M
  ·rw [Kh hin] at hsm
   (try simp -implicitDefEqProofs [h,e3,hsm])
   exact⟨by simp [maxLen];omega,k+1,M,⟨by omega,fun y=>by
    rw [htk,List.mem_append,←hm y]
    constructor
    ·exact .inl
    ·rintro (h1|h1)
     ·exact h1
     ·simp at h1;subst h1;exact hin,by omega⟩,by omega,⟨rfl,C2 (fun v hv=>by obtain⟨p,_,rfl⟩:=List.mem_map.1 hv;rfl),C2 (fun v hv=>by obtain⟨p,_,rfl⟩:=List.mem_map.1 hv;rfl)⟩,by push_cast;rfl⟩
  ·rw [Qp hin] at hsm
   (try simp -implicitDefEqProofs [h,e3,hsm])
   exact⟨by simp [maxLen];omega,k+1,M++[names[k]],⟨by omega,fun y=>by rw [htk,List.mem_append,List.mem_append,hm y],by simp;omega⟩,by omega,⟨rfl,C2 (fun v hv=>by obtain⟨p,_,rfl⟩:=List.mem_map.1 hv;rfl),C2 (fun v hv=>by obtain⟨p,_,rfl⟩:=List.mem_map.1 hv;rfl)⟩,by push_cast;rfl⟩
 ·have:k=names.length:=by omega
  subst this
  rw [List.take_length] at hm
  have hMn:(fun s=>decide (s∈M))=(fun s=>decide (s∈names)):=by funext s;simp [hm s]
  have hex:=A2k 2 M pair x hp
  have hH:Hlds 2 M [.cells (x.c.map V.t),.cells [vI 0],.mp (mS Lp (Cy M)),.cells [.mp 2,vB pair]]:=⟨rfl,fun n m hn=>by
   simp only [List.length_cons,List.length_nil] at hn
   refine⟨⟨A4 _,?_⟩,⟨A4 _,?_⟩,⟨rfl,?_,?_⟩,⟨A4 _,?_⟩,trivial⟩
   ·exact C2 (fun v hv=>by obtain⟨t,_,rfl⟩:=List.mem_map.1 hv;rfl)
   ·simp [okNs,okN]
   ·exact C2 (fun v hv=>by obtain⟨p,hp',rfl⟩:=List.mem_map.1 hv;obtain⟨q,_,rfl⟩:=List.mem_map.1 hp';rfl)
   ·exact C2 (fun v hv=>by obtain⟨p,hp',rfl⟩:=List.mem_map.1 hv;obtain⟨q,_,rfl⟩:=List.mem_map.1 hp';rfl)
   ·simp [okNs,okN];omega⟩
  obtain⟨x1,x2⟩:=hex _ hH
  rw [hMn] at x1 x2
  (try simp -implicitDefEqProofs [hlc,htc])
  by_cases he:(x.inf (fun s=>decide (s∈names)) pair).2=0
  ·refine A9 (x1 he) ?_
   (try simp -implicitDefEqProofs [hlc,htc])
   refine⟨_,V9.of_rec Tryz.call62 (by kernel_rfl) (Uk 1 _ hH.le),?_⟩
   subst hR
   simp [he]
  ·refine Bc (x2 he) ?_
   (try simp -implicitDefEqProofs [hlc,htc])
   refine⟨_,Yb.of_rec Tryz.call62 (by kernel_rfl) (Ul 1 _ 0 _ rfl ?_),?_⟩
   ·intro n m hn
    have hq:=hH.le n m (by simpa using hn)
    exact⟨hq.1,⟨A4 _,by simp [okNs,okN]⟩,hq.2.2⟩
   ·subst hR
    have h0:=X9 x pair (fun s=>decide (s∈names)) he
    simp [h0]
end Go.Proofs.YtmlpmdccfmmpoaaGreatDoor
end

/- Chapter 33: both Types. -/
section
set_option linter.unusedSimpArgs false
set_option linter.unusedVariables false
set_option maxHeartbeats 4000000
set_option maxRecDepth 8000
namespace Go.Proofs.YtmlpmdccfmmpoaaGreatDoor
open E

theorem A4b (c:UInt8) (x:Xp) (hc:Cf [c]=true):Kr [⟨[c],false,[⟨2,0,[],x⟩],1⟩]=Ki x:=by
 simp [Kr,Ec,hc,acB,Dv,P7,Ki]
def F6 (x:Xp) (q:List UInt8→Bool) (pair:Bool):Int×Int:=if Ki x=true then x.inf q pair else (0,1)
theorem A2n (x:Xp) (names:List (List UInt8)) (pair:Bool) (hc:x.cnt≤100000) (hn:names.length≤20):A3 Tryz.prog 27 [x.v,vSL names,vB pair] (.tup [vI (F6 x (fun s=>decide (s∈names)) pair).1,vI (F6 x (fun s=>decide (s∈names)) pair).2]):=by
 have h1:=A4b 114 x (by decide)
 unfold F6
 cases ht:Ki x
 ·rw [if_neg (by simp)]
  exact Zp x names pair hc (by rw [h1,ht])
 ·rw [if_pos rfl]
  have hp:x.prop=true:=by unfold Ki at ht;rw [Bool.and_eq_true] at ht;exact ht.2
  exact Zq x names pair hc (by rw [h1,ht]) hp hn
theorem Zr (x:Xp) (names:List (List UInt8)) (pair:Bool) (hc:x.cnt≤100000) (hok:x.ok):A3 Tryz.prog 31 [x.v,vSL names,vB pair] (.tup [vI (F6 x (inS names) pair).1,vI (F6 x (inS names) pair).2]):=by
 have hval:=X6 [⟨[97],false,[⟨2,0,[],x⟩],1⟩] (by intro r hr;simp at hr;subst hr;exact⟨by simp [maxLen],fun s hs=>by simp at hs;subst hs;exact⟨by simp,hok⟩⟩) (by intro r hr s hs;simp at hr;subst hr;simp at hs;subst hs;exact hc)
 rw [A4b 97 x (by decide)] at hval
 simp only [Rul.l,Rul.c,Stm.c,List.map] at hval
 have hinf:=Zi names pair x
 have hlc:=C1 x
 have htc:=Bf x
 unfold F6
 cases ht:Ki x
 ·rw [ht] at hval
  rw [if_neg (by simp)]
  (refine A3.of_code mix Tryz.call31 k_31 (by simp) (fun hB=>?_);(try simp at hB);(try simp -implicitDefEqProofs))
  ((try simp at hval hinf);(try simp -implicitDefEqProofs [hlc,htc]);repeat' first|(with_reducible apply A0<;>first|(simp only [eras,era,A1];first|with_reducible assumption)|(simp -implicitDefEqProofs [hlc,htc])))
 ·rw [ht] at hval
  rw [if_pos rfl]
  generalize x.inf (inS names) pair=r at *
  (refine A3.of_code mix Tryz.call31 k_31 (by simp) (fun hB=>?_);(try simp at hB);(try simp -implicitDefEqProofs))
  ((try simp at hval hinf);(try simp -implicitDefEqProofs [hlc,htc]);repeat' first|(with_reducible apply A0<;>first|(simp only [eras,era,A1];first|with_reducible assumption)|(simp -implicitDefEqProofs [hlc,htc])))
end Go.Proofs.YtmlpmdccfmmpoaaGreatDoor
end
end

/- Chapter 33: what Check says: the errors of statements, rules and programs. -/
section
set_option linter.unusedSimpArgs false
set_option linter.unusedVariables false
set_option maxHeartbeats 1000000
set_option maxRecDepth 8000
namespace Go.Proofs.YtmlpmdccfmmpoaaGreatDoor
open E

def Az (ss:List Stm):List (List UInt8):=(ss.filter fun s=>s.kind==1).map (·.name)
def F7 (M:List (List UInt8)):List UInt8→Bool:=fun s=>decide (s∈M)
theorem N0 {ss:List Stm} {k:Nat} {s:Stm} (h:ss[k]?=some s):Az (ss.take (k+1))=Az (ss.take k)++Az [s]:=by
 rw [Ah h];simp [Az]
end Go.Proofs.YtmlpmdccfmmpoaaGreatDoor
end
end
