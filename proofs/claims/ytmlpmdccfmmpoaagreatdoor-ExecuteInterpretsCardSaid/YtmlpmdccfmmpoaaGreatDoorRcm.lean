/- Chapter 34: the reference's own, expr, Rule. -/
import Derived.Test.YtmlpmdccfmmpoaaGreatDoorPrg
import Derived.Test.YtmlpmdccfmmpoaaGreatDoorExp
import Derived.Test.YtmlpmdccfmmpoaaGreatDoorRul
import Derived.Test.YtmlpmdccfmmpoaaGreatDoorSye
import Derived.Test.YtmlpmdccfmmpoaaGreatDoorCodeB
import Derived.Test.YtmlpmdccfmmpoaaGreatDoorInf
import Derived.Test.YtmlpmdccfmmpoaaGreatDoorRfi
set_option linter.unusedSimpArgs false
set_option linter.unusedVariables false
set_option maxHeartbeats 4000000
set_option maxRecDepth 8000
section
section
set_option linter.unusedSimpArgs false
set_option linter.unusedVariables false
set_option maxHeartbeats 4000000
set_option maxRecDepth 8000
namespace Go.Proofs.YtmlpmdccfmmpoaaGreatDoor
open E

def A36 (k m:Nat) (es:List Ins):Bx:=.cells [.own k 93 3 (es.map Ins.c),.mp m]
def Xu (B:List Bx) (K:List Nat):Prop:=∀n m,B.length≤n→K.length≤m→Ab n m B B
theorem A37 {n h:Nat} {k m:Nat} (es:List Ins) (hm:m<n) (hk:k<h):E.leB n h (A36 k m es) (A36 k m es):=by
 unfold A36
 simp [E.leB,A5,okNs,okN,hm,hk]
theorem Xu.set {B:List Bx} {K:List Nat} {b k m:Nat} (h:Xu B K) (es:List Ins) (hm:m<B.length) (hk:k<K.length) (j:Nat):Xu (B.set b (A36 k m es)) (K.set k j):=fun n h' hn hh=>by
 rw [List.length_set] at hn hh
 exact Ab.setR (A37 es (by omega) (by omega)) b (h n h' hn hh)
theorem Xu.more {B:List Bx} {K:List Nat} (h:Xu B K) (l:List Bx) (hl : ∀n m,B.length+l.length≤n→K.length≤m→Ab n m l l):Xu (B++l) K:=fun n m hn hm=>by
 rw [List.length_append] at hn
 exact (Ab.app' (h n m (by omega) hm)).2 (hl n m hn hm)
end Go.Proofs.YtmlpmdccfmmpoaaGreatDoor
end

/- Chapter 34: compile.rule, Compile. -/
section
set_option linter.unusedSimpArgs false
set_option linter.unusedVariables false
set_option maxHeartbeats 4000000
set_option maxRecDepth 8000
namespace Go.Proofs.YtmlpmdccfmmpoaaGreatDoor
open E

end Go.Proofs.YtmlpmdccfmmpoaaGreatDoor
end
end
namespace Go.Proofs.YtmlpmdccfmmpoaaGreatDoor
open E
def Rx (s:Stm):Bool:=decide (s.name.length≤100)&&decide (s.ex.cnt≤200)
def N1 (r:Rul):Bool:=decide (r.name.length≤100)&&decide (r.stmts.length≤40)&&r.stmts.all Rx
def Mn (p:List Rul):Bool:=p.all N1&&decide (p.length≤50)
theorem A7v (p:List Rul):A4 Tryz.prog 8 [Rul.l p] (vB (Mn p)):=by
 generalize hR:vB (Mn p)=R
 unfold Mn at hR
 (refine A4.of_code mix Tryz.call8 k_8 (by simp) (fun hB=>?_);(try simp at hB);(try simp -implicitDefEqProofs))
 refine A9 (X:=Nat) (fun k=>k≤p.length∧∀y∈p.take k,N1 y=true) (fun k=>[(0,Rul.l p),(3,vI k)]) (fun _=>St0) (fun k=>p.length-k) 0 ⟨by simp,by simp⟩ (by simp) ?_
 rintro k ⟨hk,hn⟩ hbd
 rcases Nat.lt_or_ge k p.length with h|h
 ·have hx:p[k]?=some p[k]:=by simp [h]
  have e3:IntKind.i64.wrap ((k:Int)+1)=(k:Int)+1:=wrap64 (by omega) (by simp [maxLen] at hB;omega)
  have hlc:=Og p[k]
  have htc:=Oh p[k]
  have hstep:N1 p[k]=true→∃z':Nat,(z'≤p.length∧∀y∈p.take z',N1 y=true)∧p.length-z'<p.length-k∧(z':Int)=(k:Int)+1:=by
   intro hr
   refine⟨k+1,⟨by omega,fun y hy=>?_⟩,by omega,by push_cast;rfl⟩
   rw [Ae hx] at hy
   rcases List.mem_append.1 hy with h1|h1
   ·exact hn y h1
   ·simp at h1;subst h1;exact hr
  have hout:N1 p[k]=false→p.all N1=false:=by
   intro hr
   rw [List.all_eq_false]
   exact⟨p[k],List.getElem_mem h,by simp [hr]⟩
  have hrul:N1 p[k]=(decide (p[k].name.length≤100)&&decide (p[k].stmts.length≤40)&&p[k].stmts.all Rx):=rfl
  have hcc:p[k].c=[.str p[k].name,.bool p[k].pair,.sl (p[k].stmts.map Stm.c),.int .i64 p[k].to]:=rfl
  generalize hrk:p[k]=r at *
  obtain⟨nm,pr,ss,to⟩:=r
  simp only [] at *
  by_cases hnm:nm.length≤100
  ·have hnm':decide ((100:Int)<nm.length)=false:=by simp;omega
   by_cases h40:ss.length≤40
   ·have h40':decide ((40:Int)<ss.length)=false:=by simp;omega
    rw [decide_eq_true hnm,decide_eq_true h40] at hrul
    simp only [Bool.true_and] at hrul
    (try simp -implicitDefEqProofs [h,hrk,hcc,hnm',h40',e3,hlc,htc])
    refine A9 (X:=Nat) (fun j=>j≤ss.length∧∀y∈ss.take j,Rx y=true) (fun j=>[(0,Rul.l p),(3,vI k),(4,vI j)]) (fun _=>St0) (fun j=>ss.length-j) 0 ⟨by simp,by simp⟩ (by simp) ?_
    rintro j ⟨hj,hjn⟩ hbd2
    clear hbd2
    rcases Nat.lt_or_ge j ss.length with g|g
    ·have gx:ss[j]?=some ss[j]:=by simp [g]
     have gl:=Js ss[j]
     have gt:=J3 ss[j]
     have g3:IntKind.i64.wrap ((j:Int)+1)=(j:Int)+1:=wrap64 (by omega) (by omega)
     have gstep:Rx ss[j]=true→∃z':Nat,(z'≤ss.length∧∀y∈ss.take z',Rx y=true)∧ss.length-z'<ss.length-j∧(z':Int)=(j:Int)+1:=by
      intro hr
      refine⟨j+1,⟨by omega,fun y hy=>?_⟩,by omega,by push_cast;rfl⟩
      rw [Ae gx] at hy
      rcases List.mem_append.1 hy with h1|h1
      ·exact hjn y h1
      ·simp at h1;subst h1;exact hr
     have gout:Rx ss[j]=false→p.all N1=false:=by
      intro hr
      refine hout ?_
      rw [hrul,List.all_eq_false]
      exact⟨ss[j],List.getElem_mem g,by simp [hr]⟩
     have gcc:ss[j].c=.int .i64 ss[j].kind::.int .i64 ss[j].acc::.str ss[j].name::ss[j].ex.c:=rfl
     have gd:Rx ss[j]=(decide (ss[j].name.length≤100)&&decide (ss[j].ex.cnt≤200)):=rfl
     generalize gsj:ss[j]=st at *
     obtain⟨sk,sa,sn,sx⟩:=st
     simp only [] at *
     have q1:=A4z sx 201 (by omega) (by omega)
     have ql:=D5 sx
     have qt:=C3 sx
     by_cases f1:sn.length≤100
     ·have f1':decide ((100:Int)<sn.length)=false:=by simp;omega
      rw [decide_eq_true f1,Bool.true_and] at gd
      by_cases f2:sx.cnt≤200
      ·have gst:=gstep (by rw [gd];simpa using f2)
       have f2':decide ((200:Int)<((min sx.cnt 201:Nat):Int))=false:=by simp;omega
       generalize min sx.cnt 201=z at *
       ((try simp at q1);(try simp -implicitDefEqProofs [h,hrk,hcc,g,gsj,gcc,gl,gt,ql,qt,e3,g3,hlc,htc,f1',f2']);repeat' first|(with_reducible apply A0<;>first|(simp only [eras,era,A1];first|with_reducible assumption)|(simp -implicitDefEqProofs [h,hrk,hcc,g,gsj,gcc,gl,gt,ql,qt,e3,g3,hlc,htc,f1',f2'])))
       exact gst
      ·rw [gout (by rw [gd];simpa using f2),Bool.false_and] at hR
       subst hR
       have f2':decide ((200:Int)<((min sx.cnt 201:Nat):Int))=true:=by simp;omega
       generalize min sx.cnt 201=z at *
       ((try simp at q1);(try simp -implicitDefEqProofs [h,hrk,hcc,g,gsj,gcc,gl,gt,ql,qt,e3,g3,hlc,htc,f1',f2']);repeat' first|(with_reducible apply A0<;>first|(simp only [eras,era,A1];first|with_reducible assumption)|(simp -implicitDefEqProofs [h,hrk,hcc,g,gsj,gcc,gl,gt,ql,qt,e3,g3,hlc,htc,f1',f2'])))
     ·have f1':decide ((100:Int)<sn.length)=true:=by simp;omega
      rw [gout (by rw [gd];simp [f1]),Bool.false_and] at hR
      subst hR
      ((try simp at q1);(try simp -implicitDefEqProofs [h,hrk,hcc,g,gsj,gcc,gl,gt,ql,qt,e3,g3,hlc,htc,f1']);repeat' first|(with_reducible apply A0<;>first|(simp only [eras,era,A1];first|with_reducible assumption)|(simp -implicitDefEqProofs [h,hrk,hcc,g,gsj,gcc,gl,gt,ql,qt,e3,g3,hlc,htc,f1'])))
    ·have:j=ss.length:=by omega
     subst this
     rw [List.take_length] at hjn
     have hst:=hstep (by rw [hrul];exact List.all_eq_true.2 hjn)
     (try simp -implicitDefEqProofs [h,hrk,hcc,e3,hlc,htc])
     exact hst
   ·have h40':decide ((40:Int)<ss.length)=true:=by simp;omega
    rw [hout (by rw [hrul];simp [h40]),Bool.false_and] at hR
    subst hR
    (try simp -implicitDefEqProofs [h,hrk,hcc,hnm',h40',e3,hlc,htc])
  ·have hnm':decide ((100:Int)<nm.length)=true:=by simp;omega
   rw [hout (by rw [hrul];simp [hnm]),Bool.false_and] at hR
   subst hR
   (try simp -implicitDefEqProofs [h,hrk,hcc,hnm',e3,hlc,htc])
 ·have:k=p.length:=by omega
  subst this
  rw [List.take_length] at hn
  have hall:p.all N1=true:=List.all_eq_true.2 hn
  rw [hall,Bool.true_and] at hR
  subst hR
  (try simp -implicitDefEqProofs)
  omega
end Go.Proofs.YtmlpmdccfmmpoaaGreatDoor
section
section
set_option linter.unusedSimpArgs false
set_option linter.unusedVariables false
set_option maxHeartbeats 4000000
set_option maxRecDepth 8000
namespace Go.Proofs.YtmlpmdccfmmpoaaGreatDoor
open E

def frL:List Int:=[1,2,3,4,5,6,20,21,22]
def toL:List Int:=[1,2,5,6,7,8,9,3,4]
theorem A0n {k:Int} (h : ∀j,j<9→frL.getD j 0≠k):Dd k=k+3:=by
 have h0:=h 0 (by omega)
 have h1:=h 1 (by omega)
 have h2:=h 2 (by omega)
 have h3:=h 3 (by omega)
 have h4:=h 4 (by omega)
 have h5:=h 5 (by omega)
 have h6:=h 6 (by omega)
 have h7:=h 7 (by omega)
 have h8:=h 8 (by omega)
 simp only [frL,List.getD_cons_zero,List.getD_cons_succ] at *
 unfold Dd
 rw [if_neg (Ne.symm h0),if_neg (Ne.symm h1),if_neg (Ne.symm h2),if_neg (Ne.symm h3),if_neg (Ne.symm h4),if_neg (Ne.symm h5),if_neg (Ne.symm h6),if_neg (Ne.symm h7),if_neg (Ne.symm h8)]
def frN (k:Int) (i:Nat):Prop:=∀j,j<i→frL.getD j 0≠k
theorem A67 (k:Int) (h0:1≤k) (h1:k≤22):A4 Tryz.prog 122 [vI k] (vI (Dd k)):=by
 generalize hR:Dd k=R
 (refine A4.of_code mix Tryz.call122 k_122 (by simp) (fun hB=>?_);(try simp at hB);(try simp -implicitDefEqProofs))
 (try simp -implicitDefEqProofs)
 refine A9 (X:=Nat) (fun i=>i≤9∧frN k i) (fun i=>[(0,vI k),(3,.full (frL.map fun x=>[.int .i64 x])),(4,.full (toL.map fun x=>[.int .i64 x])),(5,vI i)]) (fun _=>St0) (fun i=>9-i) 0 ⟨by omega,fun j hj=>by omega⟩ (by simp [frL,toL]) ?_
 rintro i ⟨hi,hn⟩ hbd
 clear hbd
 have step:i<9→frL.getD i 0≠k→∃z',(z'≤9∧frN k z')∧9-z'<9-i∧(z':Int)=(i:Int)+1:=fun h9 h=>⟨i+1,⟨by omega,fun j hj=>by
  rcases Nat.lt_or_ge j i with q|q
  ·exact hn j q
  ·rw [show j=i by omega];exact h⟩,by omega,by push_cast;rfl⟩
 by_cases h9:i=9
 ·subst h9
  rw [A0n hn] at hR
  have e1:IntKind.i64.wrap (10+k)=10+k:=wrap64 (by omega) (by omega)
  have e2:IntKind.i64.wrap (10+k-7)=k+3:=by rw [wrap64 (by omega) (by omega)];omega
  (try simp -implicitDefEqProofs [frL,toL,e1,e2])
  exact hR.symm
 have step:=step (by omega)
 clear hn
 rcases Classical.em (frL.getD i 0=k) with hk|hk
 ·clear step
  rcases (by omega:i=0∨i=1∨i=2∨i=3∨i=4∨i=5∨i=6∨i=7∨i=8) with rfl|rfl|rfl|rfl|rfl|rfl|rfl|rfl|rfl
  all_goals
   simp only [frL,List.getD_cons_zero,List.getD_cons_succ] at hk
   subst hk
   (try simp -implicitDefEqProofs [frL,toL])
   exact hR.symm
 ·have step:=step hk
  rcases (by omega:i=0∨i=1∨i=2∨i=3∨i=4∨i=5∨i=6∨i=7∨i=8) with rfl|rfl|rfl|rfl|rfl|rfl|rfl|rfl|rfl
  all_goals
   simp only [frL,List.getD_cons_zero,List.getD_cons_succ] at hk
   have hk':=beq_false_of_ne hk
   (try simp -implicitDefEqProofs [frL,toL,hk'])
   first|exact step|simpa using step
theorem K8 (s y:List UInt8) : ∀(l:List (List UInt8)) (i:Nat) (c:Int),Hq s i (l++[y]) c=if y=s then ((i+l.length:Nat):Int) else Hq s i l c
 | [],i,c=>rfl
 | z::l,i,c=>by
  rw [List.cons_append,Hq,K8 s y l,Hq,List.length_cons,show i+1+l.length=i+(l.length+1) by omega]
theorem A38 (M:List (List UInt8)) (hM:M.length≤1000) : ∀(x:Xp),x.prop=true→x.cnt≤100000→A4 Tryz.prog 77 [x.v,vSL M] (Ins.l (x.codeX M)):=by
 refine Xp.ind fun kd vl fr to nm xs ih hp hcnt=>?_
 rw [Xp.prop,Bool.and_eq_true] at hp
 obtain⟨hsh,hps⟩:=hp
 have hpm:=Xp.props_mem hps
 rw [Xp.cnt] at hcnt
 have hal:=Xp.cnts_len xs
 have hkd:1≤kd∧kd≤22:=by
  have:=hsh
  unfold Gz kdB at this
  simp only [Bool.and_eq_true,decide_eq_true_eq] at this
  exact this.1.1
 have hown:=A67 kd hkd.1 hkd.2
 rw [Xp.codeX,Xp.v,Xp.c_mk]
 obtain⟨LX,hLX⟩ : ∃LX,LX=E8 M kd vl fr to nm:=⟨_,rfl⟩
 rw [←hLX]
 simp only [vSL]
 (refine A4.of_code mix Tryz.call77 k_77 (by simp) (fun hB=>?_);(try simp at hB);(try simp -implicitDefEqProofs))
 (try simp -implicitDefEqProofs)
 refine Av [(.slot 5,127,3)] (X:=Nat) (fun k=>k≤xs.length) (fun k=>[(1,vSL M),(2,.ptr 0 0),(5,.own 0 127 3 ((Xp.codesX M (xs.take k)).map Ins.c)),(6,vI k)])
  (fun k=>⟨[.cells [vI kd,vI vl,vI fr,vI to,vS nm,Xp.l xs]],[(Xp.codesX M (xs.take k)).length]⟩) (fun k=>xs.length-k) 0 (by omega) (by simp [Xp.codesX]) ?_
 rintro k hk hbd
 clear hbd
 have hcl:(Xp.codesX M (xs.take k)).length≤Xp.cnts xs:=by
  rw [Xp.codesX_len]
  have:=Xp.cnts_append (xs.take k) (xs.drop k)
  rw [List.take_append_drop] at this;omega
 rcases Nat.lt_or_ge k xs.length with h|h
 ·have hx:xs[k]?=some xs[k]:=by simp [h]
  have e3:IntKind.i64.wrap ((k:Int)+1)=(k:Int)+1:=wrap64 (by omega) (by omega)
  have hxc:=Xp.cnts_mem (List.getElem_mem h)
  have htk:=Ae hx
  have hc1:Xp.codesX M (xs.take (k+1))=Xp.codesX M (xs.take k)++xs[k].codeX M:=by rw [Xp.codesX_flat,Xp.codesX_flat,htk,List.flatMap_append];simp
  have hrec:=ih xs[k] (List.getElem_mem h) (hpm _ (List.getElem_mem h)) (by omega)
  simp only [vSL] at hrec
  have hlc:=D5 xs[k]
  have htc:=C3 xs[k]
  have hcx:=Xp.codeX_len M xs[k]
  ((try simp at hrec);(try simp -implicitDefEqProofs [h,e3,hlc,htc]);repeat' first|(with_reducible apply A0<;>first|(simp only [eras,era,A1];first|with_reducible assumption)|(simp -implicitDefEqProofs [h,e3,hlc,htc])))
  exact⟨⟨by unfold maxLen;omega,by omega⟩,k+1,by omega,by omega,by rw [hc1,List.length_append],by rw [hc1,List.map_append];exact leA.refl _,by push_cast;rfl⟩
 have:k=xs.length:=by omega
 subst this
 rw [List.take_length] at *
 generalize Xp.codesX M xs=C at *
 have hC:C.length+1≤maxLen∧(C.length+1)*24≤140737488355328:=⟨by unfold maxLen;omega,by omega⟩
 by_cases e1:kd=1
 ·subst e1
  have hl:LX=⟨Dd 1,vl,0⟩:=hLX
  subst hl
  ((try simp at hown);(try simp -implicitDefEqProofs [hC]);repeat' first|(with_reducible apply A0<;>first|(simp only [eras,era,A1];first|with_reducible assumption)|(simp -implicitDefEqProofs [hC])))
 by_cases e20:kd=20
 ·subst e20
  have hl:LX=⟨Dd 20,vl,0⟩:=hLX
  subst hl
  ((try simp at hown);(try simp -implicitDefEqProofs [hC]);repeat' first|(with_reducible apply A0<;>first|(simp only [eras,era,A1];first|with_reducible assumption)|(simp -implicitDefEqProofs [hC])))
 by_cases e21:kd=21
 ·subst e21
  have hl:LX=⟨Dd 21,fr,to⟩:=hLX
  subst hl
  ((try simp at hown);(try simp -implicitDefEqProofs [hC]);repeat' first|(with_reducible apply A0<;>first|(simp only [eras,era,A1];first|with_reducible assumption)|(simp -implicitDefEqProofs [hC])))
  all_goals (repeat' with_reducible apply And.intro)
  all_goals (try (try simp -implicitDefEqProofs [hC]))
 by_cases e22:kd=22
 ·subst e22
  have hl:LX=⟨Dd 22,fr,to⟩:=hLX
  subst hl
  ((try simp at hown);(try simp -implicitDefEqProofs [hC]);repeat' first|(with_reducible apply A0<;>first|(simp only [eras,era,A1];first|with_reducible assumption)|(simp -implicitDefEqProofs [hC])))
  all_goals (repeat' with_reducible apply And.intro)
  all_goals (try (try simp -implicitDefEqProofs [hC]))
 by_cases e2:kd=2
 ·subst e2
  have hl:LX=⟨Dd 2,Ku M nm,0⟩:=hLX
  subst hl
  ((try simp at hown);(try simp -implicitDefEqProofs [hC]);repeat' first|(with_reducible apply A0<;>first|(simp only [eras,era,A1];first|with_reducible assumption)|(simp -implicitDefEqProofs [hC])))
  refine A9 (X:=Nat) (fun i=>i≤M.length) (fun i=>[(1,vSL M),(2,.ptr 0 0),(5,.own 0 127 3 (C.map Ins.c)),(7,.ptr 1 0),(8,vI i)])
   (fun i=>⟨[.cells [vI 2,vI vl,vI fr,vI to,vS nm,Xp.l xs],.cells [vI (Dd 2),vI (Hq nm 0 (M.take i) 0),vI 0]],[C.length]⟩) (fun i=>M.length-i) 0 (by omega) (by simp [Hq]) ?_
  rintro i hi hbd
  clear hbd
  rcases Nat.lt_or_ge i M.length with h|h
  ·have hx:M[i]?=some M[i]:=by simp [h]
   have e3:IntKind.i64.wrap ((i:Int)+1)=(i:Int)+1:=wrap64 (by omega) (by omega)
   have htk:=Ae hx
   have hix:Hq nm 0 (M.take (i+1)) 0=if M[i]=nm then (i:Int) else Hq nm 0 (M.take i) 0:=by
    rw [htk,K8]
    congr 1
    rw [List.length_take];congr 1;omega
   have hmi:(M.map fun x=>[T.str x])[i]?=some [T.str M[i]]:=by simp [h]
   by_cases hq:M[i]=nm
   ·rw [if_pos hq] at hix
    have hq':(M[i]==nm)=true:=by simp [hq]
    (try simp -implicitDefEqProofs [h,e3,hq,hq',hmi])
    exact⟨i+1,by omega,by omega,hix,by push_cast;rfl⟩
   ·rw [if_neg hq] at hix
    have hq':(M[i]==nm)=false:=by simp [hq]
    (try simp -implicitDefEqProofs [h,e3,hq',hmi])
    exact⟨i+1,by omega,by omega,hix,by push_cast;rfl⟩
  ·have:i=M.length:=by omega
   subst this
   rw [List.take_length]
   have hid:Hq nm 0 M 0=Ku M nm:=rfl
   (try simp -implicitDefEqProofs [hC,hid])
 have hl:LX=⟨Dd kd,0,0⟩:=by rw [hLX];unfold E8;rw [if_neg e1,if_neg e2,if_neg e20,if_neg e21,if_neg e22]
 subst hl
 have b1:(kd==1)=false:=by simpa using e1
 have b2:(kd==2)=false:=by simpa using e2
 have b20:(kd==20)=false:=by simpa using e20
 have b21:(kd==21)=false:=by simpa using e21
 have b22:(kd==22)=false:=by simpa using e22
 ((try simp at hown);(try simp -implicitDefEqProofs [hC,b1,b2,b20,b21,b22]);repeat' first|(with_reducible apply A0<;>first|(simp only [eras,era,A1];first|with_reducible assumption)|(simp -implicitDefEqProofs [hC,b1,b2,b20,b21,b22])))
theorem A7w (ss:List Stm) (M:List (List UInt8)) (k:Nat):(B7 M (ss.take k)).length≤ss.length+Ib ss:=by
 rw [Id]
 have h1:(ss.take k).length≤ss.length:=by simp;omega
 have h2:Ib (ss.take k)≤Ib ss:=by
  have:=List.take_append_drop k ss
  conv=>rhs;rw [←this]
  unfold Ib
  rw [List.map_append,List.sum_append];omega
 omega
theorem A68 {ss:List Stm} {s:Stm} (h:s∈ss):s.ex.cnt≤Ib ss:=by
 induction ss with
 | nil=>cases h
 | cons y ss ih=>
  unfold Ib at ih ⊢
  rw [List.map_cons,List.sum_cons]
  rcases List.mem_cons.1 h with rfl|h
  ·omega
  ·have:=ih h;omega
theorem A0o (r:Rul) (hb:Cs r=true) (hlen:Ib r.stmts≤50000):A4 Tryz.prog 34 [r.v] (Be r).v:=by
 obtain⟨nm,pair,ss,to⟩:=r
 unfold Cs at hb
 simp only [Bool.and_eq_true,decide_eq_true_eq,List.all_eq_true] at hb hlen
 obtain⟨⟨⟨_,hss⟩,hto⟩,hst⟩:=hb
 have hrc:Rul.c ⟨nm,pair,ss,to⟩=[T.str nm,T.bool pair,T.sl (ss.map Stm.c),T.int .i64 to]:=rfl
 rw [show (Be ⟨nm,pair,ss,to⟩).v=.agg [.t (.str nm),.t (.bool pair),.t (.sl ((B7 [] ss++[(⟨26,to,0⟩:Ins)]).map Ins.c))] from rfl]
 (refine A4.of_code mix Tryz.call34 k_34 (by simp) (fun hB=>?_);(try simp at hB);(try simp -implicitDefEqProofs))
 (try simp -implicitDefEqProofs [hrc])
 refine Av [(.cell 2 2,127,3),(.slot 4,9,1)] (X:=Nat) (fun k=>k≤ss.length)
  (fun k=>[(1,.ptr 0 0),(2,.ptr 1 0),(3,.ptr 2 0),(4,.own 1 9 1 ((Af (ss.take k)).map fun x=>[T.str x])),(5,vI k)])
  (fun k=>⟨[.cells [vS nm,vB pair,Stm.l ss,vI to],.cells [vS [],vB false,.snil],.cells [vS nm,vB pair,.own 0 127 3 ((B7 [] (ss.take k)).map Ins.c)]],[(B7 [] (ss.take k)).length,(Af (ss.take k)).length]⟩) (fun k=>ss.length-k) 0 (by omega) (by simp [Af,B7]) ?_
 rintro k hk hbd
 clear hbd
 have hcl:=A7w ss [] k
 rcases Nat.lt_or_ge k ss.length with h|h
 ·have hx:ss[k]?=some ss[k]:=by simp [h]
  have e3:IntKind.i64.wrap ((k:Int)+1)=(k:Int)+1:=wrap64 (by omega) (by omega)
  have hnn:=Gd hx
  have hcn:=Rs (M:=[]) hx
  rw [List.nil_append] at hcn
  have hsb:=hst _ (List.getElem_mem h)
  have hxc:=A68 (List.getElem_mem h)
  have hnl:(Af (ss.take k)).length≤1000:=by
   have:(Af (ss.take k)).length≤(ss.take k).length:=by unfold Af;rw [List.length_map];exact List.length_filter_le _ _
   simp at this;omega
  generalize hMM:Af (ss.take k)=M at *
  generalize hEE:B7 [] (ss.take k)=es at *
  obtain⟨kd,acc,sn,x,hs⟩ : ∃kd acc sn x,ss[k]=⟨kd,acc,sn,x⟩:=⟨_,_,_,_,rfl⟩
  have hsk:(ss.map Stm.c)[k]?=some (.int .i64 kd::.int .i64 acc::.str sn::x.c):=by simp [h,hs,Stm.c]
  have hcc:Stm.c ⟨kd,acc,sn,x⟩=(.int .i64 kd::.int .i64 acc::.str sn::x.c):=rfl
  have hlc:=D5 x
  have htc:=C3 x
  rw [hs] at hsb hxc hnn hcn
  simp only [] at hxc hcn
  unfold Dl at hsb
  simp only [Bool.and_eq_true,decide_eq_true_eq] at hsb
  obtain⟨⟨hsh,_⟩,hpx⟩:=hsb
  have hex:=A38 M hnl x hpx (by omega)
  simp only [vSL] at hex
  have hcx:=Xp.codeX_len M x
  have big1:(es.length+(x.codeX M).length≤maxLen∧(es.length+(x.codeX M).length)*24≤140737488355328):=⟨by unfold maxLen;omega,by omega⟩
  have big2:(es.length+(x.codeX M).length+1≤maxLen∧(es.length+(x.codeX M).length+1)*24≤140737488355328):=⟨by unfold maxLen;omega,by omega⟩
  have big3:(M.length+1≤maxLen∧(M.length+1)*16≤140737488355328):=⟨by unfold maxLen;omega,by omega⟩
  unfold Eg at hcn
  simp only [] at hcn
  unfold Ly at hsh
  by_cases k1:kd=1
  ·subst k1
   have hN:Af [⟨1,acc,sn,x⟩]=[sn]:=rfl
   rw [hN] at hnn
   rw [if_pos rfl] at hcn
   generalize x.codeX M=cx at *
   ((try simp at hex);(try simp -implicitDefEqProofs [h,hs,hsk,hcc,hlc,htc,e3,big1,big2,big3]);repeat' first|(with_reducible apply A0<;>first|(simp only [eras,era,A1];first|with_reducible assumption)|(simp -implicitDefEqProofs [h,hs,hsk,hcc,hlc,htc,e3,big1,big2,big3])))
   exact⟨k+1,by omega,by omega,⟨by rw [hcn,List.map_append,List.map_append];exact .inl rfl,by rw [hcn];simp;omega,by rw [hnn];simp⟩,by rw [hnn,List.map_append];exact leA.refl _,by push_cast;rfl⟩
  have k1':(kd==1)=false:=by simpa using k1
  have hN:Af [⟨kd,acc,sn,x⟩]=[]:=by simp [Af,k1]
  rw [hN,List.append_nil] at hnn
  rw [if_neg k1] at hcn
  by_cases k2:kd=2
  ·subst k2
   rw [if_pos rfl] at hcn
   generalize x.codeX M=cx at *
   ((try simp at hex);(try simp -implicitDefEqProofs [h,hs,hsk,hcc,hlc,htc,e3,k1',big1,big2,big3]);repeat' first|(with_reducible apply A0<;>first|(simp only [eras,era,A1];first|with_reducible assumption)|(simp -implicitDefEqProofs [h,hs,hsk,hcc,hlc,htc,e3,k1',big1,big2,big3])))
   exact⟨k+1,by omega,by omega,⟨by rw [hcn,List.map_append,List.map_append];exact .inl rfl,by rw [hcn];simp;omega,by rw [hnn]⟩,by rw [hnn];exact leA.refl _,by push_cast;rfl⟩
  ·have k2':(kd==2)=false:=by simpa using k2
   rw [if_neg k2] at hcn
   generalize x.codeX M=cx at *
   ((try simp at hex);(try simp -implicitDefEqProofs [h,hs,hsk,hcc,hlc,htc,e3,k1',k2',big1,big2,big3]);repeat' first|(with_reducible apply A0<;>first|(simp only [eras,era,A1];first|with_reducible assumption)|(simp -implicitDefEqProofs [h,hs,hsk,hcc,hlc,htc,e3,k1',k2',big1,big2,big3])))
   exact⟨k+1,by omega,by omega,⟨by rw [hcn,List.map_append,List.map_append];exact .inl rfl,by rw [hcn];simp;omega,by rw [hnn]⟩,by rw [hnn];exact leA.refl _,by push_cast;rfl⟩
 ·have:k=ss.length:=by omega
  subst this
  rw [List.take_length] at *
  generalize B7 [] ss=C at *
  have hC:C.length+1≤maxLen∧(C.length+1)*24≤140737488355328:=⟨by unfold maxLen;omega,by omega⟩
  (try simp -implicitDefEqProofs [hC])
end Go.Proofs.YtmlpmdccfmmpoaaGreatDoor
end

/- Chapter 34: Own and Same of codes. -/
section
set_option linter.unusedSimpArgs false
set_option linter.unusedVariables false
set_option maxHeartbeats 1000000
set_option maxRecDepth 8000
namespace Go.Proofs.YtmlpmdccfmmpoaaGreatDoor
open E

end Go.Proofs.YtmlpmdccfmmpoaaGreatDoor
end

/- Chapter 34: the reference's Compile; the law CompilePrograms. -/
section
set_option linter.unusedSimpArgs false
set_option linter.unusedVariables false
set_option maxHeartbeats 4000000
set_option maxRecDepth 8000
namespace Go.Proofs.YtmlpmdccfmmpoaaGreatDoor
open E

theorem Jl {p:List Rul} (h:Mn p=true):p.length≤50∧(∀r∈p,r.stmts.length≤40)∧(∀r∈p,∀s∈r.stmts,s.ex.cnt≤200):=by
 unfold Mn N1 Rx at h
 simp only [Bool.and_eq_true,List.all_eq_true,decide_eq_true_eq] at h
 exact⟨h.2,fun r hr=>(h.1 r hr).1.2,fun r hr s hs=>((h.1 r hr).2 s hs).2⟩
theorem Vl {ss:List Stm} {m:Nat} (h : ∀s∈ss,s.ex.cnt≤m):Ib ss≤ss.length*m:=by
 induction ss with
 | nil=>simp [Ib]
 | cons s ss ih=>
  have h1:=ih (fun x hx=>h x (by simp [hx]))
  have h2:=h s (by simp)
  simp only [Ib,List.map_cons,List.sum_cons,List.length_cons] at h1 ⊢
  rw [Nat.add_mul];omega
theorem A0p {p:List Rul} (h:Mn p=true) : ∀r∈p,Ib r.stmts≤8000:=fun r hr=>by
 obtain⟨_,b,c⟩:=Jl h
 have h1:=Vl (c r hr)
 have h2:=b r hr
 have h3:r.stmts.length*200≤40*200:=Nat.mul_le_mul_right _ h2
 omega
end Go.Proofs.YtmlpmdccfmmpoaaGreatDoor
end
end
