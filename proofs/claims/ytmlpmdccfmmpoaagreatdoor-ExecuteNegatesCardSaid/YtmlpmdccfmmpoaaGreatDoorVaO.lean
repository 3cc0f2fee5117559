/- A state that belongs to a world names no boxes but its own. -/
import Derived.Test.YtmlpmdccfmmpoaaGreatDoorCps
import Derived.Test.YtmlpmdccfmmpoaaGreatDoorExp
import Derived.Test.YtmlpmdccfmmpoaaGreatDoorRul
import Derived.Test.YtmlpmdccfmmpoaaGreatDoorMaps
import Derived.Test.YtmlpmdccfmmpoaaGreatDoorCodeB
import Derived.Test.YtmlpmdccfmmpoaaGreatDoorInf
import Derived.Test.YtmlpmdccfmmpoaaGreatDoorPrg
import Derived.Test.YtmlpmdccfmmpoaaGreatDoorFds
set_option linter.unusedSimpArgs false
set_option linter.unusedVariables false
set_option maxHeartbeats 4000000
set_option maxRecDepth 8000
section
section
set_option linter.unusedSimpArgs false
set_option linter.unusedVariables false
set_option maxHeartbeats 4000000
set_option maxRecDepth 8000
namespace Go.Proofs.YtmlpmdccfmmpoaaGreatDoor
open E

def A36 (k m:Nat) (es:List Ins):Bx:=.cells [.own k 93 3 (es.map Ins.c),.mp m]
def Y0 (B:List Bx) (K:List Nat):Prop:=∀n m,B.length≤n→K.length≤m→A6 n m B B
theorem A37 {n h:Nat} {k m:Nat} (es:List Ins) (hm:m<n) (hk:k<h):E.leB n h (A36 k m es) (A36 k m es):=by
 unfold A36
 simp [E.leB,A3,okNs,okN,hm,hk]
theorem Y0.set {B:List Bx} {K:List Nat} {b k m:Nat} (h:Y0 B K) (es:List Ins) (hm:m<B.length) (hk:k<K.length) (j:Nat):Y0 (B.set b (A36 k m es)) (K.set k j):=fun n h' hn hh=>by
 rw [List.length_set] at hn hh
 exact A6.setR (A37 es (by omega) (by omega)) b (h n h' hn hh)
theorem Y0.more {B:List Bx} {K:List Nat} (h:Y0 B K) (l:List Bx) (hl : ∀n m,B.length+l.length≤n→K.length≤m→A6 n m l l):Y0 (B++l) K:=fun n m hn hm=>by
 rw [List.length_append] at hn
 exact (A6.app' (h n m (by omega) hm)).2 (hl n m hn hm)
end Go.Proofs.YtmlpmdccfmmpoaaGreatDoor
end

/- Chapter 34: compile.rule, Compile. -/
section
set_option linter.unusedSimpArgs false
set_option linter.unusedVariables false
set_option maxHeartbeats 4000000
set_option maxRecDepth 8000
namespace Go.Proofs.YtmlpmdccfmmpoaaGreatDoor
open E

end Go.Proofs.YtmlpmdccfmmpoaaGreatDoor
end
end
namespace Go.Proofs.YtmlpmdccfmmpoaaGreatDoor
open E
@[simp] abbrev A8h (i:Nat) (l:List (List UInt8)):V:=.own i 9 1 (l.map fun y=>[T.str y])
def S7 (s:Stm):Bool:=decide (s.name.length≤100)&&decide (s.ex.cnt≤200)
def Nf (r:Rul):Bool:=decide (r.name.length≤100)&&decide (r.stmts.length≤40)&&r.stmts.all S7
def Mu (p:List Rul):Bool:=p.all Nf&&decide (p.length≤50)
theorem A7q (p:List Rul):A8 Tryz.prog 8 [Rul.l p] (vB (Mu p)):=by
 generalize hR:vB (Mu p)=R
 unfold Mu at hR
 (refine A8.of_code mix Tryz.call8 k_8 (by simp) (fun hB=>?_);(try simp at hB);(try simp -implicitDefEqProofs))
 refine A7 (X:=Nat) (fun k=>k≤p.length∧∀y∈p.take k,Nf y=true) (fun k=>[(0,Rul.l p),(3,vI k)]) (fun _=>St0) (fun k=>p.length-k) 0 ⟨by simp,by simp⟩ (by simp) ?_
 rintro k ⟨hk,hn⟩ hbd
 rcases Nat.lt_or_ge k p.length with h|h
 ·have hx:p[k]?=some p[k]:=by simp [h]
  have e3:IntKind.i64.wrap ((k:Int)+1)=(k:Int)+1:=wrap64 (by omega) (by simp [maxLen] at hB;omega)
  have hlc:=U0 p[k]
  have htc:=V8 p[k]
  have hstep:Nf p[k]=true→∃z':Nat,(z'≤p.length∧∀y∈p.take z',Nf y=true)∧p.length-z'<p.length-k∧(z':Int)=(k:Int)+1:=by
   intro hr
   refine⟨k+1,⟨by omega,fun y hy=>?_⟩,by omega,by push_cast;rfl⟩
   rw [Ag hx] at hy
   rcases List.mem_append.1 hy with h1|h1
   ·exact hn y h1
   ·simp at h1;subst h1;exact hr
  have hout:Nf p[k]=false→p.all Nf=false:=by
   intro hr
   rw [List.all_eq_false]
   exact⟨p[k],List.getElem_mem h,by simp [hr]⟩
  have hrul:Nf p[k]=(decide (p[k].name.length≤100)&&decide (p[k].stmts.length≤40)&&p[k].stmts.all S7):=rfl
  have hcc:p[k].c=[.str p[k].name,.bool p[k].pair,.sl (p[k].stmts.map Stm.c),.int .i64 p[k].to]:=rfl
  generalize hrk:p[k]=r at *
  obtain⟨nm,pr,ss,to⟩:=r
  simp only [] at *
  by_cases hnm:nm.length≤100
  ·have hnm':decide ((100:Int)<nm.length)=false:=by simp;omega
   by_cases h40:ss.length≤40
   ·have h40':decide ((40:Int)<ss.length)=false:=by simp;omega
    rw [decide_eq_true hnm,decide_eq_true h40] at hrul
    simp only [Bool.true_and] at hrul
    (try simp -implicitDefEqProofs [h,hrk,hcc,hnm',h40',e3,hlc,htc])
    refine A7 (X:=Nat) (fun j=>j≤ss.length∧∀y∈ss.take j,S7 y=true) (fun j=>[(0,Rul.l p),(3,vI k),(4,vI j)]) (fun _=>St0) (fun j=>ss.length-j) 0 ⟨by simp,by simp⟩ (by simp) ?_
    rintro j ⟨hj,hjn⟩ hbd2
    clear hbd2
    rcases Nat.lt_or_ge j ss.length with g|g
    ·have gx:ss[j]?=some ss[j]:=by simp [g]
     have gl:=M6 ss[j]
     have gt:=L6 ss[j]
     have g3:IntKind.i64.wrap ((j:Int)+1)=(j:Int)+1:=wrap64 (by omega) (by omega)
     have gstep:S7 ss[j]=true→∃z':Nat,(z'≤ss.length∧∀y∈ss.take z',S7 y=true)∧ss.length-z'<ss.length-j∧(z':Int)=(j:Int)+1:=by
      intro hr
      refine⟨j+1,⟨by omega,fun y hy=>?_⟩,by omega,by push_cast;rfl⟩
      rw [Ag gx] at hy
      rcases List.mem_append.1 hy with h1|h1
      ·exact hjn y h1
      ·simp at h1;subst h1;exact hr
     have gout:S7 ss[j]=false→p.all Nf=false:=by
      intro hr
      refine hout ?_
      rw [hrul,List.all_eq_false]
      exact⟨ss[j],List.getElem_mem g,by simp [hr]⟩
     have gcc:ss[j].c=.int .i64 ss[j].kind::.int .i64 ss[j].acc::.str ss[j].name::ss[j].ex.c:=rfl
     have gd:S7 ss[j]=(decide (ss[j].name.length≤100)&&decide (ss[j].ex.cnt≤200)):=rfl
     generalize gsj:ss[j]=st at *
     obtain⟨sk,sa,sn,sx⟩:=st
     simp only [] at *
     have q1:=A52 sx 201 (by omega) (by omega)
     have ql:=Du sx
     have qt:=Cw sx
     by_cases f1:sn.length≤100
     ·have f1':decide ((100:Int)<sn.length)=false:=by simp;omega
      rw [decide_eq_true f1,Bool.true_and] at gd
      by_cases f2:sx.cnt≤200
      ·have gst:=gstep (by rw [gd];simpa using f2)
       have f2':decide ((200:Int)<((min sx.cnt 201:Nat):Int))=false:=by simp;omega
       generalize min sx.cnt 201=z at *
       ((try simp at q1);(try simp -implicitDefEqProofs [h,hrk,hcc,g,gsj,gcc,gl,gt,ql,qt,e3,g3,hlc,htc,f1',f2']);repeat' first|(with_reducible apply A0<;>first|(simp only [eras,era,A1];first|with_reducible assumption)|(simp -implicitDefEqProofs [h,hrk,hcc,g,gsj,gcc,gl,gt,ql,qt,e3,g3,hlc,htc,f1',f2'])))
       exact gst
      ·rw [gout (by rw [gd];simpa using f2),Bool.false_and] at hR
       subst hR
       have f2':decide ((200:Int)<((min sx.cnt 201:Nat):Int))=true:=by simp;omega
       generalize min sx.cnt 201=z at *
       ((try simp at q1);(try simp -implicitDefEqProofs [h,hrk,hcc,g,gsj,gcc,gl,gt,ql,qt,e3,g3,hlc,htc,f1',f2']);repeat' first|(with_reducible apply A0<;>first|(simp only [eras,era,A1];first|with_reducible assumption)|(simp -implicitDefEqProofs [h,hrk,hcc,g,gsj,gcc,gl,gt,ql,qt,e3,g3,hlc,htc,f1',f2'])))
     ·have f1':decide ((100:Int)<sn.length)=true:=by simp;omega
      rw [gout (by rw [gd];simp [f1]),Bool.false_and] at hR
      subst hR
      ((try simp at q1);(try simp -implicitDefEqProofs [h,hrk,hcc,g,gsj,gcc,gl,gt,ql,qt,e3,g3,hlc,htc,f1']);repeat' first|(with_reducible apply A0<;>first|(simp only [eras,era,A1];first|with_reducible assumption)|(simp -implicitDefEqProofs [h,hrk,hcc,g,gsj,gcc,gl,gt,ql,qt,e3,g3,hlc,htc,f1'])))
    ·have:j=ss.length:=by omega
     subst this
     rw [List.take_length] at hjn
     have hst:=hstep (by rw [hrul];exact List.all_eq_true.2 hjn)
     (try simp -implicitDefEqProofs [h,hrk,hcc,e3,hlc,htc])
     exact hst
   ·have h40':decide ((40:Int)<ss.length)=true:=by simp;omega
    rw [hout (by rw [hrul];simp [h40]),Bool.false_and] at hR
    subst hR
    (try simp -implicitDefEqProofs [h,hrk,hcc,hnm',h40',e3,hlc,htc])
  ·have hnm':decide ((100:Int)<nm.length)=true:=by simp;omega
   rw [hout (by rw [hrul];simp [hnm]),Bool.false_and] at hR
   subst hR
   (try simp -implicitDefEqProofs [h,hrk,hcc,hnm',e3,hlc,htc])
 ·have:k=p.length:=by omega
  subst this
  rw [List.take_length] at hn
  have hall:p.all Nf=true:=List.all_eq_true.2 hn
  rw [hall,Bool.true_and] at hR
  subst hR
  (try simp -implicitDefEqProofs)
  omega
end Go.Proofs.YtmlpmdccfmmpoaaGreatDoor
section
section
set_option linter.unusedSimpArgs false
set_option linter.unusedVariables false
set_option maxHeartbeats 4000000
set_option maxRecDepth 8000
namespace Go.Proofs.YtmlpmdccfmmpoaaGreatDoor
open E

theorem Oc (s y:List UInt8) : ∀(l:List (List UInt8)) (i:Nat) (c:Int),Mp s i (l++[y]) c=if y=s then ((i+l.length:Nat):Int) else Mp s i l c
 | [],i,c=>rfl
 | z::l,i,c=>by
  rw [List.cons_append,Mp,Oc s y l,Mp,List.length_cons,show i+1+l.length=i+(l.length+1) by omega]
end Go.Proofs.YtmlpmdccfmmpoaaGreatDoor
end

/- Chapter 34: Own and Same of codes. -/
section
set_option linter.unusedSimpArgs false
set_option linter.unusedVariables false
set_option maxHeartbeats 1000000
set_option maxRecDepth 8000
namespace Go.Proofs.YtmlpmdccfmmpoaaGreatDoor
open E

end Go.Proofs.YtmlpmdccfmmpoaaGreatDoor
end

/- Chapter 34: the reference's Compile; the law CompilePrograms. -/
section
set_option linter.unusedSimpArgs false
set_option linter.unusedVariables false
set_option maxHeartbeats 4000000
set_option maxRecDepth 8000
namespace Go.Proofs.YtmlpmdccfmmpoaaGreatDoor
open E

theorem Lc {p:List Rul} (h:Mu p=true):p.length≤50∧(∀r∈p,r.stmts.length≤40)∧(∀r∈p,∀s∈r.stmts,s.ex.cnt≤200):=by
 unfold Mu Nf S7 at h
 simp only [Bool.and_eq_true,List.all_eq_true,decide_eq_true_eq] at h
 exact⟨h.2,fun r hr=>(h.1 r hr).1.2,fun r hr s hs=>((h.1 r hr).2 s hs).2⟩
theorem A38 {ss:List Stm} {m:Nat} (h : ∀s∈ss,s.ex.cnt≤m):Xv ss≤ss.length*m:=by
 induction ss with
 | nil=>simp [Xv]
 | cons s ss ih=>
  have h1:=ih (fun x hx=>h x (by simp [hx]))
  have h2:=h s (by simp)
  simp only [Xv,List.map_cons,List.sum_cons,List.length_cons] at h1 ⊢
  rw [Nat.add_mul];omega
end Go.Proofs.YtmlpmdccfmmpoaaGreatDoor
end
end
namespace Go.Proofs.YtmlpmdccfmmpoaaGreatDoor
open E
def Ap (s:Src) (oth to:Int):List (List UInt8×Int)→List Stm→List Part→Option (List Part)
 | _,[],ps=>Cc (ps++[⟨to,-(ps.map Part.amt).sum⟩])
 | L,x::ss,ps=>
  if (x.ex.valE s oth fun n=>(B7 L n).getD 0).2=true then
   if x.kind=1 then Ap s oth to (Ca L x.name (x.ex.valE s oth fun n=>(B7 L n).getD 0).1) ss ps
   else if x.kind=2 then if (x.ex.valE s oth fun n=>(B7 L n).getD 0).1=0 then some [] else Ap s oth to L ss ps
   else Ap s oth to L ss (ps++[⟨x.acc,(x.ex.valE s oth fun n=>(B7 L n).getD 0).1⟩])
  else none
def Bh (r:Rul) (s:Src) (oth rule:Int):Option Posting:=(Ap s oth r.to [] r.stmts []).map (F8 s oth rule)
theorem Mw {s:Src} {oth:Int} {loc:List Int} {ps:List Part} {rest:List Ins} : ∀{cd:List Ins} {st:List Int},(∀i∈cd,1≤i.op∧i.op≤22)→
  Aw s oth (cd++rest) st loc ps=match Ms s oth loc cd st with
   | some st'=>Aw s oth rest st' loc ps
   | none=>none
 | [],st,_=>rfl
 | x::cd,st,h=>by
  have h0:=h x (by simp)
  simp only [List.cons_append,Aw,Ms]
  rw [if_neg (by omega),if_neg (by omega),if_neg (by omega),if_neg (by omega)]
  split
  ·exact Mw fun i hi=>h i (by simp [hi])
  ·rfl
theorem Y1 {s:Src} {oth v:Int} {loc:List Int} {ps:List Part} {l:List Ins} : Aw s oth (⟨24,0,0⟩::l) [v] loc ps=if v=0 then some [] else Aw s oth l [] loc ps:=by simp [Aw]
theorem Y2 (M:List (List UInt8)) : ∀(x:Xp),x.prop=true→∀i∈x.codeX M,1≤i.op∧i.op≤22:=by
 refine Xp.ind fun k v f t n xs ih hp i hi=>?_
 simp only [Xp.prop,Bool.and_eq_true] at hp
 obtain⟨k1,k2,_⟩:=Vq hp.1
 rw [Xp.codeX,List.mem_append,Xp.codesX_flat,List.mem_flatMap] at hi
 rcases hi with ⟨y,hy,hi⟩|hi
 ·exact ih y hy (Xp.props_mem hp.2 y hy) i hi
 ·simp only [List.mem_singleton] at hi
  rw [hi,Mr]
  exact (Jz k1 k2).2.2
theorem Km {s:Src} {oth to:Int} {known:Int→Bool} {pair:Bool} : ∀(ss:List Stm) (M:List (List UInt8)) (L:List (List UInt8×Int)) (loc:List Int) (ps:List Part),
  (∀x∈ss,Eu x=true)→Bv known pair M ss=0→loc.length=M.length→(∀n∈M,(B7 L n).getD 0=loc.getD (Nd M n).toNat 0)→
  Ap s oth to L ss ps=Aw s oth (Cf M ss++[⟨26,to,0⟩]) [] loc ps
 | [],M,L,loc,ps,_,_,_,_=>by simp [Ap,Cf,Aw]
 | x::ss,M,L,loc,ps,hb,he,hl,hq=>by
  rw [Bv] at he
  split at he
  ·rename_i h1;exact absurd he h1
  rename_i h1
  have hs0:Fh known (Cs M) pair x=0:=by simpa using h1
  have hi0:(x.ex.inf (Cs M) pair).2=0:=by
   unfold Fh at hs0
   split at hs0
   ·rename_i q;exact absurd hs0 q
   ·rename_i q;simpa using q
  have hnew:x.kind=1→x.name∉M:=fun k1 hm=>by
   unfold Fh at hs0
   rw [if_neg (by simpa using hi0)] at hs0
   split at hs0
   ·cases hs0
   ·rw [if_pos ⟨k1,by simpa [Cs] using hm⟩] at hs0;cases hs0
  have hsb:=hb x (by simp)
  unfold Eu at hsb
  simp only [Bool.and_eq_true,decide_eq_true_eq] at hsb
  obtain⟨⟨hsh,_⟩,hpr⟩:=hsb
  have hrv:=Xp.run_val (s:=s) (oth:=oth) (q:=fun n=>(B7 L n).getD 0) (M:=M) (loc:=loc) (pair:=pair) hq x.ex hpr hi0 []
  have ih:=fun M' L' loc' ps'=>Km (s:=s) (oth:=oth) (to:=to) (known:=known) (pair:=pair) ss M' L' loc' ps' (fun y hy=>hb y (by simp [hy]))
  rw [Ap,Cf,List.append_assoc,List.append_assoc,Mw (Y2 M x.ex hpr),hrv]
  generalize (x.ex.valE s oth fun n=>(B7 L n).getD 0)=v
  obtain⟨v1,v2⟩:=v
  cases v2
  ·simp
  ·simp only [if_true,List.singleton_append]
   unfold Qv at hsh
   by_cases k1:x.kind=1
   ·have hls:Fa M x=⟨23,M.length,0⟩:=by unfold Fa;rw [if_pos k1]
    have hno:Aj [x]=[x.name]:=by simp [Aj,k1]
    rw [hno] at he ⊢
    rw [hls,if_pos k1]
    simp only [Aw,List.headD_cons,List.tail_cons,if_true]
    refine ih (M++[x.name]) _ _ _ he (by simp [hl]) fun n hn=>?_
    rw [H9]
    have hix:Nd (M++[x.name]) n=if x.name=n then (M.length:Int) else Nd M n:=by
     unfold Nd;rw [Oc];simp
    rw [hix]
    by_cases hn1:x.name=n
    ·rw [if_pos hn1,if_pos hn1.symm,Int.toNat_natCast,←hl]
     simp [List.getD_eq_getElem?_getD]
    ·rw [if_neg hn1,if_neg (Ne.symm hn1)]
     have hnM:n∈M:=by
      rcases List.mem_append.1 hn with h|h
      ·exact h
      ·simp at h;exact absurd h.symm hn1
     have:=Rz hnM
     rw [hq n hnM,List.getD_eq_getElem?_getD,List.getD_eq_getElem?_getD,List.getElem?_append_left (by omega)]
   ·have hno:Aj [x]=[]:=by simp [Aj,k1]
    rw [hno,List.append_nil] at he ⊢
    rw [if_neg k1] at hsh ⊢
    by_cases k2:x.kind=2
    ·have hls:Fa M x=⟨24,0,0⟩:=by unfold Fa;rw [if_neg k1,if_pos k2]
     rw [hls,if_pos k2]
     rw [Y1]
     by_cases hv0:v1=0
     ·rw [if_pos hv0,if_pos hv0]
     ·rw [if_neg hv0,if_neg hv0];exact ih M L loc ps he hl hq
    ·have hls:Fa M x=⟨25,x.acc,0⟩:=by unfold Fa;rw [if_neg k1,if_neg k2]
     rw [hls,if_neg k2]
     simp only [Aw,List.headD_cons,List.tail_cons,show ¬(25:Int)=23 by decide,show ¬(25:Int)=24 by decide,if_true,if_false]
     exact ih M L loc _ he hl hq
theorem G9 {r:Rul} {known:Int→Bool} (hb:D1 r=true) (he:Bv known r.pair [] r.stmts=0) (s:Src) (oth rule:Int):Bh r s oth rule=Ce (Ak r) s oth rule:=by
 unfold Bh Ce Ak
 have hst : ∀x∈r.stmts,Eu x=true:=by
  unfold D1 at hb
  simp only [Bool.and_eq_true,List.all_eq_true] at hb
  exact hb.2
 rw [Km (known:=known) (pair:=r.pair) r.stmts [] [] [] [] hst he rfl (fun n hn=>by cases hn)]
end Go.Proofs.YtmlpmdccfmmpoaaGreatDoor
section
set_option linter.unusedSimpArgs false
set_option linter.unusedVariables false
namespace Go.Proofs.YtmlpmdccfmmpoaaGreatDoor
namespace E
theorem Fb {a b:Nat} : ∀{vs:List V},(∀j,j<vs.length→okN a b (vs.getD j .junk)=true)→okNs a b vs=true
 | [],_=>rfl
 | v::vs,h=>by
  have h0:=h 0 (by simp)
  have h1:=Fb (vs:=vs) fun j hj=>by have:=h (j+1) (by simpa using hj);simpa using this
  simp only [okNs,Bool.and_eq_true]
  exact⟨by simpa using h0,h1⟩
theorem RelV.okB {g:Gh} {tk:List Nat} {v:V} {u:Value} (h:RelV g tk v u):okN g.β.length tk.length v=true:=by
 induction h with
 | t x v h=>rfl
 | und=>rfl
 | junk v=>rfl
 | snil=>rfl
 | full es a h=>rfl
 | own k e z es v n h hz hn hle hg=>have:=(List.getElem?_eq_some_iff.1 hn).1;simp [okN,this]
 | ptr b o blk h=>have:=(List.getElem?_eq_some_iff.1 h).1;simp [okN,this]
 | tp e o blk off c hI hr=>rfl
 | fn f caps vs hl hr ih=>simp only [okN];exact Fb ih
 | agg cs vs hl hr ih=>simp only [okN];exact Fb ih
 | tup cs vs hl hr ih=>simp only [okN];exact Fb ih
 | mp b blk h=>have:=(List.getElem?_eq_some_iff.1 h).1;simp [okN,this]
 | vw b o n blk cap h hc hm=>have:=(List.getElem?_eq_some_iff.1 h).1;simp [okN,this]
 | bw b n blk cap h hc hk hm=>have:=(List.getElem?_eq_some_iff.1 h).1;simp [okN,this]
theorem Cv.self : ∀(K:List Nat),Cv K K
 | []=>trivial
 | _::K=>⟨rfl,Cv.self K⟩
theorem A6.self {n m:Nat} : ∀{B:List Bx},(∀(i:Nat) (x:Bx),B[i]?=some x→E.leB n m x x)→A6 n m B B
 | [],_=>trivial
 | b::B,h=>⟨h 0 b rfl,A6.self fun i x hx=>h (i+1) x (by simpa using hx)⟩
theorem Inv.okS {g:Gh} {S:St} {w:World} (hI:Inv g S w):OkS S:=by
 refine⟨A6.self fun i x hx=>?_,Cv.self _⟩
 have hil:=(List.getElem?_eq_some_iff.1 hx).1
 obtain⟨blk,hb⟩ : ∃blk,g.β[i]?=some blk:=⟨_,List.getElem?_eq_getElem (by rw [hI.len];exact hil)⟩
 have hbox:=hI.box i blk x hb hx
 rw [←hI.len]
 cases x with
 | dead=>trivial
 | cells cs=>
  obtain⟨vs,ty,_,_,h⟩:=hbox
  exact⟨A3 _,Fb fun j hj=>(h j hj).okB⟩
 | mp es=>
  obtain⟨ms,clock,_,h1,h2,_⟩:=hbox
  refine⟨rfl,Fb fun j hj=>?_,Fb fun j hj=>?_⟩
  ·simp only [List.length_map] at hj
   obtain⟨m,_,h3,h4,_⟩:=h2 j hj
   have:=h3.okB
   simpa [List.getD_eq_getElem?_getD,hj] using this
  ·simp only [List.length_map] at hj
   obtain⟨m,_,h3,h4,_⟩:=h2 j hj
   have:=h4.okB
   simpa [List.getD_eq_getElem?_getD,hj] using this
 | buf e z cs=>
  obtain⟨vs,_,_,_,h⟩:=hbox
  exact⟨rfl,rfl,A3 _,Fb fun j hj=>(h j hj).okB⟩
 | itr s p=>exact⟨rfl,rfl⟩
theorem FnS.ofOk {P:Program} {f:Nat} {vs:List V} {S S':St} {r:V} (hE:B4 P f) (h:OkS S→FnS P f vs S r S'):FnS P f vs S r S':=⟨hE,fun g w us hI hus hrel=>(h (Inv.okS hI)).2 g w us hI hus hrel⟩
end E
end Go.Proofs.YtmlpmdccfmmpoaaGreatDoor
end
