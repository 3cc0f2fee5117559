/- Chapter 35: the law ExecuteBalances. -/
import Derived.Test.YtmlpmdccfmmpoaaGreatDoorSyf
import Derived.Test.YtmlpmdccfmmpoaaGreatDoorCodeB
import Derived.Test.YtmlpmdccfmmpoaaGreatDoorPrg
import Derived.Test.YtmlpmdccfmmpoaaGreatDoorInf
import Derived.Test.YtmlpmdccfmmpoaaGreatDoorCad
import Derived.Test.YtmlpmdccfmmpoaaGreatDoorRfi
import Derived.Test.YtmlpmdccfmmpoaaGreatDoorExV
set_option linter.unusedSimpArgs false
set_option linter.unusedVariables false
set_option maxHeartbeats 4000000
set_option maxRecDepth 8000
namespace Go.Proofs.YtmlpmdccfmmpoaaGreatDoor
open E
def Rp (s:Stm):Bool:=decide (s.name.length≤100)&&decide (s.ex.cnt≤200)
def Mw (r:Rul):Bool:=decide (r.name.length≤100)&&decide (r.stmts.length≤40)&&r.stmts.all Rp
def Mx (p:List Rul):Bool:=p.all Mw&&decide (p.length≤50)
theorem A7b (p:List Rul):A7 Tryz.prog 8 [Rul.l p] (vB (Mx p)):=by
 generalize hR:vB (Mx p)=R
 unfold Mx at hR
 (refine A7.of_code mix Tryz.call8 k_8 (by simp) (fun hB=>?_);(try simp at hB);(try simp -implicitDefEqProofs))
 refine Ac (X:=Nat) (fun k=>k≤p.length∧∀y∈p.take k,Mw y=true) (fun k=>[(0,Rul.l p),(3,vI k)]) (fun _=>St0) (fun k=>p.length-k) 0 ⟨by simp,by simp⟩ (by simp) ?_
 rintro k ⟨hk,hn⟩ hbd
 rcases Nat.lt_or_ge k p.length with h|h
 ·have hx:p[k]?=some p[k]:=by simp [h]
  have e3:IntKind.i64.wrap ((k:Int)+1)=(k:Int)+1:=wrap64 (by omega) (by simp [maxLen] at hB;omega)
  have hlc:=Te p[k]
  have htc:=Uq p[k]
  have hstep:Mw p[k]=true→∃z':Nat,(z'≤p.length∧∀y∈p.take z',Mw y=true)∧p.length-z'<p.length-k∧(z':Int)=(k:Int)+1:=by
   intro hr
   refine⟨k+1,⟨by omega,fun y hy=>?_⟩,by omega,by push_cast;rfl⟩
   rw [Ag hx] at hy
   rcases List.mem_append.1 hy with h1|h1
   ·exact hn y h1
   ·simp at h1;subst h1;exact hr
  have hout:Mw p[k]=false→p.all Mw=false:=by
   intro hr
   rw [List.all_eq_false]
   exact⟨p[k],List.getElem_mem h,by simp [hr]⟩
  have hrul:Mw p[k]=(decide (p[k].name.length≤100)&&decide (p[k].stmts.length≤40)&&p[k].stmts.all Rp):=rfl
  have hcc:p[k].c=[.str p[k].name,.bool p[k].pair,.sl (p[k].stmts.map Stm.c),.int .i64 p[k].to]:=rfl
  generalize hrk:p[k]=r at *
  obtain⟨nm,pr,ss,to⟩:=r
  simp only [] at *
  by_cases hnm:nm.length≤100
  ·have hnm':decide ((100:Int)<nm.length)=false:=by simp;omega
   by_cases h40:ss.length≤40
   ·have h40':decide ((40:Int)<ss.length)=false:=by simp;omega
    rw [decide_eq_true hnm,decide_eq_true h40] at hrul
    simp only [Bool.true_and] at hrul
    (try simp -implicitDefEqProofs [h,hrk,hcc,hnm',h40',e3,hlc,htc])
    refine Ac (X:=Nat) (fun j=>j≤ss.length∧∀y∈ss.take j,Rp y=true) (fun j=>[(0,Rul.l p),(3,vI k),(4,vI j)]) (fun _=>St0) (fun j=>ss.length-j) 0 ⟨by simp,by simp⟩ (by simp) ?_
    rintro j ⟨hj,hjn⟩ hbd2
    clear hbd2
    rcases Nat.lt_or_ge j ss.length with g|g
    ·have gx:ss[j]?=some ss[j]:=by simp [g]
     have gl:=Ly ss[j]
     have gt:=Kx ss[j]
     have g3:IntKind.i64.wrap ((j:Int)+1)=(j:Int)+1:=wrap64 (by omega) (by omega)
     have gstep:Rp ss[j]=true→∃z':Nat,(z'≤ss.length∧∀y∈ss.take z',Rp y=true)∧ss.length-z'<ss.length-j∧(z':Int)=(j:Int)+1:=by
      intro hr
      refine⟨j+1,⟨by omega,fun y hy=>?_⟩,by omega,by push_cast;rfl⟩
      rw [Ag gx] at hy
      rcases List.mem_append.1 hy with h1|h1
      ·exact hjn y h1
      ·simp at h1;subst h1;exact hr
     have gout:Rp ss[j]=false→p.all Mw=false:=by
      intro hr
      refine hout ?_
      rw [hrul,List.all_eq_false]
      exact⟨ss[j],List.getElem_mem g,by simp [hr]⟩
     have gcc:ss[j].c=.int .i64 ss[j].kind::.int .i64 ss[j].acc::.str ss[j].name::ss[j].ex.c:=rfl
     have gd:Rp ss[j]=(decide (ss[j].name.length≤100)&&decide (ss[j].ex.cnt≤200)):=rfl
     generalize gsj:ss[j]=st at *
     obtain⟨sk,sa,sn,sx⟩:=st
     simp only [] at *
     have q1:=A4o sx 201 (by omega) (by omega)
     have ql:=Dv sx
     have qt:=Cw sx
     by_cases f1:sn.length≤100
     ·have f1':decide ((100:Int)<sn.length)=false:=by simp;omega
      rw [decide_eq_true f1,Bool.true_and] at gd
      by_cases f2:sx.cnt≤200
      ·have gst:=gstep (by rw [gd];simpa using f2)
       have f2':decide ((200:Int)<((min sx.cnt 201:Nat):Int))=false:=by simp;omega
       generalize min sx.cnt 201=z at *
       ((try simp at q1);(try simp -implicitDefEqProofs [h,hrk,hcc,g,gsj,gcc,gl,gt,ql,qt,e3,g3,hlc,htc,f1',f2']);repeat' first|(with_reducible apply A0<;>first|(simp only [eras,era,A1];first|with_reducible assumption)|(simp -implicitDefEqProofs [h,hrk,hcc,g,gsj,gcc,gl,gt,ql,qt,e3,g3,hlc,htc,f1',f2'])))
       exact gst
      ·rw [gout (by rw [gd];simpa using f2),Bool.false_and] at hR
       subst hR
       have f2':decide ((200:Int)<((min sx.cnt 201:Nat):Int))=true:=by simp;omega
       generalize min sx.cnt 201=z at *
       ((try simp at q1);(try simp -implicitDefEqProofs [h,hrk,hcc,g,gsj,gcc,gl,gt,ql,qt,e3,g3,hlc,htc,f1',f2']);repeat' first|(with_reducible apply A0<;>first|(simp only [eras,era,A1];first|with_reducible assumption)|(simp -implicitDefEqProofs [h,hrk,hcc,g,gsj,gcc,gl,gt,ql,qt,e3,g3,hlc,htc,f1',f2'])))
     ·have f1':decide ((100:Int)<sn.length)=true:=by simp;omega
      rw [gout (by rw [gd];simp [f1]),Bool.false_and] at hR
      subst hR
      ((try simp at q1);(try simp -implicitDefEqProofs [h,hrk,hcc,g,gsj,gcc,gl,gt,ql,qt,e3,g3,hlc,htc,f1']);repeat' first|(with_reducible apply A0<;>first|(simp only [eras,era,A1];first|with_reducible assumption)|(simp -implicitDefEqProofs [h,hrk,hcc,g,gsj,gcc,gl,gt,ql,qt,e3,g3,hlc,htc,f1'])))
    ·have:j=ss.length:=by omega
     subst this
     rw [List.take_length] at hjn
     have hst:=hstep (by rw [hrul];exact List.all_eq_true.2 hjn)
     (try simp -implicitDefEqProofs [h,hrk,hcc,e3,hlc,htc])
     exact hst
   ·have h40':decide ((40:Int)<ss.length)=true:=by simp;omega
    rw [hout (by rw [hrul];simp [h40]),Bool.false_and] at hR
    subst hR
    (try simp -implicitDefEqProofs [h,hrk,hcc,hnm',h40',e3,hlc,htc])
  ·have hnm':decide ((100:Int)<nm.length)=true:=by simp;omega
   rw [hout (by rw [hrul];simp [hnm]),Bool.false_and] at hR
   subst hR
   (try simp -implicitDefEqProofs [h,hrk,hcc,hnm',e3,hlc,htc])
 ·have:k=p.length:=by omega
  subst this
  rw [List.take_length] at hn
  have hall:p.all Mw=true:=List.all_eq_true.2 hn
  rw [hall,Bool.true_and] at hR
  subst hR
  (try simp -implicitDefEqProofs)
  omega
end Go.Proofs.YtmlpmdccfmmpoaaGreatDoor
section
section
set_option linter.unusedSimpArgs false
set_option linter.unusedVariables false
set_option maxHeartbeats 4000000
set_option maxRecDepth 8000
namespace Go.Proofs.YtmlpmdccfmmpoaaGreatDoor
open E

theorem Nv (s y:List UInt8) : ∀(l:List (List UInt8)) (i:Nat) (c:Int),I2 s i (l++[y]) c=if y=s then ((i+l.length:Nat):Int) else I2 s i l c
 | [],i,c=>rfl
 | z::l,i,c=>by
  rw [List.cons_append,I2,Nv s y l,I2,List.length_cons,show i+1+l.length=i+(l.length+1) by omega]
end Go.Proofs.YtmlpmdccfmmpoaaGreatDoor
end

/- Chapter 34: Own and Same of codes. -/
section
set_option linter.unusedSimpArgs false
set_option linter.unusedVariables false
set_option maxHeartbeats 1000000
set_option maxRecDepth 8000
namespace Go.Proofs.YtmlpmdccfmmpoaaGreatDoor
open E

end Go.Proofs.YtmlpmdccfmmpoaaGreatDoor
end

/- Chapter 34: the reference's Compile; the law CompilePrograms. -/
section
set_option linter.unusedSimpArgs false
set_option linter.unusedVariables false
set_option maxHeartbeats 4000000
set_option maxRecDepth 8000
namespace Go.Proofs.YtmlpmdccfmmpoaaGreatDoor
open E

theorem L3 {p:List Rul} (h:Mx p=true):p.length≤50∧(∀r∈p,r.stmts.length≤40)∧(∀r∈p,∀s∈r.stmts,s.ex.cnt≤200):=by
 unfold Mx Mw Rp at h
 simp only [Bool.and_eq_true,List.all_eq_true,decide_eq_true_eq] at h
 exact⟨h.2,fun r hr=>(h.1 r hr).1.2,fun r hr s hs=>((h.1 r hr).2 s hs).2⟩
theorem Va {ss:List Stm} {m:Nat} (h : ∀s∈ss,s.ex.cnt≤m):I3 ss≤ss.length*m:=by
 induction ss with
 | nil=>simp [I3]
 | cons s ss ih=>
  have h1:=ih (fun x hx=>h x (by simp [hx]))
  have h2:=h s (by simp)
  simp only [I3,List.map_cons,List.sum_cons,List.length_cons] at h1 ⊢
  rw [Nat.add_mul];omega
theorem A0i {p:List Rul} (h:Mx p=true) : ∀r∈p,I3 r.stmts≤8000:=fun r hr=>by
 obtain⟨_,b,c⟩:=L3 h
 have h1:=Va (c r hr)
 have h2:=b r hr
 have h3:r.stmts.length*200≤40*200:=Nat.mul_le_mul_right _ h2
 omega
end Go.Proofs.YtmlpmdccfmmpoaaGreatDoor
end
end
namespace Go.Proofs.YtmlpmdccfmmpoaaGreatDoor
open E
def qC (s:Src) (oth:Int) (sv lv pv:V):List V:=[vI s.ent,vB s.full,.t (.bool (nB s.num)),.t (.sl (qE s.num)),.t (.bool (nB s.den)),.t (.sl (qE s.den)),.t (.sl (s.items.map Item.c)),vI oth,sv,lv,pv]
theorem A5s (b kb n:Nat) (B:List Bx) (hU : ∀m,Aa B.length m B B) (s:Src) (oth:Int) (lv pv:V) (cs:List V) (v:Int) (h1:B[b]?=some (.cells (qC s oth (.bw kb (n+1)) lv pv))) (h2:B[kb]?=some (.buf 3 1 cs)) (h3:cs[n]?=some (vI v)) (hn:n+1≤1000000)
  (hlv:okN B.length 0 lv=true) (hpv:okN B.length 0 pv=true) :
  FnS Tryz.prog 36 [.ptr b 0] ⟨B,[]⟩ (vI v) ⟨B.set b (.cells (qC s oth (.bw kb n) lv pv)),[]⟩:=by
 have hkb:=Ab h2
 have hcn:=Ab h3
 have e1:IntKind.i64.wrap (n:Int)=(n:Int):=E6 (by omega)
 have j1:(n:Int)<(n:Int)+1:=by omega
 have j2:(n:Int)≤(n:Int)+1:=by omega
 have j3:n+1≤cs.length:=by omega
 have h3' : ∀h,cs[n]'h=vI v:=fun h=>by rw [List.getElem?_eq_getElem h] at h3;exact Option.some.inj h3
 have hfin:Aa B.length 0 (B.set b (.cells (qC s oth (.bw kb n) lv pv))) (B.set b (.cells (qC s oth (.bw kb n) lv pv))):=Aa.set (show E.leB B.length 0 (.cells _) (.cells _) from ⟨A4 _,by unfold qC;simp [okNs,okN,hlv,hpv];exact hkb⟩) b (hU 0)
 unfold qC at h1 hfin ⊢
 (refine FnS.of_code mix Tryz.call36 k_36 (by simp) (fun hB=>?_);(try simp at hB);(try simp -implicitDefEqProofs))
 (try simp -implicitDefEqProofs [h1,h2,h3,h3',e1,j1,j2,j3,hcn,hfin])
end Go.Proofs.YtmlpmdccfmmpoaaGreatDoor
section
set_option linter.unusedSimpArgs false
set_option linter.unusedVariables false
set_option maxHeartbeats 4000000
set_option maxRecDepth 8000
namespace Go.Proofs.YtmlpmdccfmmpoaaGreatDoor
open E

structure QS (B:List Bx) (b kb:Nat) (s:Src) (oth:Int) (lv pv:V) (st:List Int) (cs:List V):Prop where
 U:OkU B
 hb:B[b]?=some (.cells (qC s oth (.bw kb st.length) lv pv))
 hk:B[kb]?=some (.buf 3 1 cs)
 ht:cs.take st.length=st.reverse.map vI
 hl:st.length≤8000
 lv : ∀n m,B.length≤n→okN n m lv=true
 pv : ∀n m,B.length≤n→okN n m pv=true
def QM (B:List Bx) (b kb:Nat) (s:Src) (oth:Int) (lv pv:V) (n:Nat):List Bx:=B.set b (.cells (qC s oth (.bw kb n) lv pv))
def QF (B:List Bx) (b kb:Nat) (s:Src) (oth:Int) (lv pv:V) (n:Nat):List Bx:=(B.set kb .dead).set b (.cells (qC s oth (.bw (B.length+1) n) lv pv))
section
variable {B:List Bx} {b kb:Nat} {s:Src} {oth:Int} {lv pv:V} {st:List Int} {cs:List V}
theorem QS.ne (h:QS B b kb s oth lv pv st cs):kb≠b:=fun e=>by have:=h.hk;rw [e,h.hb] at this;cases this
theorem QS.same (h:QS B b kb s oth lv pv st cs):QM B b kb s oth lv pv st.length=B:=by
 obtain⟨h1,h2⟩:=List.getElem?_eq_some_iff.1 h.hb
 unfold QM;rw [←h2,List.set_getElem_self]
theorem A7c {n m:Nat} {sv lv pv:V} (h1:okN n m sv=true) (h2:okN n m lv=true) (h3:okN n m pv=true):E.leB n m (.cells (qC s oth sv lv pv)) (.cells (qC s oth sv lv pv)):=⟨A4 _,by unfold qC;simp [okNs,okN,h1,h2,h3]⟩
theorem QS.len (x:Bx) (k:Nat):(QM B b kb s oth lv pv k++[x]).length=B.length+1:=by unfold QM;simp
theorem QS.get (h:QS B b kb s oth lv pv st cs) {j:Nat} {v:Int} (hj:j<st.length) (hv:st.reverse[j]?=some v):cs[j]?=some (vI v):=by
 have:=congrArg (fun l=>l[j]?) h.ht
 simp only [List.getElem?_take,if_pos hj,List.getElem?_map,hv,Option.map_some] at this
 exact this
theorem QS.takes (h:QS B b kb s oth lv pv st cs) {st' r:List Int} (e:st=r++st'):cs.take st'.length=st'.reverse.map vI:=by
 have h1:=h.ht
 rw [e,List.reverse_append,List.map_append,List.length_append] at h1
 have h2:=congrArg (List.take st'.length) h1
 rw [List.take_take,Nat.min_eq_left (by omega),List.take_left' (by simp)] at h2
 exact h2
theorem QS.fin (h:QS B b kb s oth lv pv st cs) (x:Bx) (n:Nat) (l:List Int):Aa (B.length+2) 0 (QF B b kb s oth lv pv n++[x,.buf 3 1 (l.map vI)]) (QF B b kb s oth lv pv n++[.dead,.buf 3 1 (l.map vI)]):=
 (Aa.appU (Aa.set (A7c (by simp [okN]) (h.lv _ _ (by omega)) (h.pv _ _ (by omega))) b (Aa.set (show E.leB _ _ .dead .dead from trivial) kb (h.U _ 0 (by omega))))).2 ⟨trivial,Fv _ _ _,trivial⟩
end
end Go.Proofs.YtmlpmdccfmmpoaaGreatDoor
end
section
set_option linter.unusedSimpArgs false
set_option linter.unusedVariables false
set_option maxHeartbeats 4000000
set_option maxRecDepth 8000
namespace Go.Proofs.YtmlpmdccfmmpoaaGreatDoor
open E
section
variable {B:List Bx} {b kb:Nat} {s:Src} {oth:Int} {lv pv:V} {st:List Int} {cs:List V}
end
end Go.Proofs.YtmlpmdccfmmpoaaGreatDoor
end
namespace Go.Proofs.YtmlpmdccfmmpoaaGreatDoor
open E
theorem Jx {k:Int} : ∀{l:List Part},(∀p∈l,Aj p.amt=true)→-(1000000000000*(l.length:Int))≤Ar l k∧Ar l k≤1000000000000*(l.length:Int)
 | [],_=>by simp [Ar]
 | p::l,h=>by
  have ih:=Jx (k:=k) (l:=l) fun q hq=>h q (by simp [hq])
  have h1:=H7 (h p (by simp))
  rw [M7,List.length_cons]
  push_cast
  split<;>omega
def SM (l:List Part):Prop:=∀(j:Nat) (k:Int),-9000000000000000000≤Ar (l.take j) k∧Ar (l.take j) k≤9000000000000000000
theorem SM.of {l:List Part} (h : ∀p∈l,Aj p.amt=true) (hl:l.length≤8001):SM l:=fun j k=>by
 have h1:=Jx (k:=k) (l:=l.take j) fun p hp=>h p (List.mem_of_mem_take hp)
 have h2:(l.take j).length≤8001:=by simp;omega
 omega
theorem SM.to {l:List Part} (h : ∀p∈l,Aj p.amt=true) (hl:l.length≤8000) (a:Int) {x:Int} (hx : -8000000000000000≤x∧x≤8000000000000000):SM (l++[⟨a,x⟩]):=fun j k=>by
 rcases Nat.lt_or_ge l.length j with hj|hj
 ·rw [List.take_of_length_le (by simp;omega)]
  have h1:=Jx (k:=k) h
  have h2:Ar (l++[⟨a,x⟩]) k=Ar l k+(if a=k then x else 0):=by unfold Ar;simp
  rw [h2]
  split<;>omega
 ·rw [List.take_append_of_le_length hj]
  exact SM.of h (by omega) j k
theorem Rq {l:List Sou} {cs:List Code} (h:Tv l cs=true):l.length≤13∧cs.length≤10∧(∀c∈cs,c.ins.length≤400)∧∀x∈l,x.items.length≤60:=by
 unfold Tv J3 at h
 simp only [Bool.and_eq_true,List.all_eq_true,decide_eq_true_eq] at h
 exact⟨h.1.2,h.2,fun c hc=>(h.1.1.2 c hc).2,h.1.1.1⟩
theorem A0j {l:List Sou} {cs:List Code} (h:Tv l cs=true) (hw : ∀x∈l,x.wf) : ∀s∈l.map Sou.src,s.num.natAbs≤100000∧0<s.den∧s.den≤100000∧s.items.length≤1000:=by
 intro s hs
 obtain⟨x,hx,rfl⟩:=List.mem_map.1 hs
 have h1:=(Rq h).2.2.2 x hx
 obtain⟨h2,h3⟩:=hw x hx
 have h4:=Uu (a:=x.sh) (q:=10000) (by decide)
 have h5:=Z1 (a:=x.sh) (q:=10000)
 have h6:=Ut (a:=x.sh) (q:=10000) (by decide)
 unfold Sou.src
 exact⟨by simp only [];omega,h6,by simp only [];omega,by simp only [];omega⟩
theorem U3 {ps l:List Part} (h:De ps=some l):l.length≤ps.length:=by
 unfold De at h
 split at h
 ·cases h
  rw [List.length_map]
  exact Nat.le_trans (List.length_filter_le _ _) (Hz ps)
 ·cases h
theorem Fg {s:Src} {oth:Int} : ∀{l:List Ins} {st loc:List Int} {ps q:List Part},Am s oth l st loc ps=some q→q.length≤ps.length+l.length
 | [],st,loc,ps,q,h=>by cases h;simp
 | x::l,st,loc,ps,q,h=>by
  unfold Am at h
  rw [List.length_cons]
  split at h
  ·have:=Fg h;omega
  split at h
  ·split at h
   ·cases h;simp
   ·have:=Fg h;omega
  split at h
  ·have:=Fg h;rw [List.length_append] at this;simp at this;omega
  split at h
  ·have:=U3 h;rw [List.length_append] at this;simp at this;omega
  split at h
  ·have:=Fg h;omega
  ·cases h
structure BalP (cs:List Code) (p:Posting):Prop where
 kind:p.kind=10
 r0:0≤p.rule
 rl:p.rule<cs.length
 oth : ∀c,cs[p.rule.toNat]?=some c→(p.oth == -1) = !c.pair
 parts:PartsOk p.parts
 two:2≤p.parts.length
 len:p.parts.length≤8000
theorem A2w {cs:List Code} {l:List Src} {q:List Posting} (hci : ∀c∈cs,c.ins.length≤8000) (hl:Fd l=true) (h:Hd cs l=some q) {p:Posting} (hp:p∈q):BalP cs p:=by
 obtain⟨y,hy,h1,h2,h3,h4,h5,h6,h7⟩:=A2e h hp
 obtain⟨g1,g2,g3,g4⟩:=A2d hy
 have g0:=Ab g1
 refine⟨h2,by omega,by omega,fun c hc=>?_,h6,h6.two h7,?_⟩
 case refine_2=>
  unfold Cy at h1
  obtain⟨ps,hx,rfl⟩:=Option.map_eq_some_iff.1 h1
  have hl:=Fg hx
  have hcl:=hci _ (List.mem_of_getElem? g1)
  simp at hl
  unfold G5
  split
  ·simp
  ·simp only [];omega
 rw [h3,Int.toNat_natCast,g1] at hc
 cases hc
 by_cases hp:y.1.1.pair=true
 ·rw [if_pos hp] at g4
  obtain⟨o,o1,o2,o3,o4⟩:=g4
  have:=(Fu hl o1).1
  rw [hp,h5,←o3]
  simp;omega
 ·rw [if_neg hp] at g4
  rw [Bool.not_eq_true] at hp
  rw [hp,h5,g4];rfl
end Go.Proofs.YtmlpmdccfmmpoaaGreatDoor
