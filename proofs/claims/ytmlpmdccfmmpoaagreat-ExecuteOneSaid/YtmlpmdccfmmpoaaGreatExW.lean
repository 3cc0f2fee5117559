/- Chapter 35: the program's find. -/
import Derived.Test.YtmlpmdccfmmpoaaGreatRxD
import Derived.Test.YtmlpmdccfmmpoaaGreatExH
section
set_option linter.unusedSimpArgs false
set_option linter.unusedVariables false
set_option maxHeartbeats 4000000
set_option maxRecDepth 8000
namespace Go.Proofs.YtmlpmdccfmmpoaaGreat
open E

def findR (l:List Src) (ent:Int):Option Src:=l.find? fun s=>s.ent==ent&&s.full
def zeroQ:V:=.agg [vI 0,vB false,vB false,.t (.sl []),vB false,.t (.sl []),.t (.sl [])]
def findV (r:Option Src):V:=match r with
 | some s=>.tup [s.qv,vB true]
 | none=>.tup [zeroQ,vB false]
theorem find_none {l:List Src} {ent:Int} (h : ∀s∈l,(s.ent==ent&&s.full)=false):findR l ent=none:=List.find?_eq_none.2 fun s hs=>by rw [h s hs]; decide
theorem find_some {l:List Src} {ent:Int} {k:Nat} {s:Src} (hs:l[k]?=some s) (h:(s.ent==ent&&s.full)=true) (hb : ∀t∈l.take k,(t.ent==ent&&t.full)=false):findR l ent=some s:=by
 obtain⟨hk,rfl⟩:=List.getElem?_eq_some_iff.1 hs
 unfold findR
 rw [List.find?_eq_some_iff_getElem]
 refine⟨h,k,hk,rfl,fun j hj=>?_⟩
 have:=hb l[j] (List.mem_take_iff_getElem.2 ⟨j,by omega,rfl⟩)
 simp only [this]; decide
theorem w_qfind (l:List Src) (ent:Int) (hl:l.length≤1000):Pure Tryz.prog 38 [Src.ql l,vI ent] (findV (findR l ent)):=by
 generalize hR:findV (findR l ent)=R
 (refine Pure.of_code mix Tryz.call38 k_38 (by simp) (fun hB=>?_); (try simp at hB); (try simp -implicitDefEqProofs [qc_38]))
 refine loop_rule (X:=Nat) (fun k=>k≤l.length∧∀t∈l.take k,(t.ent==ent&&t.full)=false) (fun k=>[(0,Src.ql l),(1,vI ent),(4,.ptr 0 0),(6,vI k)]) (fun _=>⟨[.cells [vI 0,vB false,vB false,.snil,vB false,.snil,.snil]],[]⟩) (fun k=>l.length-k) 0 ⟨by omega,by simp⟩ (by simp [Src.ql,okN]) ?_
 rintro k ⟨hk,hb⟩ hbd
 clear hbd
 rcases Nat.lt_or_ge k l.length with h | h
 ·obtain⟨s,hs⟩:=get_of_lt h
  have e3:IntKind.i64.wrap ((k:Int)+1)=(k:Int)+1:=wrap64 (by omega) (by omega)
  have hsc:(l.map Src.q)[k]?=some s.q:=by simp [hs]
  have hsc' : ∀h,(l.map Src.q)[k]'h=s.q:=fun h=>by rw [List.getElem?_eq_getElem h] at hsc; exact Option.some.inj hsc
  have hcc:s.q=[.int .i64 s.ent,.bool s.full,.bool (nB s.num),.sl (qE s.num),.bool (nB s.den),.sl (qE s.den),.sl (s.items.map Item.c)]:=rfl
  rw [hcc] at hsc hsc'
  have hfin:(s.ent==ent&&s.full)=false→∃z':Nat,(z'≤l.length∧∀t∈l.take z',(t.ent==ent&&t.full)=false)∧l.length-z'<l.length-k∧(z':Int)=(k:Int)+1:=fun hq=>by
   refine⟨k+1,⟨by omega,fun y hy=>?_⟩,by omega,by push_cast; rfl⟩
   rw [take_next hs] at hy
   rcases List.mem_append.1 hy with h1 | h1
   ·exact hb y h1
   ·simp at h1; subst h1; exact hq
  by_cases c1:s.ent=ent
  ·cases c2:s.full
   ·have hq:=hfin (by rw [c2]; simp)
    rw [c2] at hsc hsc'
    ((try simp -implicitDefEqProofs [h,hsc,hsc',Src.ql,c1,e3]); repeat' first | ((with_reducible first | apply gdK_em | apply cdK_em | apply pickK_em)<;>(intro hc; have hc':=hc; (try simp at hc'); simp -implicitDefEqProofs [hc,hc',h,hsc,hsc',Src.ql,c1,e3])))
    simpa using hq
   ·rw [find_some hs (by rw [c2,c1]; simp) hb] at hR
    rw [←hR]
    simp only [findV,Src.qv,c2,c1]
    rw [c2,c1] at hsc hsc'
    ((try simp -implicitDefEqProofs [h,hsc,hsc',Src.ql,e3]); repeat' first | ((with_reducible first | apply gdK_em | apply cdK_em | apply pickK_em)<;>(intro hc; have hc':=hc; (try simp at hc'); simp -implicitDefEqProofs [hc,hc',h,hsc,hsc',Src.ql,e3])))
  ·have c3:(s.ent==ent)=false:=by simpa using c1
   have hq:=hfin (by rw [c3]; rfl)
   ((try simp -implicitDefEqProofs [h,hsc,hsc',Src.ql,c1,c3,e3]); repeat' first | ((with_reducible first | apply gdK_em | apply cdK_em | apply pickK_em)<;>(intro hc; have hc':=hc; (try simp at hc'); simp -implicitDefEqProofs [hc,hc',h,hsc,hsc',Src.ql,c1,c3,e3])))
   simpa using hq
 ·have hke:k=l.length:=by omega
  subst hke
  rw [List.take_of_length_le (Nat.le_refl _)] at hb
  rw [find_none hb] at hR
  rw [←hR]
  ((try simp -implicitDefEqProofs [findV,zeroQ,Src.ql]); repeat' first | ((with_reducible first | apply gdK_em | apply cdK_em | apply pickK_em)<;>(intro hc; have hc':=hc; (try simp at hc'); simp -implicitDefEqProofs [hc,hc',findV,zeroQ,Src.ql])))
end Go.Proofs.YtmlpmdccfmmpoaaGreat
end
section
set_option linter.unusedSimpArgs false
set_option linter.unusedVariables false
set_option maxHeartbeats 4000000
set_option maxRecDepth 8000
namespace Go.Proofs.YtmlpmdccfmmpoaaGreat
open E

theorem w_find11 (s:Src) (k:Int) (kb:Nat) (S:St) (hS:OkS S) (hk:S.boxes[kb]?=some (.cells [vI k])):FnS Tryz.prog 60 [s.v,.ptr kb 0] S (vB (s.ent==k&&s.full)) S:=by
 obtain⟨ent,full,num,den,items⟩:=s
 have hS':=hS
 simp [OkS] at hS'
 have hv:Src.v ⟨ent,full,num,den,items⟩=.agg [vI ent,vB full,.t (.bool (nB num)),.t (.sl (pE num)),.t (.bool (nB den)),.t (.sl (pE den)),.t (.sl (items.map Item.c))]:=rfl
 rw [hv]
 have hkE : ∀l:List Bx,(S.boxes++l)[kb]?=some (.cells [vI k]):=fun l=>by rw [List.getElem?_append_left (List.getElem?_eq_some_iff.1 hk).1]; exact hk
 have gz : ∀(l:List Bx),(S.boxes++l)[S.boxes.length]?=l[0]?:=fun l=>by rw [List.getElem?_append_right (by omega)]; simp
 have hle : ∀l:List Bx,LeBs S.boxes.length S.toks.length (S.boxes++l) S.boxes:=fun l=>LeBs.ext l hS.1
 by_cases c:ent=k
 ·subst c
  (refine FnS.of_code mix Tryz.call60 k_60 (by simp) (fun hB=>?_); (try simp at hB); (try simp -implicitDefEqProofs [qc_60]))
  ((try simp -implicitDefEqProofs [hkE,gz,hle,hS']); repeat' first | ((with_reducible first | apply gdK_em | apply cdK_em | apply pickK_em)<;>(intro hc; have hc':=hc; (try simp at hc'); simp -implicitDefEqProofs [hc,hc',hkE,gz,hle,hS'])))
 ·have c':(ent==k)=false:=by simpa using c
  (refine FnS.of_code mix Tryz.call60 k_60 (by simp) (fun hB=>?_); (try simp at hB); (try simp -implicitDefEqProofs [qc_60]))
  ((try simp -implicitDefEqProofs [hkE,gz,hle,hS',c,c']); repeat' first | ((with_reducible first | apply gdK_em | apply cdK_em | apply pickK_em)<;>(intro hc; have hc':=hc; (try simp at hc'); simp -implicitDefEqProofs [hc,hc',hkE,gz,hle,hS',c,c'])))
theorem w_find1 (l:List Src) (k:Int) (lb:Nat) (B:List Bx) (hB:OkU B) (hl:B[lb]?=some (.cells [Src.l l])):FnS Tryz.prog 58 [vI k,.ptr lb 0] ⟨B,[]⟩ (vI (idxS (fun s=>s.ent==k&&s.full) l)) ⟨B,[]⟩:=by
 have hB1:OkU (B++[.cells [vI k]]):=fun n m hn=>(LeBs.appU (hB n m (by simp at hn; omega))).2 ⟨⟨LeL_refl _,rfl⟩,trivial⟩
 have hkb:(B++[Bx.cells [vI k]])[B.length]?=some (.cells [vI k]):=by rw [List.getElem?_append_right (by omega)]; simp
 have hix:=w_IndexU ⟨B++[.cells [vI k]],[]⟩ hB1.S l 60 [.ptr B.length 0] (by simp [okNs,okN]) (fun s=>s.ent==k&&s.full) (fun s _=>w_find11 s k B.length _ hB1.S hkb)
 have hlE : ∀x:List Bx,(B++x)[lb]?=some (.cells [Src.l l]):=fun x=>app_ltU hl x
 have hle : ∀x:List Bx,LeBs B.length 0 (B++x) B:=fun x=>LeBs.ext x (hB _ _ (Nat.le_refl _))
 generalize idxS (fun s=>s.ent==k&&s.full) l=R at *
 unfold Src.l at hlE hix
 (refine FnS.of_code mix Tryz.call58 k_58 (by simp) (fun hB=>?_); (try simp at hB); (try simp -implicitDefEqProofs [qc_58]))
 ((try simp -implicitDefEqProofs [hlE,hle]); repeat' first | ((with_reducible first | apply gdK_em | apply cdK_em | apply pickK_em)<;>(intro hc; have hc':=hc; (try simp at hc'); simp -implicitDefEqProofs [hc,hc',hlE,hle])))
 refine callKf hix ?_
 ((try simp -implicitDefEqProofs [hle]); repeat' first | ((with_reducible first | apply gdK_em | apply cdK_em | apply pickK_em)<;>(intro hc; have hc':=hc; (try simp at hc'); simp -implicitDefEqProofs [hc,hc',hle])))
theorem idx_find (l:List Src) (k:Int):(findS l k=none∧idxS (fun s=>s.ent==k&&s.full) l = -1)∨∃(i:Nat) (s:Src),findS l k=some s∧l[i]?=some s∧idxS (fun s=>s.ent==k&&s.full) l=(i:Int):=by
 cases h:findS l k with
 | none=>
  refine .inl ⟨rfl,?_⟩
  have:l.findIdx? (fun s=>s.ent==k&&s.full)=none:=by
   rw [List.findIdx?_eq_none_iff]
   intro x hx
   have:=List.find?_eq_none.1 h x hx
   simpa using this
  unfold idxS; rw [this]
 | some s=>
  unfold findS at h
  rw [List.find?_eq_some_iff_getElem] at h
  obtain⟨h1,i,hi,h2,h3⟩:=h
  refine .inr ⟨i,s,rfl,by rw [List.getElem?_eq_getElem hi,h2],?_⟩
  refine idxS_in (x:=s) (by rw [List.getElem?_eq_getElem hi,h2]) (fun y hy=>?_) h1
  obtain⟨j,hj,rfl⟩:=List.mem_take_iff_getElem.1 hy
  have:=h3 j (by omega)
  simp only [Bool.not_eq_true'] at this
  exact this
def fndR (l:List Src) (ent oth:Int):Option Src:=match findS l ent with
 | none=>none
 | some s=>if oth≠-1∧((findS l oth).isNone=true∨oth=ent) then none else some s
theorem w_find (l:List Src) (ent oth:Int) (B:List Bx) (hB:OkU B) :
  (fndR l ent oth=none→FnS Tryz.prog 37 [Src.l l,vI ent,vI oth] ⟨B,[]⟩ (.tup [.t .nilp,vI 8]) ⟨B,[]⟩)∧
  (∀s,fndR l ent oth=some s→FnS Tryz.prog 37 [Src.l l,vI ent,vI oth] ⟨B,[]⟩ (.tup [.ptr (B.length+2) 0,vI 0]) ⟨B++[.dead,.mp [],.cells (mC s oth .snil (B.length+1) 0)],[]⟩):=by
 have hB1:OkU (B++[.cells [Src.l l]]):=fun n m hn=>(LeBs.appU (hB n m (by simp at hn; omega))).2 ⟨⟨LeL_refl _,rfl⟩,trivial⟩
 have hkb:(B++[Bx.cells [Src.l l]])[B.length]?=some (.cells [Src.l l]):=by rw [List.getElem?_append_right (by omega)]; simp
 have h1:=w_find1 l ent B.length (B++[.cells [Src.l l]]) hB1 hkb
 have h2:=w_find1 l oth B.length (B++[.cells [Src.l l]]) hB1 hkb
 have hle : ∀x:List Bx,LeBs B.length 0 (B++x) B:=fun x=>LeBs.ext x (hB _ _ (Nat.le_refl _))
 have gz : ∀(l:List Bx),(B++l)[B.length]?=l[0]?:=fun l=>by rw [List.getElem?_append_right (by omega)]; simp
 unfold fndR
 rcases idx_find l ent with ⟨e1,i1⟩ | ⟨i,s,e1,g1,i1⟩
 ·rw [e1]
  refine⟨fun _=>?_,fun s hs=>by cases hs⟩
  rw [i1] at h1
  unfold Src.l at h1 h2 ⊢
  (refine FnS.of_code mix Tryz.call37 k_37 (by simp) (fun hB=>?_); (try simp at hB); (try simp -implicitDefEqProofs [qc_37]))
  ((try simp -implicitDefEqProofs [gz,hle]); repeat' first | ((with_reducible first | apply gdK_em | apply cdK_em | apply pickK_em)<;>(intro hc; have hc':=hc; (try simp at hc'); simp -implicitDefEqProofs [hc,hc',gz,hle])))
  refine callKf h1 ?_
  ((try simp -implicitDefEqProofs [gz,hle]); repeat' first | ((with_reducible first | apply gdK_em | apply cdK_em | apply pickK_em)<;>(intro hc; have hc':=hc; (try simp at hc'); simp -implicitDefEqProofs [hc,hc',gz,hle])))
 ·rw [e1]
  simp only []
  rw [i1] at h1
  have hil:=lt_of_get g1
  have hsc:(l.map Src.c)[i]?=some s.c:=by simp [g1]
  have hsc' : ∀h,(l.map Src.c)[i]'h=s.c:=fun h=>by rw [List.getElem?_eq_getElem h] at hsc; exact Option.some.inj hsc
  have hcc:s.c=[.int .i64 s.ent,.bool s.full,.bool (nB s.num),.sl (pE s.num),.bool (nB s.den),.sl (pE s.den),.sl (s.items.map Item.c)]:=rfl
  rw [hcc] at hsc hsc'
  have hi0 : ¬(i:Int)<0:=by omega
  have hfin:LeBs (B.length+3) 0 (B++[.cells [.t (.sl (l.map Src.c))],.mp [],.cells (mC s oth .snil (B.length+1) 0)]) (B++[.dead,.mp [],.cells (mC s oth .snil (B.length+1) 0)]):=
   (LeBs.appU (hB _ _ (by omega))).2 ⟨trivial,leB_mp [],⟨LeL_refl _,by unfold mC; simp [okNs,okN]⟩,trivial⟩
  unfold mC at hfin
  by_cases c1:oth = -1
  ·rw [if_neg (fun h=>h.1 c1)]
   refine⟨fun h=>(by cases h),fun s' hs'=>?_⟩
   cases hs'
   subst c1
   unfold Src.l mC at *
   (refine FnS.of_code mix Tryz.call37 k_37 (by simp) (fun hB=>?_); (try simp at hB); (try simp -implicitDefEqProofs [qc_37]))
   ((try simp -implicitDefEqProofs [gz,hle]); repeat' first | ((with_reducible first | apply gdK_em | apply cdK_em | apply pickK_em)<;>(intro hc; have hc':=hc; (try simp at hc'); simp -implicitDefEqProofs [hc,hc',gz,hle])))
   refine callKf h1 ?_
   ((try simp -implicitDefEqProofs [gz,hle,hi0,hil,hsc,hsc',hfin]); repeat' first | ((with_reducible first | apply gdK_em | apply cdK_em | apply pickK_em)<;>(intro hc; have hc':=hc; (try simp at hc'); simp -implicitDefEqProofs [hc,hc',gz,hle,hi0,hil,hsc,hsc',hfin])))
  ·have c1':(oth == -1)=false:=by simpa using c1
   have c2':(oth != -1)=true:=by simpa using c1
   rcases idx_find l oth with ⟨e3,i3⟩ | ⟨j,s3,e3,g3,i3⟩
   ·rw [if_pos ⟨c1,.inl (by rw [e3]; rfl)⟩]
    refine⟨fun _=>?_,fun s' hs'=>(by cases hs')⟩
    rw [i3] at h2
    unfold Src.l at h1 h2 ⊢
    (refine FnS.of_code mix Tryz.call37 k_37 (by simp) (fun hB=>?_); (try simp at hB); (try simp -implicitDefEqProofs [qc_37]))
    ((try simp -implicitDefEqProofs [gz,hle]); repeat' first | ((with_reducible first | apply gdK_em | apply cdK_em | apply pickK_em)<;>(intro hc; have hc':=hc; (try simp at hc'); simp -implicitDefEqProofs [hc,hc',gz,hle])))
    refine callKf h1 ?_
    ((try simp -implicitDefEqProofs [gz,hle,hi0,c1,c1',c2']); repeat' first | ((with_reducible first | apply gdK_em | apply cdK_em | apply pickK_em)<;>(intro hc; have hc':=hc; (try simp at hc'); simp -implicitDefEqProofs [hc,hc',gz,hle,hi0,c1,c1',c2'])))
    refine callKf h2 ?_
    ((try simp -implicitDefEqProofs [gz,hle]); repeat' first | ((with_reducible first | apply gdK_em | apply cdK_em | apply pickK_em)<;>(intro hc; have hc':=hc; (try simp at hc'); simp -implicitDefEqProofs [hc,hc',gz,hle])))
   ·rw [i3] at h2
    have hj0 : ¬(j:Int)<0:=by omega
    by_cases c3:oth=ent
    ·rw [if_pos ⟨c1,.inr c3⟩]
     refine⟨fun _=>?_,fun s' hs'=>(by cases hs')⟩
     subst c3
     unfold Src.l at h1 h2 ⊢
     (refine FnS.of_code mix Tryz.call37 k_37 (by simp) (fun hB=>?_); (try simp at hB); (try simp -implicitDefEqProofs [qc_37]))
     ((try simp -implicitDefEqProofs [gz,hle]); repeat' first | ((with_reducible first | apply gdK_em | apply cdK_em | apply pickK_em)<;>(intro hc; have hc':=hc; (try simp at hc'); simp -implicitDefEqProofs [hc,hc',gz,hle])))
     refine callKf h1 ?_
     ((try simp -implicitDefEqProofs [gz,hle,hi0,c1,c1',c2']); repeat' first | ((with_reducible first | apply gdK_em | apply cdK_em | apply pickK_em)<;>(intro hc; have hc':=hc; (try simp at hc'); simp -implicitDefEqProofs [hc,hc',gz,hle,hi0,c1,c1',c2'])))
     refine callKf h2 ?_
     ((try simp -implicitDefEqProofs [gz,hle,hj0]); repeat' first | ((with_reducible first | apply gdK_em | apply cdK_em | apply pickK_em)<;>(intro hc; have hc':=hc; (try simp at hc'); simp -implicitDefEqProofs [hc,hc',gz,hle,hj0])))
    ·rw [if_neg (fun h=>h.2.elim (fun h=>by rw [e3] at h; cases h) c3)]
     refine⟨fun h=>(by cases h),fun s' hs'=>?_⟩
     cases hs'
     have c3':(oth==ent)=false:=by simpa using c3
     unfold Src.l at h1 h2 gz hle ⊢
     unfold mC at *
     (refine FnS.of_code mix Tryz.call37 k_37 (by simp) (fun hB=>?_); (try simp at hB); (try simp -implicitDefEqProofs [qc_37]))
     ((try simp -implicitDefEqProofs [gz,hle]); repeat' first | ((with_reducible first | apply gdK_em | apply cdK_em | apply pickK_em)<;>(intro hc; have hc':=hc; (try simp at hc'); simp -implicitDefEqProofs [hc,hc',gz,hle])))
     refine callKf h1 ?_
     ((try simp -implicitDefEqProofs [gz,hle,hi0,c1,c1',c2']); repeat' first | ((with_reducible first | apply gdK_em | apply cdK_em | apply pickK_em)<;>(intro hc; have hc':=hc; (try simp at hc'); simp -implicitDefEqProofs [hc,hc',gz,hle,hi0,c1,c1',c2'])))
     refine callKf h2 ?_
     ((try simp -implicitDefEqProofs [gz,hle,hj0,c3,c3',hil,hsc,hsc',hfin]); repeat' first | ((with_reducible first | apply gdK_em | apply cdK_em | apply pickK_em)<;>(intro hc; have hc':=hc; (try simp at hc'); simp -implicitDefEqProofs [hc,hc',gz,hle,hj0,c3,c3',hil,hsc,hsc',hfin])))
end Go.Proofs.YtmlpmdccfmmpoaaGreat
end
