/- Chapter 35: the program's find. -/
import Derived.Test.YtmlpmdccfmmpoaaGreatExH
set_option linter.unusedSimpArgs false
set_option linter.unusedVariables false
set_option maxHeartbeats 4000000
set_option maxRecDepth 8000
namespace Go.Proofs.YtmlpmdccfmmpoaaGreat
open E

theorem Tn (s:Src) (k:Int) (kb:Nat) (S:St) (hS:OkS S) (hk:S.boxes[kb]?=some (.cells [vI k])):FnS Tryz.prog 60 [s.v,.ptr kb 0] S (vB (s.ent==k&&s.full)) S:=by
 obtain⟨ent,full,num,den,items⟩:=s
 have hS':=hS
 simp [OkS] at hS'
 have hv:Src.v ⟨ent,full,num,den,items⟩=.agg [vI ent,vB full,.t (.bool (nB num)),.t (.sl (pE num)),.t (.bool (nB den)),.t (.sl (pE den)),.t (.sl (items.map Item.c))]:=rfl
 rw [hv]
 have hkE : ∀l:List Bx,(S.boxes++l)[kb]?=some (.cells [vI k]):=fun l=>by rw [List.getElem?_append_left (List.getElem?_eq_some_iff.1 hk).1];exact hk
 have gz : ∀(l:List Bx),(S.boxes++l)[S.boxes.length]?=l[0]?:=fun l=>by rw [List.getElem?_append_right (by omega)];simp
 have hle : ∀l:List Bx,A6 S.boxes.length S.toks.length (S.boxes++l) S.boxes:=fun l=>A6.ext l hS.1
 by_cases c:ent=k
 ·subst c
  (refine FnS.of_code mix Tryz.call60 k_60 (by simp) (fun hB=>?_);(try simp at hB);(try simp -implicitDefEqProofs))
  (try simp -implicitDefEqProofs [hkE,gz,hle,hS'])
 ·have c':(ent==k)=false:=by simpa using c
  (refine FnS.of_code mix Tryz.call60 k_60 (by simp) (fun hB=>?_);(try simp at hB);(try simp -implicitDefEqProofs))
  (try simp -implicitDefEqProofs [hkE,gz,hle,hS',c,c'])
theorem P9 (l:List Src) (k:Int) (lb:Nat) (B:List Bx) (hB:OkU B) (hl:B[lb]?=some (.cells [Src.l l])):FnS Tryz.prog 58 [vI k,.ptr lb 0] ⟨B,[]⟩ (vI (G8 (fun s=>s.ent==k&&s.full) l)) ⟨B,[]⟩:=by
 have hB1:OkU (B++[.cells [vI k]]):=fun n m hn=>(A6.appU (hB n m (by simp at hn;omega))).2 ⟨⟨A3 _,rfl⟩,trivial⟩
 have hkb:(B++[Bx.cells [vI k]])[B.length]?=some (.cells [vI k]):=by rw [List.getElem?_append_right (by omega)];simp
 have hix:=Tc ⟨B++[.cells [vI k]],[]⟩ hB1.S l 60 [.ptr B.length 0] (by simp [okNs,okN]) (fun s=>s.ent==k&&s.full) (fun s _=>Tn s k B.length _ hB1.S hkb)
 have hlE : ∀x:List Bx,(B++x)[lb]?=some (.cells [Src.l l]):=fun x=>Ad hl x
 have hle : ∀x:List Bx,A6 B.length 0 (B++x) B:=fun x=>A6.ext x (hB _ _ (Nat.le_refl _))
 generalize G8 (fun s=>s.ent==k&&s.full) l=R at *
 unfold Src.l at hlE hix
 (refine FnS.of_code mix Tryz.call58 k_58 (by simp) (fun hB=>?_);(try simp at hB);(try simp -implicitDefEqProofs))
 (try simp -implicitDefEqProofs [hlE,hle])
 refine Ab hix ?_
 (try simp -implicitDefEqProofs [hle])
theorem Ms (l:List Src) (k:Int):(Dz l k=none∧G8 (fun s=>s.ent==k&&s.full) l = -1)∨∃(i:Nat) (s:Src),Dz l k=some s∧l[i]?=some s∧G8 (fun s=>s.ent==k&&s.full) l=(i:Int):=by
 cases h:Dz l k with
 | none=>
  refine .inl ⟨rfl,?_⟩
  have:l.findIdx? (fun s=>s.ent==k&&s.full)=none:=by
   rw [List.findIdx?_eq_none_iff]
   intro x hx
   have:=List.find?_eq_none.1 h x hx
   simpa using this
  unfold G8;rw [this]
 | some s=>
  unfold Dz at h
  rw [List.find?_eq_some_iff_getElem] at h
  obtain⟨h1,i,hi,h2,h3⟩:=h
  refine .inr ⟨i,s,rfl,by rw [List.getElem?_eq_getElem hi,h2],?_⟩
  refine Hp (x:=s) (by rw [List.getElem?_eq_getElem hi,h2]) (fun y hy=>?_) h1
  obtain⟨j,hj,rfl⟩:=List.mem_take_iff_getElem.1 hy
  have:=h3 j (by omega)
  simp only [Bool.not_eq_true'] at this
  exact this
def Mt (l:List Src) (ent oth:Int):Option Src:=match Dz l ent with
 | none=>none
 | some s=>if oth≠-1∧((Dz l oth).isNone=true∨oth=ent) then none else some s
theorem Xa (l:List Src) (ent oth:Int) (B:List Bx) (hB:OkU B) :
  (Mt l ent oth=none→FnS Tryz.prog 37 [Src.l l,vI ent,vI oth] ⟨B,[]⟩ (.tup [.t .nilp,vI 8]) ⟨B,[]⟩)∧
  (∀s,Mt l ent oth=some s→FnS Tryz.prog 37 [Src.l l,vI ent,vI oth] ⟨B,[]⟩ (.tup [.ptr (B.length+2) 0,vI 0]) ⟨B++[.dead,.mp [],.cells (mC s oth .snil (B.length+1) 0)],[]⟩):=by
 have hB1:OkU (B++[.cells [Src.l l]]):=fun n m hn=>(A6.appU (hB n m (by simp at hn;omega))).2 ⟨⟨A3 _,rfl⟩,trivial⟩
 have hkb:(B++[Bx.cells [Src.l l]])[B.length]?=some (.cells [Src.l l]):=by rw [List.getElem?_append_right (by omega)];simp
 have h1:=P9 l ent B.length (B++[.cells [Src.l l]]) hB1 hkb
 have h2:=P9 l oth B.length (B++[.cells [Src.l l]]) hB1 hkb
 have hle : ∀x:List Bx,A6 B.length 0 (B++x) B:=fun x=>A6.ext x (hB _ _ (Nat.le_refl _))
 have gz : ∀(l:List Bx),(B++l)[B.length]?=l[0]?:=fun l=>by rw [List.getElem?_append_right (by omega)];simp
 unfold Mt
 rcases Ms l ent with ⟨e1,i1⟩|⟨i,s,e1,g1,i1⟩
 ·rw [e1]
  refine⟨fun _=>?_,fun s hs=>by cases hs⟩
  rw [i1] at h1
  unfold Src.l at h1 h2 ⊢
  (refine FnS.of_code mix Tryz.call37 k_37 (by simp) (fun hB=>?_);(try simp at hB);(try simp -implicitDefEqProofs))
  (try simp -implicitDefEqProofs [gz,hle])
  refine Ab h1 ?_
  (try simp -implicitDefEqProofs [gz,hle])
 ·rw [e1]
  simp only []
  rw [i1] at h1
  have hil:=A5 g1
  have hsc:(l.map Src.c)[i]?=some s.c:=by simp [g1]
  have hsc' : ∀h,(l.map Src.c)[i]'h=s.c:=fun h=>by rw [List.getElem?_eq_getElem h] at hsc;exact Option.some.inj hsc
  have hcc:s.c=[.int .i64 s.ent,.bool s.full,.bool (nB s.num),.sl (pE s.num),.bool (nB s.den),.sl (pE s.den),.sl (s.items.map Item.c)]:=rfl
  rw [hcc] at hsc hsc'
  have hi0 : ¬(i:Int)<0:=by omega
  have hfin:A6 (B.length+3) 0 (B++[.cells [.t (.sl (l.map Src.c))],.mp [],.cells (mC s oth .snil (B.length+1) 0)]) (B++[.dead,.mp [],.cells (mC s oth .snil (B.length+1) 0)]):=
   (A6.appU (hB _ _ (by omega))).2 ⟨trivial,D1 [],⟨A3 _,by unfold mC;simp [okNs,okN]⟩,trivial⟩
  unfold mC at hfin
  by_cases c1:oth = -1
  ·rw [if_neg (fun h=>h.1 c1)]
   refine⟨fun h=>(by cases h),fun s' hs'=>?_⟩
   cases hs'
   subst c1
   unfold Src.l mC at *
   (refine FnS.of_code mix Tryz.call37 k_37 (by simp) (fun hB=>?_);(try simp at hB);(try simp -implicitDefEqProofs))
   (try simp -implicitDefEqProofs [gz,hle])
   refine Ab h1 ?_
   (try simp -implicitDefEqProofs [gz,hle,hi0,hil,hsc,hsc',hfin])
  ·have c1':(oth == -1)=false:=by simpa using c1
   have c2':(oth != -1)=true:=by simpa using c1
   rcases Ms l oth with ⟨e3,i3⟩|⟨j,s3,e3,g3,i3⟩
   ·rw [if_pos ⟨c1,.inl (by rw [e3];rfl)⟩]
    refine⟨fun _=>?_,fun s' hs'=>(by cases hs')⟩
    rw [i3] at h2
    unfold Src.l at h1 h2 ⊢
    (refine FnS.of_code mix Tryz.call37 k_37 (by simp) (fun hB=>?_);(try simp at hB);(try simp -implicitDefEqProofs))
    (try simp -implicitDefEqProofs [gz,hle])
    refine Ab h1 ?_
    (try simp -implicitDefEqProofs [gz,hle,hi0,c1,c1',c2'])
    refine Ab h2 ?_
    (try simp -implicitDefEqProofs [gz,hle])
   ·rw [i3] at h2
    have hj0 : ¬(j:Int)<0:=by omega
    by_cases c3:oth=ent
    ·rw [if_pos ⟨c1,.inr c3⟩]
     refine⟨fun _=>?_,fun s' hs'=>(by cases hs')⟩
     subst c3
     unfold Src.l at h1 h2 ⊢
     (refine FnS.of_code mix Tryz.call37 k_37 (by simp) (fun hB=>?_);(try simp at hB);(try simp -implicitDefEqProofs))
     (try simp -implicitDefEqProofs [gz,hle])
     refine Ab h1 ?_
     (try simp -implicitDefEqProofs [gz,hle,hi0,c1,c1',c2'])
     refine Ab h2 ?_
     (try simp -implicitDefEqProofs [gz,hle,hj0])
    ·rw [if_neg (fun h=>h.2.elim (fun h=>by rw [e3] at h;cases h) c3)]
     refine⟨fun h=>(by cases h),fun s' hs'=>?_⟩
     cases hs'
     have c3':(oth==ent)=false:=by simpa using c3
     unfold Src.l at h1 h2 gz hle ⊢
     unfold mC at *
     (refine FnS.of_code mix Tryz.call37 k_37 (by simp) (fun hB=>?_);(try simp at hB);(try simp -implicitDefEqProofs))
     (try simp -implicitDefEqProofs [gz,hle])
     refine Ab h1 ?_
     (try simp -implicitDefEqProofs [gz,hle,hi0,c1,c1',c2'])
     refine Ab h2 ?_
     (try simp -implicitDefEqProofs [gz,hle,hj0,c3,c3',hil,hsc,hsc',hfin])
end Go.Proofs.YtmlpmdccfmmpoaaGreat
