/- Chapter 35: the program's Value. -/
import Derived.Test.YtmlpmdccfmmpoaaGreatDoorExH
import Derived.Test.YtmlpmdccfmmpoaaGreatDoorVaW
set_option linter.unusedSimpArgs false
set_option linter.unusedVariables false
set_option maxHeartbeats 4000000
set_option maxRecDepth 8000
namespace Go.Proofs.YtmlpmdccfmmpoaaGreatDoor
open E
theorem Xe (s:Src) (k:Int) (kb:Nat) (S:St) (hS:OkS S) (hk:S.boxes[kb]?=some (.cells [vI k])):FnS Tryz.prog 70 [s.v,.ptr kb 0] S (vB (s.ent==k&&s.full)) S:=by
 obtain⟨ent,full,num,den,items⟩:=s
 have hS':=hS
 simp [OkS] at hS'
 have hv:Src.v ⟨ent,full,num,den,items⟩=.agg [vI ent,vB full,.t (.bool (nB num)),.t (.sl (pE num)),.t (.bool (nB den)),.t (.sl (pE den)),.t (.sl (items.map Item.c))]:=rfl
 rw [hv]
 have hkE : ∀l:List Bx,(S.boxes++l)[kb]?=some (.cells [vI k]):=fun l=>by rw [List.getElem?_append_left (List.getElem?_eq_some_iff.1 hk).1];exact hk
 have gz : ∀(l:List Bx),(S.boxes++l)[S.boxes.length]?=l[0]?:=fun l=>by rw [List.getElem?_append_right (by omega)];simp
 have hle : ∀l:List Bx,Aa S.boxes.length S.toks.length (S.boxes++l) S.boxes:=fun l=>Aa.ext l hS.1
 by_cases c:ent=k
 ·subst c
  (refine FnS.of_code mix Tryz.call70 k_70 (by simp) (fun hB=>?_);(try simp at hB);(try simp -implicitDefEqProofs))
  (try simp -implicitDefEqProofs [hkE,gz,hle,hS'])
 ·have c':(ent==k)=false:=by simpa using c
  (refine FnS.of_code mix Tryz.call70 k_70 (by simp) (fun hB=>?_);(try simp at hB);(try simp -implicitDefEqProofs))
  (try simp -implicitDefEqProofs [hkE,gz,hle,hS',c,c'])
theorem Sc (l:List Src) (k:Int) (lb:Nat) (B:List Bx) (hB:OkU B) (hl:B[lb]?=some (.cells [Src.l l])):FnS Tryz.prog 68 [vI k,.ptr lb 0] ⟨B,[]⟩ (vI (Ef (fun s=>s.ent==k&&s.full) l)) ⟨B,[]⟩:=by
 have hB1:OkU (B++[.cells [vI k]]):=fun n m hn=>(Aa.appU (hB n m (by simp at hn;omega))).2 ⟨⟨A4 _,rfl⟩,trivial⟩
 have hkb:(B++[Bx.cells [vI k]])[B.length]?=some (.cells [vI k]):=by rw [List.getElem?_append_right (by omega)];simp
 have hix:=Wq ⟨B++[.cells [vI k]],[]⟩ hB1.S l 70 [.ptr B.length 0] (by simp [okNs,okN]) (fun s=>s.ent==k&&s.full) (fun s _=>Xe s k B.length _ hB1.S hkb)
 have hlE : ∀x:List Bx,(B++x)[lb]?=some (.cells [Src.l l]):=fun x=>Ak hl x
 have hle : ∀x:List Bx,Aa B.length 0 (B++x) B:=fun x=>Aa.ext x (hB _ _ (Nat.le_refl _))
 generalize Ef (fun s=>s.ent==k&&s.full) l=R at *
 unfold Src.l at hlE hix
 (refine FnS.of_code mix Tryz.call68 k_68 (by simp) (fun hB=>?_);(try simp at hB);(try simp -implicitDefEqProofs))
 (try simp -implicitDefEqProofs [hlE,hle])
 refine A9 hix ?_
 (try simp -implicitDefEqProofs [hle])
theorem Pd (l:List Src) (k:Int):(findS l k=none∧Ef (fun s=>s.ent==k&&s.full) l = -1)∨∃(i:Nat) (s:Src),findS l k=some s∧l[i]?=some s∧Ef (fun s=>s.ent==k&&s.full) l=(i:Int):=by
 cases h:findS l k with
 | none=>
  refine .inl ⟨rfl,?_⟩
  have:l.findIdx? (fun s=>s.ent==k&&s.full)=none:=by
   rw [List.findIdx?_eq_none_iff]
   intro x hx
   have:=List.find?_eq_none.1 h x hx
   simpa using this
  unfold Ef;rw [this]
 | some s=>
  unfold findS at h
  rw [List.find?_eq_some_iff_getElem] at h
  obtain⟨h1,i,hi,h2,h3⟩:=h
  refine .inr ⟨i,s,rfl,by rw [List.getElem?_eq_getElem hi,h2],?_⟩
  refine Es (x:=s) (by rw [List.getElem?_eq_getElem hi,h2]) (fun y hy=>?_) h1
  obtain⟨j,hj,rfl⟩:=List.mem_take_iff_getElem.1 hy
  have:=h3 j (by omega)
  simp only [Bool.not_eq_true'] at this
  exact this
def Pe (l:List Src) (ent oth:Int):Option Src:=match findS l ent with
 | none=>none
 | some s=>if oth≠-1∧((findS l oth).isNone=true∨oth=ent) then none else some s
theorem A2p (l:List Src) (ent oth:Int) (B:List Bx) (hB:OkU B) :
  (Pe l ent oth=none→FnS Tryz.prog 29 [Src.l l,vI ent,vI oth] ⟨B,[]⟩ (.tup [.t .nilp,vI 8]) ⟨B,[]⟩)∧
  (∀s,Pe l ent oth=some s→FnS Tryz.prog 29 [Src.l l,vI ent,vI oth] ⟨B,[]⟩ (.tup [.ptr (B.length+2) 0,vI 0]) ⟨B++[.dead,.mp [],.cells (mC s oth .snil (B.length+1) 0)],[]⟩):=by
 have hB1:OkU (B++[.cells [Src.l l]]):=fun n m hn=>(Aa.appU (hB n m (by simp at hn;omega))).2 ⟨⟨A4 _,rfl⟩,trivial⟩
 have hkb:(B++[Bx.cells [Src.l l]])[B.length]?=some (.cells [Src.l l]):=by rw [List.getElem?_append_right (by omega)];simp
 have h1:=Sc l ent B.length (B++[.cells [Src.l l]]) hB1 hkb
 have h2:=Sc l oth B.length (B++[.cells [Src.l l]]) hB1 hkb
 have hle : ∀x:List Bx,Aa B.length 0 (B++x) B:=fun x=>Aa.ext x (hB _ _ (Nat.le_refl _))
 have gz : ∀(l:List Bx),(B++l)[B.length]?=l[0]?:=fun l=>by rw [List.getElem?_append_right (by omega)];simp
 unfold Pe
 rcases Pd l ent with ⟨e1,i1⟩|⟨i,s,e1,g1,i1⟩
 ·rw [e1]
  refine⟨fun _=>?_,fun s hs=>by cases hs⟩
  rw [i1] at h1
  unfold Src.l at h1 h2 ⊢
  (refine FnS.of_code mix Tryz.call29 k_29 (by simp) (fun hB=>?_);(try simp at hB);(try simp -implicitDefEqProofs))
  (try simp -implicitDefEqProofs [gz,hle])
  refine A9 h1 ?_
  (try simp -implicitDefEqProofs [gz,hle])
 ·rw [e1]
  simp only []
  rw [i1] at h1
  have hil:=A7 g1
  have hsc:(l.map Src.c)[i]?=some s.c:=by simp [g1]
  have hsc' : ∀h,(l.map Src.c)[i]'h=s.c:=fun h=>by rw [List.getElem?_eq_getElem h] at hsc;exact Option.some.inj hsc
  have hcc:s.c=[.int .i64 s.ent,.bool s.full,.bool (nB s.num),.sl (pE s.num),.bool (nB s.den),.sl (pE s.den),.sl (s.items.map Item.c)]:=rfl
  rw [hcc] at hsc hsc'
  have hi0 : ¬(i:Int)<0:=by omega
  have hfin:Aa (B.length+3) 0 (B++[.cells [.t (.sl (l.map Src.c))],.mp [],.cells (mC s oth .snil (B.length+1) 0)]) (B++[.dead,.mp [],.cells (mC s oth .snil (B.length+1) 0)]):=
   (Aa.appU (hB _ _ (by omega))).2 ⟨trivial,E7 [],⟨A4 _,by unfold mC;simp [okNs,okN]⟩,trivial⟩
  unfold mC at hfin
  by_cases c1:oth = -1
  ·rw [if_neg (fun h=>h.1 c1)]
   refine⟨fun h=>(by cases h),fun s' hs'=>?_⟩
   cases hs'
   subst c1
   unfold Src.l mC at *
   (refine FnS.of_code mix Tryz.call29 k_29 (by simp) (fun hB=>?_);(try simp at hB);(try simp -implicitDefEqProofs))
   (try simp -implicitDefEqProofs [gz,hle])
   refine A9 h1 ?_
   (try simp -implicitDefEqProofs [gz,hle,hi0,hil,hsc,hsc',hfin])
  ·have c1':(oth == -1)=false:=by simpa using c1
   have c2':(oth != -1)=true:=by simpa using c1
   rcases Pd l oth with ⟨e3,i3⟩|⟨j,s3,e3,g3,i3⟩
   ·rw [if_pos ⟨c1,.inl (by rw [e3];rfl)⟩]
    refine⟨fun _=>?_,fun s' hs'=>(by cases hs')⟩
    rw [i3] at h2
    unfold Src.l at h1 h2 ⊢
    (refine FnS.of_code mix Tryz.call29 k_29 (by simp) (fun hB=>?_);(try simp at hB);(try simp -implicitDefEqProofs))
    (try simp -implicitDefEqProofs [gz,hle])
    refine A9 h1 ?_
    (try simp -implicitDefEqProofs [gz,hle,hi0,c1,c1',c2'])
    refine A9 h2 ?_
    (try simp -implicitDefEqProofs [gz,hle])
   ·rw [i3] at h2
    have hj0 : ¬(j:Int)<0:=by omega
    by_cases c3:oth=ent
    ·rw [if_pos ⟨c1,.inr c3⟩]
     refine⟨fun _=>?_,fun s' hs'=>(by cases hs')⟩
     subst c3
     unfold Src.l at h1 h2 ⊢
     (refine FnS.of_code mix Tryz.call29 k_29 (by simp) (fun hB=>?_);(try simp at hB);(try simp -implicitDefEqProofs))
     (try simp -implicitDefEqProofs [gz,hle])
     refine A9 h1 ?_
     (try simp -implicitDefEqProofs [gz,hle,hi0,c1,c1',c2'])
     refine A9 h2 ?_
     (try simp -implicitDefEqProofs [gz,hle,hj0])
    ·rw [if_neg (fun h=>h.2.elim (fun h=>by rw [e3] at h;cases h) c3)]
     refine⟨fun h=>(by cases h),fun s' hs'=>?_⟩
     cases hs'
     have c3':(oth==ent)=false:=by simpa using c3
     unfold Src.l at h1 h2 gz hle ⊢
     unfold mC at *
     (refine FnS.of_code mix Tryz.call29 k_29 (by simp) (fun hB=>?_);(try simp at hB);(try simp -implicitDefEqProofs))
     (try simp -implicitDefEqProofs [gz,hle])
     refine A9 h1 ?_
     (try simp -implicitDefEqProofs [gz,hle,hi0,c1,c1',c2'])
     refine A9 h2 ?_
     (try simp -implicitDefEqProofs [gz,hle,hj0,c3,c3',hil,hsc,hsc',hfin])
theorem Zu {l:List Src} {ent oth:Int} {s:Src} (h:Pe l ent oth=some s):s∈l∧(oth≠-1→∃o∈l,o.ent=oth):=by
 unfold Pe at h
 cases hf:findS l ent with
 | none=>rw [hf] at h;cases h
 | some z=>
  rw [hf] at h
  simp only [] at h
  split at h
  ·cases h
  ·rename_i hn
   cases h
   refine⟨List.mem_of_find?_eq_some hf,fun ho=>?_⟩
   cases hg:findS l oth with
   | none=>exact absurd ⟨ho,.inl (by rw [hg];rfl)⟩ hn
   | some o=>
    refine⟨o,List.mem_of_find?_eq_some hg,?_⟩
    have:=List.find?_some hg
    simp only [Bool.and_eq_true,beq_iff_eq] at this
    exact this.1
def F0 (x:Xp) (l:List Src) (ent oth:Int):Int×Int:=
 if (F6 x (F7 []) (oth != -1)).2=0∧Dh l=true∧-1≤oth then match Pe l ent oth with
  | none=>(0,8)
  | some s=>if (x.valE s oth fun _=>0).2=true then ((x.valE s oth fun _=>0).1,0) else (0,2)
 else (0,1)
theorem Sd {x:Xp} {q:List UInt8→Bool} {pair:Bool} (h:(F6 x q pair).2=0):x.prop=true∧(x.inf q pair).2=0:=by
 unfold F6 at h
 split at h
 ·rename_i ht
  unfold Ki at ht
  rw [Bool.and_eq_true] at ht
  exact⟨ht.2,h⟩
 ·cases h
theorem Xf (x:Xp) (l:List Src) (ent oth:Int) (hc:x.cnt≤100000) (hl:l.length≤13) (hs : ∀s∈l,s.num.natAbs≤100000∧0<s.den∧s.den≤100000∧s.items.length≤1000) :
  A3 Tryz.prog 11 [x.v,Src.l l,vI ent,vI oth] (.tup [vI (F0 x l ent oth).1,vI (F0 x l ent oth).2]):=by
 have hv:=P3 l (by omega)
 have ht:=A2n x [] (oth != -1) hc (by simp)
 have hte:(fun s=>decide (s∈([]:List (List UInt8))))=F7 []:=rfl
 rw [hte] at ht
 have hok:=Sd (x:=x) (q:=F7 []) (pair:=(oth != -1))
 have hlc:=C1 x
 have htc:=Bf x
 obtain⟨R,hR⟩ : ∃R,R=F0 x l ent oth:=⟨_,rfl⟩
 rw [←hR]
 unfold F0 at hR
 generalize F6 x (F7 []) (oth != -1)=ty at *
 obtain⟨t1,t2⟩:=ty
 simp only [] at ht hok hR
 have ht:A3 Tryz.prog 27 [.agg (x.c.map .t),.t (.sl []),vB (oth != -1)] (.tup [vI t1,vI t2]):=ht
 by_cases h1:t2=0
 case neg=>
  rw [if_neg (fun h=>h1 h.1)] at hR
  subst hR
  have h1':(t2 != 0)=true:=by simpa using h1
  unfold Src.l at *
  (refine A3.of_code mix Tryz.call11 k_11 (by simp) (fun hB=>?_);(try simp at hB);(try simp -implicitDefEqProofs))
  ((try simp at ht);(try simp -implicitDefEqProofs [hlc,htc,h1,h1']);repeat' first|(with_reducible apply A0<;>first|(simp only [eras,era,A1];first|with_reducible assumption)|(simp -implicitDefEqProofs [hlc,htc,h1,h1'])))
 subst h1
 cases h2:Dh l
 ·rw [h2] at hv hR
  rw [if_neg (fun h=>by simp at h)] at hR
  subst hR
  unfold Src.l at *
  (refine A3.of_code mix Tryz.call11 k_11 (by simp) (fun hB=>?_);(try simp at hB);(try simp -implicitDefEqProofs))
  ((try simp at ht hv);(try simp -implicitDefEqProofs [hlc,htc]);repeat' first|(with_reducible apply A0<;>first|(simp only [eras,era,A1];first|with_reducible assumption)|(simp -implicitDefEqProofs [hlc,htc])))
 rw [h2] at hv hR
 by_cases h3 : -1≤oth
 case neg=>
  rw [if_neg (fun h=>h3 h.2.2)] at hR
  subst hR
  have h3':oth < -1:=by omega
  unfold Src.l at *
  (refine A3.of_code mix Tryz.call11 k_11 (by simp) (fun hB=>?_);(try simp at hB);(try simp -implicitDefEqProofs))
  ((try simp at ht hv);(try simp -implicitDefEqProofs [hlc,htc,h3,h3']);repeat' first|(with_reducible apply A0<;>first|(simp only [eras,era,A1];first|with_reducible assumption)|(simp -implicitDefEqProofs [hlc,htc,h3,h3'])))
 have h3' : ¬oth < -1:=by omega
 rw [if_pos ⟨rfl,rfl,h3⟩] at hR
 obtain⟨hp,hinf⟩:=hok rfl
 have hBU:OkU [Bx.cells (x.c.map .t)]:=fun n m hn=>⟨⟨A4 _,Cr _ _ _⟩,trivial⟩
 have hfi:=A2p l ent oth _ hBU
 cases hf:Pe l ent oth with
 | none=>
  have hfi:=hfi.1 hf
  rw [hf] at hR
  subst hR
  unfold Src.l at *
  (refine A3.of_code mix Tryz.call11 k_11 (by simp) (fun hB=>?_);(try simp at hB);(try simp -implicitDefEqProofs))
  ((try simp at ht hv);(try simp -implicitDefEqProofs [hlc,htc,h3,h3']);repeat' first|(with_reducible apply A0<;>first|(simp only [eras,era,A1];first|with_reducible assumption)|(simp -implicitDefEqProofs [hlc,htc,h3,h3'])))
  refine A9 hfi ?_
  (try simp -implicitDefEqProofs [hlc,htc])
 | some s=>
  have hfi:=hfi.2 s hf
  rw [hf] at hR
  simp only [] at hR
  obtain⟨m1,m2⟩:=Zu hf
  obtain⟨q1,q2,q3,q4⟩:=hs s m1
  have hsok:s.Ok:=⟨q1,q2,q3,q4,(Eb h2 m1).2.2⟩
  have hpr:(oth != -1)=true→0≤oth:=fun hp=>by
   obtain⟨o,o1,o2⟩:=m2 (by simpa using hp)
   rw [←o2];exact (Eb h2 o1).1
  have hCU:OkU ([Bx.cells (x.c.map .t)]++[.dead,.mp [],.cells (mC s oth .snil 2 0)]):=fun n m hn=>⟨⟨A4 _,Cr _ _ _⟩,trivial,E7 [],⟨A4 _,by unfold mC;simp [okNs,okN];simp at hn;omega⟩,trivial⟩
  have hval:=Zt s hsok oth (F7 []) (oth != -1) (fun _=>0) hpr x hp hinf _ hCU 3 .snil 2 0 rfl (.t .nilm) (.inl ⟨rfl,fun _=>rfl⟩)
  generalize x.valE s oth (fun _=>0)=W at *
  obtain⟨w1,w2⟩:=W
  unfold vO at hval
  simp only [] at hR
  unfold Src.l at *
  unfold mC at hfi hval
  cases w2
  ·rw [if_neg (by decide)] at hR
   subst hR
   (refine A3.of_code mix Tryz.call11 k_11 (by simp) (fun hB=>?_);(try simp at hB);(try simp -implicitDefEqProofs))
   ((try simp at ht hv);(try simp -implicitDefEqProofs [hlc,htc,h3,h3']);repeat' first|(with_reducible apply A0<;>first|(simp only [eras,era,A1];first|with_reducible assumption)|(simp -implicitDefEqProofs [hlc,htc,h3,h3'])))
   refine A9 hfi ?_
   (try simp -implicitDefEqProofs [hlc,htc])
   refine A9 hval ?_
   (try simp -implicitDefEqProofs [hlc,htc])
  ·rw [if_pos rfl] at hR
   subst hR
   (refine A3.of_code mix Tryz.call11 k_11 (by simp) (fun hB=>?_);(try simp at hB);(try simp -implicitDefEqProofs))
   ((try simp at ht hv);(try simp -implicitDefEqProofs [hlc,htc,h3,h3']);repeat' first|(with_reducible apply A0<;>first|(simp only [eras,era,A1];first|with_reducible assumption)|(simp -implicitDefEqProofs [hlc,htc,h3,h3'])))
   refine A9 hfi ?_
   (try simp -implicitDefEqProofs [hlc,htc])
   refine A9 hval ?_
   (try simp -implicitDefEqProofs [hlc,htc])
end Go.Proofs.YtmlpmdccfmmpoaaGreatDoor
