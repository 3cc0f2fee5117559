/- Chapter 35: the instances of a rule. -/
import Derived.Test.YtmlpmdccfmmpoaaGreatExC
set_option linter.unusedSimpArgs false
set_option linter.unusedVariables false
set_option maxHeartbeats 4000000
set_option maxRecDepth 8000
namespace Go.Proofs.YtmlpmdccfmmpoaaGreat
open E

theorem J4 : ∀(a b:List (Option Posting)) (o:List Posting),Am o (a++b)=if (Am o a).2=0 then Am (Am o a).1 b else Am o a
 | [],b,o=>by simp [Am]
 | none::a,b,o=>by simp [Am]
 | some p::a,b,o=>by simp only [List.cons_append,Am];exact J4 a b _
theorem Gg (o:List Posting) (r:Option Posting) (b:List (Option Posting)):Am o (r::b)=if (Am o [r]).2=0 then Am (Am o [r]).1 b else Am o [r]:=J4 [r] b o
theorem Gi (o:List Posting) (r:Option Posting):(Am o [r]).2=0∨(Am o [r]).2=2:=by
 cases r with
 | none=>exact .inr rfl
 | some p=>exact .inl rfl
theorem Gj (o:List Posting) (r:Option Posting):(Am o [r]).1.length≤o.length+1:=by
 cases r with
 | none=>simp [Am]
 | some p=>simp only [Am];split<;>simp
def E9 (inst:Src→Int→Option Posting) (s o:Src):List (Option Posting):=if o.full=true∧o.ent≠s.ent then [inst s o.ent] else []
def Bp (inst:Src→Int→Option Posting) (l:List Src) (pair:Bool) (s:Src):List (Option Posting):=if s.full=true then if pair=true then l.flatMap (E9 inst s) else [inst s (-1)] else []
theorem K4 (inst:Src→Int→Option Posting) (l:List Src) (pair:Bool):(Cm l pair).map (fun z=>inst z.1 z.2)=l.flatMap (Bp inst l pair):=by
 unfold Cm
 rw [List.map_flatMap]
 have h1 : ∀s:Src,((F5 l pair s).map fun o=>(s,o)).map (fun z=>inst z.1 z.2)=if pair=true then l.flatMap (E9 inst s) else [inst s (-1)]:=fun s=>by
  rw [List.map_map]
  unfold F5
  cases pair
  ·rfl
  ·simp only [if_true]
   rw [List.map_map]
   generalize hl0:l=l0
   clear hl0
   induction l0 with
   | nil=>rfl
   | cons o l0 ih=>
    rw [List.flatMap_cons,List.filter_cons]
    unfold E9 at ih ⊢
    by_cases hc:o.full=true∧o.ent≠s.ent
    ·have:(o.full&&o.ent != s.ent)=true:=by simp [hc.1,hc.2]
     rw [if_pos this,if_pos hc,List.map_cons,ih];rfl
    ·have : ¬(o.full&&o.ent != s.ent)=true:=by simpa using hc
     rw [if_neg this,if_neg hc,ih];rfl
 simp only [h1]
 have h2 : ∀l0:List Src,(l0.filter Src.full).flatMap (fun s=>if pair=true then l.flatMap (E9 inst s) else [inst s (-1)])=l0.flatMap (Bp inst l pair):=fun l0=>by
  induction l0 with
  | nil=>rfl
  | cons s l0 ih=>
   rw [List.flatMap_cons,List.filter_cons,←ih]
   unfold Bp
   by_cases hs:s.full=true
   ·rw [if_pos hs,if_pos hs,List.flatMap_cons]
   ·rw [if_neg hs,if_neg hs];rfl
 exact h2 l
structure IS where
 k:Nat
 outs:List Posting
structure IS.Ok (R:List Posting×Int) (rest:Nat→List (Option Posting)) (n M z:Nat) (X:IS):Prop where
 k:X.k≤n
 g:Am X.outs (rest X.k)=R
 len:X.outs.length≤M+X.k*z
theorem Mi (ef:Nat) (ecaps:List V) (W:List Posting→List Bx) (N:Nat) (hW : ∀o,(W o).length=N) (l:List Src) (pair:Bool) (inst:Src→Int→Option Posting) (hl:l.length≤100) (outs0:List Posting) (ho:outs0.length≤900000)
  (hWle : ∀o n m,N≤n→1≤m→A6 n m (W o) (W o)) (hec' : ∀n,N≤n→okNs n 1 ecaps=true)
  (heach : ∀(o:List Posting) (C:List Bx) (b mb:Nat) (s:Src) (oth:Int),o.length≤1000000→s∈l→s.full=true→(if pair=true then ∃t∈l,t.full=true∧t.ent=oth∧t.ent≠s.ent else oth = -1)→N≤b→N≤mb→
   (∀n m,N+C.length≤n→1≤m→A6 n m C C)→(W o++C)[b]?=some (.cells (mC s oth .snil mb 0))→(W o++C)[mb]?=some (.mp [])→
   FnS Tryz.prog ef ([.ptr b 0]++ecaps) ⟨W o++C,[o.length]⟩ (vI (Am o [inst s oth]).2) ⟨W (Am o [inst s oth]).1++(C.set (mb-N) .dead).set (b-N) .dead,[(Am o [inst s oth]).1.length]⟩) :
  FnS Tryz.prog 45 [Src.l l,vB pair,.fn (.func ef) ecaps] ⟨W outs0,[outs0.length]⟩ (vI (Am outs0 (l.flatMap (Bp inst l pair))).2) ⟨W (Am outs0 (l.flatMap (Bp inst l pair))).1,[(Am outs0 (l.flatMap (Bp inst l pair))).1.length]⟩:=by
 obtain⟨R,hR⟩ : ∃R,R=Am outs0 (l.flatMap (Bp inst l pair)):=⟨_,rfl⟩
 rw [←hR]
 have w0 : ∀o (C:List Bx),(W o++C)[N]?=C[0]?:=fun o C=>by rw [List.getElem?_append_right (by rw [hW];omega),hW];congr 1;omega
 have w1 : ∀o (C:List Bx) (j:Nat),(W o++C)[N+j]?=C[j]?:=fun o C j=>by rw [List.getElem?_append_right (by rw [hW];omega),hW];congr 1;omega
 have ws0 : ∀o (C:List Bx) (v:Bx),(W o++C).set N v=W o++C.set 0 v:=fun o C v=>by rw [List.set_append_right _ _ (by rw [hW];omega),hW];simp
 have ws1 : ∀o (C:List Bx) (j:Nat) (v:Bx),(W o++C).set (N+j) v=W o++C.set j v:=fun o C j v=>by rw [List.set_append_right _ _ (by rw [hW];omega),hW];congr 2;omega
 have hle : ∀o (C C':List Bx) n m,N≤n→1≤m→(A6 n m (W o++C) (W o++C')↔A6 n m C C'):=fun o C C' n m h1 h2=>A6.appU (hWle o n m h1 h2)
 have hinN:N+2-N=2:=by omega
 have hinM:N+1-N=1:=by omega
 (refine FnS.of_code mix Tryz.call45 k_45 (by simp) (fun hB=>?_);(try simp at hB);(try simp -implicitDefEqProofs))
 (try simp -implicitDefEqProofs)
 refine Ac (X:=IS) (fun X=>X.Ok R (fun k=>(l.drop k).flatMap (Bp inst l pair)) l.length outs0.length 100)
  (fun X=>[(0,Src.l l),(1,vB pair),(2,.fn (.func ef) ecaps),(7,vI 0),(12,Src.l l),(13,vI l.length),(14,vI X.k)]) (fun X=>⟨W X.outs,[X.outs.length]⟩) (fun X=>l.length-X.k) ⟨0,outs0⟩ ⟨by simp,hR.symm,by simp⟩ ?hs ?_
 case hs=>
  simp [hW,hec',Src.l,okN]
  exact hWle _ _ _ (Nat.le_refl _) (Nat.le_refl _)
 rintro ⟨k,outs⟩ ⟨hk,hg,hol⟩ hbd
 simp only [] at hk hg hol
 clear hbd
 have hk100:k*100≤10000:=by omega
 have e3:IntKind.i64.wrap ((k:Int)+1)=(k:Int)+1:=wrap64 (by omega) (by omega)
 rcases Nat.lt_or_ge k l.length with h|h
 ·obtain⟨s,hs⟩:=Aa h
  have hsm:s∈l:=List.mem_of_getElem? hs
  have hdr:l.drop k=s::l.drop (k+1):=by
   obtain⟨h1,h2⟩:=List.getElem?_eq_some_iff.1 hs
   rw [List.drop_eq_getElem_cons h1,h2]
  rw [hdr,List.flatMap_cons] at hg
  have hsc:(l.map Src.c)[k]?=some s.c:=by simp [hs]
  have hsc' : ∀h,(l.map Src.c)[k]'h=s.c:=fun h=>by rw [List.getElem?_eq_getElem h] at hsc;exact Option.some.inj hsc
  have hcc:s.c=[.int .i64 s.ent,.bool s.full,.bool (nB s.num),.sl (pE s.num),.bool (nB s.den),.sl (pE s.den),.sl (s.items.map Item.c)]:=rfl
  rw [hcc] at hsc hsc'
  by_cases hfull:s.full=true
  ·cases pair
   ·have ho1:Bp inst l false s=[inst s (-1)]:=by unfold Bp;rw [if_pos hfull];rfl
    rw [ho1,List.singleton_append,Gg] at hg
    have hcall:=heach outs [.cells [vI s.ent,vB s.full,.t (.bool (nB s.num)),.t (.sl (pE s.num)),.t (.bool (nB s.den)),.t (.sl (pE s.den)),.t (.sl (s.items.map Item.c))],.mp [],.cells (mC s (-1) .snil (N+1) 0)] (N+2) (N+1) s (-1) (by omega) hsm hfull rfl (by omega) (by omega) (fun n m h1 h2=>⟨⟨A3 _,rfl⟩,D1 [],⟨A3 _,by unfold mC;simp [okNs,okN];simp at h1;omega⟩,trivial⟩) (by rw [w1];rfl) (by rw [w1];rfl)
    rw [hinN,hinM] at hcall
    simp only [List.set_cons_succ,List.set_cons_zero] at hcall
    unfold mC at hcall
    simp only [hfull] at hcall
    have hgl:=Gj outs (inst s (-1))
    rcases Gi outs (inst s (-1)) with he|he
    ·rw [if_pos he] at hg
     rw [he] at hcall
     (try simp -implicitDefEqProofs [h,hsc,hsc',Src.l,hW,w0,w1,ws0,ws1,hfull])
     refine Ab hcall ?_
     (try simp -implicitDefEqProofs [hW,e3])
     refine⟨⟨k+1,(Am outs [inst s (-1)]).1⟩,⟨h,hg,by simp only [];omega⟩,by simp only [];omega,?_⟩
     simp [hW,hec',A6.ext _ (hWle (Am outs [inst s (-1)]).1 N 1 (Nat.le_refl _) (Nat.le_refl _))]
    ·rw [if_neg (by rw [he];decide)] at hg
     rw [he] at hcall
     rw [hg] at hcall he
     (try simp -implicitDefEqProofs [h,hsc,hsc',Src.l,hW,w0,w1,ws0,ws1,hfull])
     refine Ab hcall ?_
     (try simp -implicitDefEqProofs [hW,e3,he])
     exact A6.ext _ (hWle _ _ _ (Nat.le_refl _) (Nat.le_refl _))
   ·have ho1:Bp inst l true s=l.flatMap (E9 inst s):=by unfold Bp;rw [if_pos hfull];rfl
    rw [ho1] at hg
    obtain⟨OB,hOB⟩ : ∃OB:Bx,OB=.cells [vI s.ent,vB s.full,.t (.bool (nB s.num)),.t (.sl (pE s.num)),.t (.bool (nB s.den)),.t (.sl (pE s.den)),.t (.sl (s.items.map Item.c))]:=⟨_,rfl⟩
    (try simp -implicitDefEqProofs [h,hsc,hsc',Src.l,hW,w0,w1,ws0,ws1,hfull])
    refine Ac (X:=IS) (fun X=>X.Ok R (fun j=>(l.drop j).flatMap (E9 inst s)++(l.drop (k+1)).flatMap (Bp inst l true)) l.length (outs0.length+k*100) 1)
     (fun X=>[(0,Src.l l),(1,vB true),(2,.fn (.func ef) ecaps),(7,vI 0),(9,.ptr N 0),(12,Src.l l),(13,vI l.length),(14,vI k),(31,Src.l l),(32,vI l.length),(33,vI X.k)]) (fun X=>⟨W X.outs++[OB],[X.outs.length]⟩) (fun X=>l.length-X.k) ⟨0,outs⟩ ⟨by simp,by simpa using hg,by simp only [];omega⟩ ?hs2 ?_
    case hs2=>
     rw [hOB]
     simp [hW,hec',hfull,Src.l,okN,hle,E.leB,A3,okNs]
    rintro ⟨j,o⟩ ⟨hj,hgo,holo⟩ hbd
    simp only [] at hj hgo holo
    clear hbd
    have f3:IntKind.i64.wrap ((j:Int)+1)=(j:Int)+1:=wrap64 (by omega) (by omega)
    have hw2 : ∀(o:List Posting) (C:List Bx),(W o++OB::C)[N]?=some OB:=fun o C=>w0 o _
    rcases Nat.lt_or_ge j l.length with g|g
    ·obtain⟨t,ht⟩:=Aa g
     have htm:t∈l:=List.mem_of_getElem? ht
     have hdr2:l.drop j=t::l.drop (j+1):=by
      obtain⟨h1,h2⟩:=List.getElem?_eq_some_iff.1 ht
      rw [List.drop_eq_getElem_cons h1,h2]
     rw [hdr2,List.flatMap_cons] at hgo
     have htc:(l.map Src.c)[j]?=some t.c:=by simp [ht]
     have htc' : ∀h,(l.map Src.c)[j]'h=t.c:=fun h=>by rw [List.getElem?_eq_getElem h] at htc;exact Option.some.inj htc
     have htt:t.c=[.int .i64 t.ent,.bool t.full,.bool (nB t.num),.sl (pE t.num),.bool (nB t.den),.sl (pE t.den),.sl (t.items.map Item.c)]:=rfl
     rw [htt] at htc htc'
     by_cases hcond:t.full=true∧t.ent≠s.ent
     ·have hol1:E9 inst s t=[inst s t.ent]:=by unfold E9;rw [if_pos hcond]
      rw [hol1,List.append_assoc,List.singleton_append,Gg] at hgo
      have hne2:(t.ent==s.ent)=false:=by simpa using hcond.2
      have htf:=hcond.1
      have hcall:=heach o [OB,.cells [vI t.ent,vB t.full,.t (.bool (nB t.num)),.t (.sl (pE t.num)),.t (.bool (nB t.den)),.t (.sl (pE t.den)),.t (.sl (t.items.map Item.c))],.mp [],.cells (mC s t.ent .snil (N+2) 0)] (N+3) (N+2) s t.ent (by omega) hsm hfull ⟨t,htm,htf,rfl,hcond.2⟩ (by omega) (by omega) (fun n m h1 h2=>⟨by rw [hOB];exact⟨A3 _,rfl⟩,⟨A3 _,rfl⟩,D1 [],⟨A3 _,by unfold mC;simp [okNs,okN];simp at h1;omega⟩,trivial⟩) (by rw [w1];rfl) (by rw [w1];rfl)
      rw [show N+3-N=3 by omega,show N+2-N=2 by omega] at hcall
      simp only [List.set_cons_succ,List.set_cons_zero] at hcall
      unfold mC at hcall
      simp only [hfull,htf] at hcall
      rw [hOB] at hcall hw2 ⊢
      simp only [hfull] at hcall hw2 ⊢
      have hgl:=Gj o (inst s t.ent)
      rcases Gi o (inst s t.ent) with he|he
      ·rw [if_pos he] at hgo
       rw [he] at hcall
       (try simp -implicitDefEqProofs [g,htc,htc',Src.l,hW,w0,w1,ws0,ws1,htf,hne2])
       refine Ab hcall ?_
       (try simp -implicitDefEqProofs [hW,f3])
       refine⟨⟨j+1,(Am o [inst s t.ent]).1⟩,⟨g,hgo,by simp only [];omega⟩,by simp only [];omega,?_⟩
       simp [hW,hec',hle,E.leB,A3,okNs,okN]
      ·rw [if_neg (by rw [he];decide)] at hgo
       rw [he] at hcall
       rw [hgo] at hcall he
       (try simp -implicitDefEqProofs [g,htc,htc',Src.l,hW,w0,w1,ws0,ws1,htf,hne2])
       refine Ab hcall ?_
       (try simp -implicitDefEqProofs [hW,f3,he])
       exact A6.ext _ (hWle _ _ _ (Nat.le_refl _) (Nat.le_refl _))
     ·have hol1:E9 inst s t=[]:=by unfold E9;rw [if_neg hcond]
      rw [hol1,List.nil_append] at hgo
      rw [hOB] at hw2 ⊢
      by_cases htf:t.full=true
      ·have hee:t.ent=s.ent:=Classical.byContradiction fun h=>hcond ⟨htf,h⟩
       rw [hee] at htc htc'
       (try simp -implicitDefEqProofs [g,htc,htc',Src.l,hW,w0,w1,ws0,ws1,htf,hee,f3,hfull])
       refine⟨⟨j+1,o⟩,⟨g,hgo,by simp only [];omega⟩,by simp only [];omega,?_⟩
       simp [hW,hec',hle,E.leB,A3,okNs,okN]
      ·have htf0:t.full=false:=by simpa using htf
       (try simp -implicitDefEqProofs [g,htc,htc',Src.l,hW,w0,w1,ws0,ws1,htf0,f3,hfull])
       refine⟨⟨j+1,o⟩,⟨g,hgo,by simp only [];omega⟩,by simp only [];omega,?_⟩
       simp [hW,hec',hle,E.leB,A3,okNs,okN]
    ·have hjj:j=l.length:=by omega
     subst hjj
     rw [List.drop_of_length_le (Nat.le_refl _)] at hgo
     (try simp -implicitDefEqProofs [g,Src.l,hW,e3])
     refine⟨⟨k+1,o⟩,⟨h,hgo,by simp only [];omega⟩,by simp only [];omega,?_⟩
     simp [hW,hec',A6.ext _ (hWle o N 1 (Nat.le_refl _) (Nat.le_refl _))]
  ·have ho1:Bp inst l pair s=[]:=by unfold Bp;rw [if_neg hfull]
   rw [ho1,List.nil_append] at hg
   have hf0:s.full=false:=by simpa using hfull
   (try simp -implicitDefEqProofs [h,hsc,hsc',Src.l,hW,w0,w1,ws0,ws1,hf0,e3])
   refine⟨⟨k+1,outs⟩,⟨h,hg,by simp only [];omega⟩,by simp only [];omega,?_⟩
   simp [hW,hec',A6.ext _ (hWle outs N 1 (Nat.le_refl _) (Nat.le_refl _))]
 ·have hkk:k=l.length:=by omega
  subst hkk
  rw [List.drop_of_length_le (Nat.le_refl _)] at hg
  have hg':(outs,(0:Int))=R:=hg
  rw [←hg']
  (try simp -implicitDefEqProofs [hW])
  exact hWle _ _ _ (Nat.le_refl _) (Nat.le_refl _)
end Go.Proofs.YtmlpmdccfmmpoaaGreat
