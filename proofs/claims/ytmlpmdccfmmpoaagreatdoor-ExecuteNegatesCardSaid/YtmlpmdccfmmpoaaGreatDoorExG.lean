/- Chapter 35: what slices.IndexFunc and ContainsFunc of items, codes and sources return, whatever function they are handed. -/
import Derived.Test.YtmlpmdccfmmpoaaGreatDoorExC
import Derived.Test.YtmlpmdccfmmpoaaGreatDoorExM
import Derived.Test.YtmlpmdccfmmpoaaGreatDoorFds
set_option linter.unusedSimpArgs false
set_option linter.unusedVariables false
set_option maxHeartbeats 4000000
set_option maxRecDepth 8000
namespace Go.Proofs.YtmlpmdccfmmpoaaGreatDoor
open E
theorem J7 : ∀(a b:List (Option Posting)) (o:List Posting),Av o (a++b)=if (Av o a).2=0 then Av (Av o a).1 b else Av o a
 | [],b,o=>by simp [Av]
 | none::a,b,o=>by simp [Av]
 | some p::a,b,o=>by simp only [List.cons_append,Av];exact J7 a b _
theorem J8 (o:List Posting) (r:Option Posting) (b:List (Option Posting)):Av o (r::b)=if (Av o [r]).2=0 then Av (Av o [r]).1 b else Av o [r]:=J7 [r] b o
theorem J9 (o:List Posting) (r:Option Posting):(Av o [r]).2=0∨(Av o [r]).2=2:=by
 cases r with
 | none=>exact .inr rfl
 | some p=>exact .inl rfl
theorem Ja (o:List Posting) (r:Option Posting):(Av o [r]).1.length≤o.length+1:=by
 cases r with
 | none=>simp [Av]
 | some p=>simp only [Av];split<;>simp
def G7 (inst:Src→Int→Option Posting) (s o:Src):List (Option Posting):=if o.full=true∧o.ent≠s.ent then [inst s o.ent] else []
def Bw (inst:Src→Int→Option Posting) (l:List Src) (pair:Bool) (s:Src):List (Option Posting):=if s.full=true then if pair=true then l.flatMap (G7 inst s) else [inst s (-1)] else []
theorem Xh (inst:Src→Int→Option Posting) (l:List Src) (pair:Bool):(Em l pair).map (fun z=>inst z.1 z.2)=l.flatMap (Bw inst l pair):=by
 unfold Em
 rw [List.map_flatMap]
 have h1 : ∀s:Src,((G2 l pair s).map fun o=>(s,o)).map (fun z=>inst z.1 z.2)=if pair=true then l.flatMap (G7 inst s) else [inst s (-1)]:=fun s=>by
  rw [List.map_map]
  unfold G2
  cases pair
  ·rfl
  ·simp only [if_true]
   rw [List.map_map]
   generalize hl0:l=l0
   clear hl0
   induction l0 with
   | nil=>rfl
   | cons o l0 ih=>
    rw [List.flatMap_cons,List.filter_cons]
    unfold G7 at ih ⊢
    by_cases hc:o.full=true∧o.ent≠s.ent
    ·have:(o.full&&o.ent != s.ent)=true:=by simp [hc.1,hc.2]
     rw [if_pos this,if_pos hc,List.map_cons,ih];rfl
    ·have : ¬(o.full&&o.ent != s.ent)=true:=by simpa using hc
     rw [if_neg this,if_neg hc,ih];rfl
 simp only [h1]
 have h2 : ∀l0:List Src,(l0.filter Src.full).flatMap (fun s=>if pair=true then l.flatMap (G7 inst s) else [inst s (-1)])=l0.flatMap (Bw inst l pair):=fun l0=>by
  induction l0 with
  | nil=>rfl
  | cons s l0 ih=>
   rw [List.flatMap_cons,List.filter_cons,←ih]
   unfold Bw
   by_cases hs:s.full=true
   ·rw [if_pos hs,if_pos hs,List.flatMap_cons]
   ·rw [if_neg hs,if_neg hs];rfl
 exact h2 l
structure IS where
 k:Nat
 outs:List Posting
structure IS.Ok (R:List Posting×Int) (rest:Nat→List (Option Posting)) (n M z:Nat) (X:IS):Prop where
 k:X.k≤n
 g:Av X.outs (rest X.k)=R
 len:X.outs.length≤M+X.k*z
theorem Rl (ef:Nat) (ecaps:List V) (W:List Posting→List Bx) (N:Nat) (hW : ∀o,(W o).length=N) (l:List Src) (pair:Bool) (inst:Src→Int→Option Posting) (hl:l.length≤100) (outs0:List Posting) (ho:outs0.length≤900000)
  (hWle : ∀o n m,N≤n→1≤m→A6 n m (W o) (W o)) (hec' : ∀n,N≤n→okNs n 1 ecaps=true)
  (heach : ∀(o:List Posting) (C:List Bx) (b mb:Nat) (s:Src) (oth:Int),o.length≤1000000→s∈l→s.full=true→(if pair=true then ∃t∈l,t.full=true∧t.ent=oth∧t.ent≠s.ent else oth = -1)→N≤b→N≤mb→
   (∀n m,N+C.length≤n→1≤m→A6 n m C C)→(W o++C)[b]?=some (.cells (mC s oth .snil mb 0))→(W o++C)[mb]?=some (.mp [])→
   FnS Tryz.prog ef ([.ptr b 0]++ecaps) ⟨W o++C,[o.length]⟩ (vI (Av o [inst s oth]).2) ⟨W (Av o [inst s oth]).1++(C.set (mb-N) .dead).set (b-N) .dead,[(Av o [inst s oth]).1.length]⟩) :
  FnS Tryz.prog 84 [Src.l l,vB pair,.fn (.func ef) ecaps] ⟨W outs0,[outs0.length]⟩ (vI (Av outs0 (l.flatMap (Bw inst l pair))).2) ⟨W (Av outs0 (l.flatMap (Bw inst l pair))).1,[(Av outs0 (l.flatMap (Bw inst l pair))).1.length]⟩:=by
 obtain⟨R,hR⟩ : ∃R,R=Av outs0 (l.flatMap (Bw inst l pair)):=⟨_,rfl⟩
 rw [←hR]
 have w0 : ∀o (C:List Bx),(W o++C)[N]?=C[0]?:=fun o C=>by rw [List.getElem?_append_right (by rw [hW];omega),hW];congr 1;omega
 have w1 : ∀o (C:List Bx) (j:Nat),(W o++C)[N+j]?=C[j]?:=fun o C j=>by rw [List.getElem?_append_right (by rw [hW];omega),hW];congr 1;omega
 have ws0 : ∀o (C:List Bx) (v:Bx),(W o++C).set N v=W o++C.set 0 v:=fun o C v=>by rw [List.set_append_right _ _ (by rw [hW];omega),hW];simp
 have ws1 : ∀o (C:List Bx) (j:Nat) (v:Bx),(W o++C).set (N+j) v=W o++C.set j v:=fun o C j v=>by rw [List.set_append_right _ _ (by rw [hW];omega),hW];congr 2;omega
 have hle : ∀o (C C':List Bx) n m,N≤n→1≤m→(A6 n m (W o++C) (W o++C')↔A6 n m C C'):=fun o C C' n m h1 h2=>A6.appU (hWle o n m h1 h2)
 have hinN:N+2-N=2:=by omega
 have hinM:N+1-N=1:=by omega
 (refine FnS.of_code mix Tryz.call84 k_84 (by simp) (fun hB=>?_);(try simp at hB);(try simp -implicitDefEqProofs))
 (try simp -implicitDefEqProofs)
 refine A7 (X:=IS) (fun X=>X.Ok R (fun k=>(l.drop k).flatMap (Bw inst l pair)) l.length outs0.length 100)
  (fun X=>[(0,Src.l l),(1,vB pair),(2,.fn (.func ef) ecaps),(7,vI 0),(12,Src.l l),(13,vI l.length),(14,vI X.k)]) (fun X=>⟨W X.outs,[X.outs.length]⟩) (fun X=>l.length-X.k) ⟨0,outs0⟩ ⟨by simp,hR.symm,by simp⟩ ?hs ?_
 case hs=>
  simp [hW,hec',Src.l,okN]
  exact hWle _ _ _ (Nat.le_refl _) (Nat.le_refl _)
 rintro ⟨k,outs⟩ ⟨hk,hg,hol⟩ hbd
 simp only [] at hk hg hol
 clear hbd
 have hk100:k*100≤10000:=by omega
 have e3:IntKind.i64.wrap ((k:Int)+1)=(k:Int)+1:=wrap64 (by omega) (by omega)
 rcases Nat.lt_or_ge k l.length with h|h
 ·obtain⟨s,hs⟩:=Aa h
  have hsm:s∈l:=List.mem_of_getElem? hs
  have hdr:l.drop k=s::l.drop (k+1):=by
   obtain⟨h1,h2⟩:=List.getElem?_eq_some_iff.1 hs
   rw [List.drop_eq_getElem_cons h1,h2]
  rw [hdr,List.flatMap_cons] at hg
  have hsc:(l.map Src.c)[k]?=some s.c:=by simp [hs]
  have hsc' : ∀h,(l.map Src.c)[k]'h=s.c:=fun h=>by rw [List.getElem?_eq_getElem h] at hsc;exact Option.some.inj hsc
  have hcc:s.c=[.int .i64 s.ent,.bool s.full,.bool (nB s.num),.sl (pE s.num),.bool (nB s.den),.sl (pE s.den),.sl (s.items.map Item.c)]:=rfl
  rw [hcc] at hsc hsc'
  by_cases hfull:s.full=true
  ·cases pair
   ·have ho1:Bw inst l false s=[inst s (-1)]:=by unfold Bw;rw [if_pos hfull];rfl
    rw [ho1,List.singleton_append,J8] at hg
    have hcall:=heach outs [.cells [vI s.ent,vB s.full,.t (.bool (nB s.num)),.t (.sl (pE s.num)),.t (.bool (nB s.den)),.t (.sl (pE s.den)),.t (.sl (s.items.map Item.c))],.mp [],.cells (mC s (-1) .snil (N+1) 0)] (N+2) (N+1) s (-1) (by omega) hsm hfull rfl (by omega) (by omega) (fun n m h1 h2=>⟨⟨A3 _,rfl⟩,Ea [],⟨A3 _,by unfold mC;simp [okNs,okN];simp at h1;omega⟩,trivial⟩) (by rw [w1];rfl) (by rw [w1];rfl)
    rw [hinN,hinM] at hcall
    simp only [List.set_cons_succ,List.set_cons_zero] at hcall
    unfold mC at hcall
    simp only [hfull] at hcall
    have hgl:=Ja outs (inst s (-1))
    rcases J9 outs (inst s (-1)) with he|he
    ·rw [if_pos he] at hg
     rw [he] at hcall
     (try simp -implicitDefEqProofs [h,hsc,hsc',Src.l,hW,w0,w1,ws0,ws1,hfull])
     refine Ab hcall ?_
     (try simp -implicitDefEqProofs [hW,e3])
     refine⟨⟨k+1,(Av outs [inst s (-1)]).1⟩,⟨h,hg,by simp only [];omega⟩,by simp only [];omega,?_⟩
     simp [hW,hec',A6.ext _ (hWle (Av outs [inst s (-1)]).1 N 1 (Nat.le_refl _) (Nat.le_refl _))]
    ·rw [if_neg (by rw [he];decide)] at hg
     rw [he] at hcall
     rw [hg] at hcall he
     (try simp -implicitDefEqProofs [h,hsc,hsc',Src.l,hW,w0,w1,ws0,ws1,hfull])
     refine Ab hcall ?_
     (try simp -implicitDefEqProofs [hW,e3,he])
     exact A6.ext _ (hWle _ _ _ (Nat.le_refl _) (Nat.le_refl _))
   ·have ho1:Bw inst l true s=l.flatMap (G7 inst s):=by unfold Bw;rw [if_pos hfull];rfl
    rw [ho1] at hg
    obtain⟨OB,hOB⟩ : ∃OB:Bx,OB=.cells [vI s.ent,vB s.full,.t (.bool (nB s.num)),.t (.sl (pE s.num)),.t (.bool (nB s.den)),.t (.sl (pE s.den)),.t (.sl (s.items.map Item.c))]:=⟨_,rfl⟩
    (try simp -implicitDefEqProofs [h,hsc,hsc',Src.l,hW,w0,w1,ws0,ws1,hfull])
    refine A7 (X:=IS) (fun X=>X.Ok R (fun j=>(l.drop j).flatMap (G7 inst s)++(l.drop (k+1)).flatMap (Bw inst l true)) l.length (outs0.length+k*100) 1)
     (fun X=>[(0,Src.l l),(1,vB true),(2,.fn (.func ef) ecaps),(7,vI 0),(9,.ptr N 0),(12,Src.l l),(13,vI l.length),(14,vI k),(31,Src.l l),(32,vI l.length),(33,vI X.k)]) (fun X=>⟨W X.outs++[OB],[X.outs.length]⟩) (fun X=>l.length-X.k) ⟨0,outs⟩ ⟨by simp,by simpa using hg,by simp only [];omega⟩ ?hs2 ?_
    case hs2=>
     rw [hOB]
     simp [hW,hec',hfull,Src.l,okN,hle,E.leB,A3,okNs]
    rintro ⟨j,o⟩ ⟨hj,hgo,holo⟩ hbd
    simp only [] at hj hgo holo
    clear hbd
    have f3:IntKind.i64.wrap ((j:Int)+1)=(j:Int)+1:=wrap64 (by omega) (by omega)
    have hw2 : ∀(o:List Posting) (C:List Bx),(W o++OB::C)[N]?=some OB:=fun o C=>w0 o _
    rcases Nat.lt_or_ge j l.length with g|g
    ·obtain⟨t,ht⟩:=Aa g
     have htm:t∈l:=List.mem_of_getElem? ht
     have hdr2:l.drop j=t::l.drop (j+1):=by
      obtain⟨h1,h2⟩:=List.getElem?_eq_some_iff.1 ht
      rw [List.drop_eq_getElem_cons h1,h2]
     rw [hdr2,List.flatMap_cons] at hgo
     have htc:(l.map Src.c)[j]?=some t.c:=by simp [ht]
     have htc' : ∀h,(l.map Src.c)[j]'h=t.c:=fun h=>by rw [List.getElem?_eq_getElem h] at htc;exact Option.some.inj htc
     have htt:t.c=[.int .i64 t.ent,.bool t.full,.bool (nB t.num),.sl (pE t.num),.bool (nB t.den),.sl (pE t.den),.sl (t.items.map Item.c)]:=rfl
     rw [htt] at htc htc'
     by_cases hcond:t.full=true∧t.ent≠s.ent
     ·have hol1:G7 inst s t=[inst s t.ent]:=by unfold G7;rw [if_pos hcond]
      rw [hol1,List.append_assoc,List.singleton_append,J8] at hgo
      have hne2:(t.ent==s.ent)=false:=by simpa using hcond.2
      have htf:=hcond.1
      have hcall:=heach o [OB,.cells [vI t.ent,vB t.full,.t (.bool (nB t.num)),.t (.sl (pE t.num)),.t (.bool (nB t.den)),.t (.sl (pE t.den)),.t (.sl (t.items.map Item.c))],.mp [],.cells (mC s t.ent .snil (N+2) 0)] (N+3) (N+2) s t.ent (by omega) hsm hfull ⟨t,htm,htf,rfl,hcond.2⟩ (by omega) (by omega) (fun n m h1 h2=>⟨by rw [hOB];exact⟨A3 _,rfl⟩,⟨A3 _,rfl⟩,Ea [],⟨A3 _,by unfold mC;simp [okNs,okN];simp at h1;omega⟩,trivial⟩) (by rw [w1];rfl) (by rw [w1];rfl)
      rw [show N+3-N=3 by omega,show N+2-N=2 by omega] at hcall
      simp only [List.set_cons_succ,List.set_cons_zero] at hcall
      unfold mC at hcall
      simp only [hfull,htf] at hcall
      rw [hOB] at hcall hw2 ⊢
      simp only [hfull] at hcall hw2 ⊢
      have hgl:=Ja o (inst s t.ent)
      rcases J9 o (inst s t.ent) with he|he
      ·rw [if_pos he] at hgo
       rw [he] at hcall
       (try simp -implicitDefEqProofs [g,htc,htc',Src.l,hW,w0,w1,ws0,ws1,htf,hne2])
       refine Ab hcall ?_
       (try simp -implicitDefEqProofs [hW,f3])
       refine⟨⟨j+1,(Av o [inst s t.ent]).1⟩,⟨g,hgo,by simp only [];omega⟩,by simp only [];omega,?_⟩
       simp [hW,hec',hle,E.leB,A3,okNs,okN]
      ·rw [if_neg (by rw [he];decide)] at hgo
       rw [he] at hcall
       rw [hgo] at hcall he
       (try simp -implicitDefEqProofs [g,htc,htc',Src.l,hW,w0,w1,ws0,ws1,htf,hne2])
       refine Ab hcall ?_
       (try simp -implicitDefEqProofs [hW,f3,he])
       exact A6.ext _ (hWle _ _ _ (Nat.le_refl _) (Nat.le_refl _))
     ·have hol1:G7 inst s t=[]:=by unfold G7;rw [if_neg hcond]
      rw [hol1,List.nil_append] at hgo
      rw [hOB] at hw2 ⊢
      by_cases htf:t.full=true
      ·have hee:t.ent=s.ent:=Classical.byContradiction fun h=>hcond ⟨htf,h⟩
       rw [hee] at htc htc'
       (try simp -implicitDefEqProofs [g,htc,htc',Src.l,hW,w0,w1,ws0,ws1,htf,hee,f3,hfull])
       refine⟨⟨j+1,o⟩,⟨g,hgo,by simp only [];omega⟩,by simp only [];omega,?_⟩
       simp [hW,hec',hle,E.leB,A3,okNs,okN]
      ·have htf0:t.full=false:=by simpa using htf
       (try simp -implicitDefEqProofs [g,htc,htc',Src.l,hW,w0,w1,ws0,ws1,htf0,f3,hfull])
       refine⟨⟨j+1,o⟩,⟨g,hgo,by simp only [];omega⟩,by simp only [];omega,?_⟩
       simp [hW,hec',hle,E.leB,A3,okNs,okN]
    ·have hjj:j=l.length:=by omega
     subst hjj
     rw [List.drop_of_length_le (Nat.le_refl _)] at hgo
     (try simp -implicitDefEqProofs [g,Src.l,hW,e3])
     refine⟨⟨k+1,o⟩,⟨h,hgo,by simp only [];omega⟩,by simp only [];omega,?_⟩
     simp [hW,hec',A6.ext _ (hWle o N 1 (Nat.le_refl _) (Nat.le_refl _))]
  ·have ho1:Bw inst l pair s=[]:=by unfold Bw;rw [if_neg hfull]
   rw [ho1,List.nil_append] at hg
   have hf0:s.full=false:=by simpa using hfull
   (try simp -implicitDefEqProofs [h,hsc,hsc',Src.l,hW,w0,w1,ws0,ws1,hf0,e3])
   refine⟨⟨k+1,outs⟩,⟨h,hg,by simp only [];omega⟩,by simp only [];omega,?_⟩
   simp [hW,hec',A6.ext _ (hWle outs N 1 (Nat.le_refl _) (Nat.le_refl _))]
 ·have hkk:k=l.length:=by omega
  subst hkk
  rw [List.drop_of_length_le (Nat.le_refl _)] at hg
  have hg':(outs,(0:Int))=R:=hg
  rw [←hg']
  (try simp -implicitDefEqProofs [hW])
  exact hWle _ _ _ (Nat.le_refl _) (Nat.le_refl _)
def E5 (inst:Nat→Src→Int→Option Posting) (l:List Src) (prs:Nat→Bool) (is:List Nat):List (Option Posting):=is.flatMap fun i=>l.flatMap (Bw (inst i) l (prs i))
def Rm (r:List Posting×Int):List Posting×Int:=if r.2=0 then r else ([],r.2)
def psV (r:List Posting×Int):V:=.tup [.t (.sl (r.1.map Posting.c)),vI r.2]
theorem O5 (a:List (Option Posting)) : ∀o,(Av o a).2=0∨(Av o a).2=2:=by
 induction a with
 | nil=>exact fun o=>.inl rfl
 | cons r a ih=>
  intro o
  cases r with
  | none=>exact .inr rfl
  | some p=>exact ih _
theorem O6 (a:List (Option Posting)) : ∀o,(Av o a).1.length≤o.length+a.length:=by
 induction a with
 | nil=>exact fun o=>by simp [Av]
 | cons r a ih=>
  intro o
  cases r with
  | none=>simp [Av]
  | some p=>
   have:=ih (if p.parts=[] then o else o++[p])
   have h2:(if p.parts=[] then o else o++[p]).length≤o.length+1:=by split<;>simp
   simp only [Av,List.length_cons];omega
theorem Rn (inst:Src→Int→Option Posting) (l:List Src) (pair:Bool) (l0:List Src):(l0.flatMap (Bw inst l pair)).length≤l0.length*(l.length+1):=by
 induction l0 with
 | nil=>simp
 | cons s l0 ih=>
  rw [List.flatMap_cons,List.length_append,List.length_cons,Nat.add_mul,Nat.one_mul]
  have h1 : ∀l1:List Src,(l1.flatMap (G7 inst s)).length≤l1.length:=fun l1=>by
   induction l1 with
   | nil=>simp
   | cons t l1 ih=>
    rw [List.flatMap_cons,List.length_append,List.length_cons]
    have:(G7 inst s t).length≤1:=by unfold G7;split<;>simp
    omega
  have h2:(Bw inst l pair s).length≤l.length+1:=by
   unfold Bw
   split
   ·split
    ·have:=h1 l;omega
    ·simp
   ·simp
  omega
structure CS where
 i:Nat
 outs:List Posting
theorem O7 (pf rf:Nat) (pcaps rcaps:List V) (B:List Bx) (hU:OkU B) (l:List Src) (n:Nat) (prs:Nat→Bool) (inst:Nat→Src→Int→Option Posting) (hl:l.length≤13) (hn:n≤100) (hpc:okNs B.length 0 pcaps=true) (hpc' : ∀k m,B.length≤k→okNs k m pcaps=true) (hrc : ∀k m,B.length≤k→okNs k m rcaps=true)
  (hpair : ∀(i:Nat) (C:List Bx) (tk:List Nat),i<n→OkT ⟨B++C,tk⟩→FnS Tryz.prog pf ([vI i]++pcaps) ⟨B++C,tk⟩ (vB (prs i)) ⟨B++C,tk⟩)
  (hrun : ∀(i:Nat) (C:List Bx) (tk:List Nat) (b mb:Nat) (s:Src) (oth:Int),i<n→s∈l→s.full=true→(if prs i=true then ∃t∈l,t.full=true∧t.ent=oth∧t.ent≠s.ent else oth = -1)→OkT ⟨B++C,tk⟩→(B++C)[b]?=some (.cells (mC s oth .snil mb 0))→(B++C)[mb]?=some (.mp [])→
   FnS Tryz.prog rf ([.ptr b 0,vI i]++rcaps) ⟨B++C,tk⟩ (peV (Dv (inst i s oth))) ⟨((B++C).set mb .dead).set b .dead,tk⟩) :
  FnS Tryz.prog 38 [Src.l l,vI n,.fn (.func pf) pcaps,.fn (.func rf) rcaps] ⟨B,[]⟩ (psV (Rm (Av [] (E5 inst l prs (List.range n))))) ⟨B,[]⟩:=by
 obtain⟨R,hR⟩ : ∃R,R=Av [] (E5 inst l prs (List.range n)):=⟨_,rfl⟩
 rw [←hR]
 obtain⟨P,hP⟩ : ∃P,P=B.length:=⟨_,rfl⟩
 have b0 : ∀l:List Bx,(B++l)[P]?=l[0]?:=fun l=>by rw [List.getElem?_append_right (by omega)];congr 1;omega
 have b1 : ∀(l:List Bx) (j:Nat),(B++l)[P+j]?=l[j]?:=fun l j=>by rw [List.getElem?_append_right (by omega)];congr 1;omega
 have bs1 : ∀(l:List Bx) (j:Nat) (v:Bx),(B++l).set (P+j) v=B++l.set j v:=fun l j v=>by rw [List.set_append_right _ _ (by omega)];congr 2;omega
 have hle : ∀(l l':List Bx) k m,P≤k→(A6 k m (B++l) (B++l')↔A6 k m l l'):=fun l l' k m h=>A6.appU (hU k m (by omega))
 have hdrop : ∀(l:List Bx) m,A6 P m (B++l) B:=fun l m=>A6.ext l (hU P m (by omega))
 have hrc' : ∀k,okNs (P+k) 1 rcaps=true:=fun k=>hrc _ _ (by omega)
 have hpc2 : ∀k,okNs (P+k) 1 pcaps=true:=fun k=>hpc' _ _ (by omega)
 rw [←hP] at hpc
 (refine FnS.of_code mix Tryz.call38 k_38 (by simp) (fun hB=>?_);(try simp at hB);(try simp -implicitDefEqProofs))
 (try simp -implicitDefEqProofs [b0,b1,bs1,←hP])
 refine Bm [(.cell (P+1) 0,75,5)] (X:=CS) (fun X=>X.i≤n∧Av X.outs (E5 inst l prs ((List.range n).drop X.i))=R∧X.outs.length≤X.i*200)
  (fun X=>[(0,Src.l l),(2,.fn (.func pf) pcaps),(7,.ptr P 0),(10,.ptr (P+1) 0),(13,vI n),(14,vI X.i)]) (fun X=>⟨B++[.cells [.fn (.func rf) rcaps],.cells [Ew X.outs]],[X.outs.length]⟩) (fun X=>n-X.i) ⟨0,[]⟩ ⟨by simp,hR.symm,by simp⟩ ?hs ?_
 case hs=>
  simp [b1,bs1,hle,Ew,E.leB,A3,okNs,okN,hrc',hpc2,Src.l,←hP]
 rintro ⟨i,outs⟩ ⟨hi,hg,hol⟩ hbd
 simp only [] at hi hg hol
 clear hbd
 have e3:IntKind.i64.wrap ((i:Int)+1)=(i:Int)+1:=wrap64 (by omega) (by omega)
 rcases Nat.lt_or_ge i n with h|h
 ·have hdr:(List.range n).drop i=i::(List.range n).drop (i+1):=by
   rw [List.drop_eq_getElem_cons (by simpa using h)];simp
  rw [hdr] at hg
  have hg':Av outs (l.flatMap (Bw (inst i) l (prs i))++E5 inst l prs ((List.range n).drop (i+1)))=R:=hg
  rw [J7] at hg'
  have hres:=O5 (l.flatMap (Bw (inst i) l (prs i))) outs
  have hlen:=O6 (l.flatMap (Bw (inst i) l (prs i))) outs
  have hlen2:=Rn (inst i) l (prs i) l
  have hlen3:l.length*(l.length+1)≤13*14:=Nat.mul_le_mul hl (by omega)
  have hW : ∀o:List Posting,(B++[Bx.cells [.fn (.func rf) rcaps],Bx.cells [Ew o],Bx.cells [vI i]]).length=P+3:=fun o=>by simp;omega
  have hOk : ∀(o:List Posting) (C:List Bx),(∀k m,P+3+C.length≤k→1≤m→A6 k m C C)→OkT ⟨B++.cells [.fn (.func rf) rcaps]::.cells [Ew o]::.cells [vI i]::C,[o.length]⟩:=fun o C hC k m h1 h2=>by
   simp at h1 h2
   refine (hle _ _ k m (by omega)).2 ⟨⟨A3 _,?_⟩,⟨A3 _,?_⟩,⟨A3 _,rfl⟩,hC k m (by omega) h2⟩
   ·simp [okNs,okN,hrc k m (by omega)]
   ·simp [okNs,okN,Ew];omega
  have hinst:=Rl 85 [.ptr P 0,.ptr (P+2) 0,.ptr (P+1) 0] (fun o=>B++[.cells [.fn (.func rf) rcaps],.cells [Ew o],.cells [vI i]]) (P+3) hW l (prs i) (inst i) (by omega) outs (by omega)
   (fun o k m h1 h2=>by
    refine (hle _ _ k m (by omega)).2 ⟨⟨A3 _,?_⟩,⟨A3 _,?_⟩,⟨A3 _,rfl⟩,trivial⟩
    ·simp [okNs,okN,hrc k m (by omega)]
    ·simp [okNs,okN,Ew];omega)
   (fun k hk=>by simp [okNs,okN];omega)
   (fun o C b mb s oth ho hs hf hp hb hmb hC hbC hmC=>by
    have hbl:=A4 hbC
    have hml:=A4 hmC
    simp at hbl hml
    have ha : ∀o:List Posting,(B++[Bx.cells [.fn (.func rf) rcaps],Bx.cells [Ew o],Bx.cells [vI i]])++C=B++.cells [.fn (.func rf) rcaps]::.cells [Ew o]::.cells [vI i]::C:=fun o=>by simp
    rw [ha] at hbC hmC ⊢
    have:=A5q rf rcaps i B C o b mb (inst i s oth) (fun k m h1 h2=>hOk o C hC k m h1 h2) ho (by omega) (by omega) (by omega) (by omega) (hrun i _ _ b mb s oth h hs hf hp (hOk o C hC) hbC hmC)
    rw [←hP] at this
    simp only [List.append_assoc,List.cons_append,List.nil_append]
    exact this)
  have hpr:=hpair i [.cells [.fn (.func rf) rcaps],.cells [Ew outs],.cells [vI i]] [outs.length] h (hOk outs [] (fun _ _ _ _=>trivial))
  obtain⟨r,hr⟩ : ∃r,r=Av outs (l.flatMap (Bw (inst i) l (prs i))):=⟨_,rfl⟩
  rw [←hr] at hg' hres hlen hinst
  obtain⟨ro,re⟩:=r
  simp only [] at hg' hres hlen hinst
  rcases hres with rfl|rfl
  ·rw [if_pos rfl] at hg'
   (try simp -implicitDefEqProofs [h,b0,b1,bs1,←hP])
   refine Ab hpr ?_
   (try simp -implicitDefEqProofs [b0,b1,bs1,←hP])
   refine Ab hinst ?_
   (try simp -implicitDefEqProofs [e3,←hP])
   refine⟨⟨i+1,ro⟩,⟨h,hg',by simp only [];omega⟩,by simp only [];omega,?_⟩
   simp [hle,Ew,E.leB,A3,okNs,okN,hrc',hpc2,Src.l]
  ·rw [if_neg (by decide)] at hg'
   rw [←hg']
   (try simp -implicitDefEqProofs [h,b0,b1,bs1,←hP])
   refine Ab hpr ?_
   (try simp -implicitDefEqProofs [b0,b1,bs1,←hP])
   refine Ab hinst ?_
   (try simp -implicitDefEqProofs [e3,←hP,psV,Rm])
   exact hdrop _ _
 ·have hin:i=n:=by omega
  subst hin
  rw [List.drop_of_length_le (by simp)] at hg
  have hg':(outs,(0:Int))=R:=hg
  rw [←hg']
  (try simp -implicitDefEqProofs [b0,b1,bs1,←hP,psV,Rm,Ew])
  exact hdrop _ _
attribute [local simp] Src.l Src.v Src.c rC

theorem A09 (S:St) (hS:OkS S) (l:List Item) (f:Nat) (caps:List V) (hcp:okNs S.boxes.length S.toks.length caps=true) (q:Item→Bool) (h : ∀x∈l,FnS Tryz.prog f ((Item.v x)::caps) S (.t (.bool (q x))) S) :
    FnS Tryz.prog 114 [(Item.l l),.fn (.func f) caps] S (.t (.int .i64 (Ix q l))) S:=by
  (refine FnS.of_code mix Tryz.call114 k_114 (by simp) (fun hB=>?_);(try simp at hB);(try simp -implicitDefEqProofs))
  refine A7 (X:=Nat) (fun k=>k≤l.length∧∀y∈l.take k,q y=false) (fun k=>[(0,(Item.l l)),(1,.fn (.func f) caps),(7,vI l.length),(8,vI k)]) (fun _=>S) (fun k=>l.length-k) 0 ⟨by simp,by simp⟩ ?_ ?_
  · have:=hS;simp [OkS] at this;simp [this,hcp]
  rintro k ⟨hk,hn⟩ hbd
  rcases Nat.lt_or_ge k l.length with hlt|hge
  · have hx:l[k]?=some l[k]:=by simp [hlt]
    have hc:=h l[k] (List.getElem_mem hlt)
    have e3:IntKind.i64.wrap ((k:Int)+1)=(k:Int)+1:=wrap64 (by omega) (by simp [maxLen] at hB;omega)
    cases hq:q l[k]
    · rw [hq] at hc
      (try simp at hc)
      ((try simp -implicitDefEqProofs [hlt,e3]);repeat' first|((with_reducible first|apply Ac|apply Ad|apply A5)<;>(intro hc;have hc':=hc;(try simp at hc');simp -implicitDefEqProofs [hc,hc',hlt,e3])))
      refine Ab hc ?_
      ((try simp -implicitDefEqProofs [hlt,e3]);repeat' first|((with_reducible first|apply Ac|apply Ad|apply A5)<;>(intro hc;have hc':=hc;(try simp at hc');simp -implicitDefEqProofs [hc,hc',hlt,e3])))
      have hS':=hS
      simp [OkS] at hS'
      refine⟨k+1,⟨by omega,fun y hy=>?_⟩,by omega,?_⟩
      · first|rw [Ag hx] at hy|(have hy':=hy;rw [←List.map_take] at hy';rw [Ag hx] at hy)
        rcases List.mem_append.1 hy with h1|h1
        · exact hn y h1
        · simp at h1;subst h1;exact hq
      · simp [hS',hcp];try omega
    · rw [hq] at hc
      (try simp at hc)
      rw [Iy hx hn hq]
      ((try simp -implicitDefEqProofs [hlt,e3]);repeat' first|((with_reducible first|apply Ac|apply Ad|apply A5)<;>(intro hc;have hc':=hc;(try simp at hc');simp -implicitDefEqProofs [hc,hc',hlt,e3])))
      refine Ab hc ?_
      have hS':=hS
      simp [OkS] at hS'
      ((try simp -implicitDefEqProofs [hlt,e3,hS']);repeat' first|((with_reducible first|apply Ac|apply Ad|apply A5)<;>(intro hc;have hc':=hc;(try simp at hc');simp -implicitDefEqProofs [hc,hc',hlt,e3,hS'])))
  · have:k=l.length:=by omega
    subst this
    rw [List.take_length] at hn
    rw [Gv hn]
    have hS':=hS
    simp [OkS] at hS'
    ((try simp -implicitDefEqProofs [hS']);repeat' first|((with_reducible first|apply Ac|apply Ad|apply A5)<;>(intro hc;have hc':=hc;(try simp at hc');simp -implicitDefEqProofs [hc,hc',hS'])))

theorem Ro (S:St) (hS:OkS S) (l:List Item) (f:Nat) (caps:List V) (hcp:okNs S.boxes.length S.toks.length caps=true) (q:Item→Bool) (h : ∀x∈l,FnS Tryz.prog f ((Item.v x)::caps) S (.t (.bool (q x))) S) :
    FnS Tryz.prog 65 [(Item.l l),.fn (.func f) caps] S (.t (.bool (l.any q))) S:=by
  have hi:=A09 S hS l f caps hcp q h
  rw [←Gw]
  (try simp at hi)
  (refine FnS.of_code mix Tryz.call65 k_65 (by simp) (fun hB=>?_);(try simp at hB);(try simp -implicitDefEqProofs))
  refine Ab hi ?_
  have hS':=hS
  simp [OkS] at hS'
  ((try simp -implicitDefEqProofs [hS']);repeat' first|((with_reducible first|apply Ac|apply Ad|apply A5)<;>(intro hc;have hc':=hc;(try simp at hc');simp -implicitDefEqProofs [hc,hc',hS'])))


theorem A0a (S:St) (hS:OkS S) (l:List Code) (f:Nat) (caps:List V) (hcp:okNs S.boxes.length S.toks.length caps=true) (q:Code→Bool) (h : ∀x∈l,FnS Tryz.prog f ((Code.v x)::caps) S (.t (.bool (q x))) S) :
    FnS Tryz.prog 107 [(Code.l l),.fn (.func f) caps] S (.t (.int .i64 (Ix q l))) S:=by
  (refine FnS.of_code mix Tryz.call107 k_107 (by simp) (fun hB=>?_);(try simp at hB);(try simp -implicitDefEqProofs))
  refine A7 (X:=Nat) (fun k=>k≤l.length∧∀y∈l.take k,q y=false) (fun k=>[(0,(Code.l l)),(1,.fn (.func f) caps),(7,vI l.length),(8,vI k)]) (fun _=>S) (fun k=>l.length-k) 0 ⟨by simp,by simp⟩ ?_ ?_
  · have:=hS;simp [OkS] at this;simp [this,hcp]
  rintro k ⟨hk,hn⟩ hbd
  rcases Nat.lt_or_ge k l.length with hlt|hge
  · have hx:l[k]?=some l[k]:=by simp [hlt]
    have hc:=h l[k] (List.getElem_mem hlt)
    have e3:IntKind.i64.wrap ((k:Int)+1)=(k:Int)+1:=wrap64 (by omega) (by simp [maxLen] at hB;omega)
    cases hq:q l[k]
    · rw [hq] at hc
      (try simp at hc)
      ((try simp -implicitDefEqProofs [hlt,e3]);repeat' first|((with_reducible first|apply Ac|apply Ad|apply A5)<;>(intro hc;have hc':=hc;(try simp at hc');simp -implicitDefEqProofs [hc,hc',hlt,e3])))
      refine Ab hc ?_
      ((try simp -implicitDefEqProofs [hlt,e3]);repeat' first|((with_reducible first|apply Ac|apply Ad|apply A5)<;>(intro hc;have hc':=hc;(try simp at hc');simp -implicitDefEqProofs [hc,hc',hlt,e3])))
      have hS':=hS
      simp [OkS] at hS'
      refine⟨k+1,⟨by omega,fun y hy=>?_⟩,by omega,?_⟩
      · first|rw [Ag hx] at hy|(have hy':=hy;rw [←List.map_take] at hy';rw [Ag hx] at hy)
        rcases List.mem_append.1 hy with h1|h1
        · exact hn y h1
        · simp at h1;subst h1;exact hq
      · simp [hS',hcp];try omega
    · rw [hq] at hc
      (try simp at hc)
      rw [Iy hx hn hq]
      ((try simp -implicitDefEqProofs [hlt,e3]);repeat' first|((with_reducible first|apply Ac|apply Ad|apply A5)<;>(intro hc;have hc':=hc;(try simp at hc');simp -implicitDefEqProofs [hc,hc',hlt,e3])))
      refine Ab hc ?_
      have hS':=hS
      simp [OkS] at hS'
      ((try simp -implicitDefEqProofs [hlt,e3,hS']);repeat' first|((with_reducible first|apply Ac|apply Ad|apply A5)<;>(intro hc;have hc':=hc;(try simp at hc');simp -implicitDefEqProofs [hc,hc',hlt,e3,hS'])))
  · have:k=l.length:=by omega
    subst this
    rw [List.take_length] at hn
    rw [Gv hn]
    have hS':=hS
    simp [OkS] at hS'
    ((try simp -implicitDefEqProofs [hS']);repeat' first|((with_reducible first|apply Ac|apply Ad|apply A5)<;>(intro hc;have hc':=hc;(try simp at hc');simp -implicitDefEqProofs [hc,hc',hS'])))

theorem Rp (S:St) (hS:OkS S) (l:List Code) (f:Nat) (caps:List V) (hcp:okNs S.boxes.length S.toks.length caps=true) (q:Code→Bool) (h : ∀x∈l,FnS Tryz.prog f ((Code.v x)::caps) S (.t (.bool (q x))) S) :
    FnS Tryz.prog 53 [(Code.l l),.fn (.func f) caps] S (.t (.bool (l.any q))) S:=by
  have hi:=A0a S hS l f caps hcp q h
  rw [←Gw]
  (try simp at hi)
  (refine FnS.of_code mix Tryz.call53 k_53 (by simp) (fun hB=>?_);(try simp at hB);(try simp -implicitDefEqProofs))
  refine Ab hi ?_
  have hS':=hS
  simp [OkS] at hS'
  ((try simp -implicitDefEqProofs [hS']);repeat' first|((with_reducible first|apply Ac|apply Ad|apply A5)<;>(intro hc;have hc':=hc;(try simp at hc');simp -implicitDefEqProofs [hc,hc',hS'])))
end Go.Proofs.YtmlpmdccfmmpoaaGreatDoor
