/- Chapter 35: the postings of some rules are collected. -/
import Derived.Test.YtmlpmdccfmmpoaaGreatExD
set_option linter.unusedSimpArgs false
set_option linter.unusedVariables false
set_option maxHeartbeats 4000000
set_option maxRecDepth 8000
namespace Go.Proofs.YtmlpmdccfmmpoaaGreat
open E

def runsL (inst:Nat→Src→Int→Option Posting) (l:List Src) (prs:Nat→Bool) (is:List Nat):List (Option Posting):=is.flatMap fun i=>l.flatMap (ownL (inst i) l (prs i))
def colE (r:List Posting×Int):List Posting×Int:=if r.2=0 then r else ([],r.2)
def psV (r:List Posting×Int):V:=.tup [.t (.sl (r.1.map Posting.c)),vI r.2]
theorem gath_errs (a:List (Option Posting)) : ∀o,(gath o a).2=0∨(gath o a).2=2:=by
 induction a with
 | nil=>exact fun o=>.inl rfl
 | cons r a ih=>
  intro o
  cases r with
  | none=>exact .inr rfl
  | some p=>exact ih _
theorem gath_lens (a:List (Option Posting)) : ∀o,(gath o a).1.length≤o.length+a.length:=by
 induction a with
 | nil=>exact fun o=>by simp [gath]
 | cons r a ih=>
  intro o
  cases r with
  | none=>simp [gath]
  | some p=>
   have:=ih (if p.parts=[] then o else o++[p])
   have h2:(if p.parts=[] then o else o++[p]).length≤o.length+1:=by split<;>simp
   simp only [gath,List.length_cons]; omega
theorem ownL_len (inst:Src→Int→Option Posting) (l:List Src) (pair:Bool) (l0:List Src):(l0.flatMap (ownL inst l pair)).length≤l0.length*(l.length+1):=by
 induction l0 with
 | nil=>simp
 | cons s l0 ih=>
  rw [List.flatMap_cons,List.length_append,List.length_cons,Nat.add_mul,Nat.one_mul]
  have h1 : ∀l1:List Src,(l1.flatMap (othL inst s)).length≤l1.length:=fun l1=>by
   induction l1 with
   | nil=>simp
   | cons t l1 ih=>
    rw [List.flatMap_cons,List.length_append,List.length_cons]
    have:(othL inst s t).length≤1:=by unfold othL; split<;>simp
    omega
  have h2:(ownL inst l pair s).length≤l.length+1:=by
   unfold ownL
   split
   ·split
    ·have:=h1 l; omega
    ·simp
   ·simp
  omega
structure CS where
 i:Nat
 outs:List Posting
theorem w_collect (pf rf:Nat) (pcaps rcaps:List V) (B:List Bx) (hU:OkU B) (l:List Src) (n:Nat) (prs:Nat→Bool) (inst:Nat→Src→Int→Option Posting) (hl:l.length≤13) (hn:n≤100) (hpc:okNs B.length 0 pcaps=true) (hpc' : ∀k m,B.length≤k→okNs k m pcaps=true) (hrc : ∀k m,B.length≤k→okNs k m rcaps=true)
  (hpair : ∀(i:Nat) (C:List Bx) (tk:List Nat),i<n→OkT ⟨B++C,tk⟩→FnS Tryz.prog pf ([vI i]++pcaps) ⟨B++C,tk⟩ (vB (prs i)) ⟨B++C,tk⟩)
  (hrun : ∀(i:Nat) (C:List Bx) (tk:List Nat) (b mb:Nat) (s:Src) (oth:Int),i<n→s∈l→s.full=true→(if prs i=true then ∃t∈l,t.full=true∧t.ent=oth∧t.ent≠s.ent else oth = -1)→OkT ⟨B++C,tk⟩→(B++C)[b]?=some (.cells (mC s oth .snil mb 0))→(B++C)[mb]?=some (.mp [])→
   FnS Tryz.prog rf ([.ptr b 0,vI i]++rcaps) ⟨B++C,tk⟩ (peV (instE (inst i s oth))) ⟨((B++C).set mb .dead).set b .dead,tk⟩) :
  FnS Tryz.prog 27 [Src.l l,vI n,.fn (.func pf) pcaps,.fn (.func rf) rcaps] ⟨B,[]⟩ (psV (colE (gath [] (runsL inst l prs (List.range n))))) ⟨B,[]⟩:=by
 obtain⟨R,hR⟩ : ∃R,R=gath [] (runsL inst l prs (List.range n)):=⟨_,rfl⟩
 rw [←hR]
 obtain⟨P,hP⟩ : ∃P,P=B.length:=⟨_,rfl⟩
 have b0 : ∀l:List Bx,(B++l)[P]?=l[0]?:=fun l=>by rw [List.getElem?_append_right (by omega)]; congr 1; omega
 have b1 : ∀(l:List Bx) (j:Nat),(B++l)[P+j]?=l[j]?:=fun l j=>by rw [List.getElem?_append_right (by omega)]; congr 1; omega
 have bs1 : ∀(l:List Bx) (j:Nat) (v:Bx),(B++l).set (P+j) v=B++l.set j v:=fun l j v=>by rw [List.set_append_right _ _ (by omega)]; congr 2; omega
 have hle : ∀(l l':List Bx) k m,P≤k→(LeBs k m (B++l) (B++l')↔LeBs k m l l'):=fun l l' k m h=>LeBs.appU (hU k m (by omega))
 have hdrop : ∀(l:List Bx) m,LeBs P m (B++l) B:=fun l m=>LeBs.ext l (hU P m (by omega))
 have hrc' : ∀k,okNs (P+k) 1 rcaps=true:=fun k=>hrc _ _ (by omega)
 have hpc2 : ∀k,okNs (P+k) 1 pcaps=true:=fun k=>hpc' _ _ (by omega)
 rw [←hP] at hpc
 (refine FnS.of_code mix Tryz.call27 k_27 (by simp) (fun hB=>?_); (try simp at hB); (try simp -implicitDefEqProofs [qc_27]))
 ((try simp -implicitDefEqProofs [b0,b1,bs1,←hP]); repeat' first | ((with_reducible first | apply gdK_em | apply cdK_em | apply pickK_em)<;>(intro hc; have hc':=hc; (try simp at hc'); simp -implicitDefEqProofs [hc,hc',b0,b1,bs1,←hP])))
 refine loop_grow [(.cell (P+1) 0,43,5)] (X:=CS) (fun X=>X.i≤n∧gath X.outs (runsL inst l prs ((List.range n).drop X.i))=R∧X.outs.length≤X.i*200)
  (fun X=>[(0,Src.l l),(2,.fn (.func pf) pcaps),(7,.ptr P 0),(10,.ptr (P+1) 0),(13,vI n),(14,vI X.i)]) (fun X=>⟨B++[.cells [.fn (.func rf) rcaps],.cells [ownP X.outs]],[X.outs.length]⟩) (fun X=>n-X.i) ⟨0,[]⟩ ⟨by simp,hR.symm,by simp⟩ ?hs ?_
 case hs=>
  simp [b1,bs1,hle,ownP,E.leB,LeL_refl,okNs,okN,hrc',hpc2,Src.l,←hP]
 rintro ⟨i,outs⟩ ⟨hi,hg,hol⟩ hbd
 simp only [] at hi hg hol
 clear hbd
 have e3:IntKind.i64.wrap ((i:Int)+1)=(i:Int)+1:=wrap64 (by omega) (by omega)
 rcases Nat.lt_or_ge i n with h | h
 ·have hdr:(List.range n).drop i=i::(List.range n).drop (i+1):=by
   rw [List.drop_eq_getElem_cons (by simpa using h)]; simp
  rw [hdr] at hg
  have hg':gath outs (l.flatMap (ownL (inst i) l (prs i))++runsL inst l prs ((List.range n).drop (i+1)))=R:=hg
  rw [gath_app] at hg'
  have hres:=gath_errs (l.flatMap (ownL (inst i) l (prs i))) outs
  have hlen:=gath_lens (l.flatMap (ownL (inst i) l (prs i))) outs
  have hlen2:=ownL_len (inst i) l (prs i) l
  have hlen3:l.length*(l.length+1)≤13*14:=Nat.mul_le_mul hl (by omega)
  have hW : ∀o:List Posting,(B++[Bx.cells [.fn (.func rf) rcaps],Bx.cells [ownP o],Bx.cells [vI i]]).length=P+3:=fun o=>by simp; omega
  have hOk : ∀(o:List Posting) (C:List Bx),(∀k m,P+3+C.length≤k→1≤m→LeBs k m C C)→OkT ⟨B++.cells [.fn (.func rf) rcaps]::.cells [ownP o]::.cells [vI i]::C,[o.length]⟩:=fun o C hC k m h1 h2=>by
   simp at h1 h2
   refine (hle _ _ k m (by omega)).2 ⟨⟨LeL_refl _,?_⟩,⟨LeL_refl _,?_⟩,⟨LeL_refl _,rfl⟩,hC k m (by omega) h2⟩
   ·simp [okNs,okN,hrc k m (by omega)]
   ·simp [okNs,okN,ownP]; omega
  have hinst:=w_instances 46 [.ptr P 0,.ptr (P+2) 0,.ptr (P+1) 0] (fun o=>B++[.cells [.fn (.func rf) rcaps],.cells [ownP o],.cells [vI i]]) (P+3) hW l (prs i) (inst i) (by omega) outs (by omega)
   (fun o k m h1 h2=>by
    refine (hle _ _ k m (by omega)).2 ⟨⟨LeL_refl _,?_⟩,⟨LeL_refl _,?_⟩,⟨LeL_refl _,rfl⟩,trivial⟩
    ·simp [okNs,okN,hrc k m (by omega)]
    ·simp [okNs,okN,ownP]; omega)
   (fun k hk=>by simp [okNs,okN]; omega)
   (fun o C b mb s oth ho hs hf hp hb hmb hC hbC hmC=>by
    have hbl:=lt_of_get hbC
    have hml:=lt_of_get hmC
    simp at hbl hml
    have ha : ∀o:List Posting,(B++[Bx.cells [.fn (.func rf) rcaps],Bx.cells [ownP o],Bx.cells [vI i]])++C=B++.cells [.fn (.func rf) rcaps]::.cells [ownP o]::.cells [vI i]::C:=fun o=>by simp
    rw [ha] at hbC hmC ⊢
    have:=w_each rf rcaps i B C o b mb (inst i s oth) (fun k m h1 h2=>hOk o C hC k m h1 h2) ho (by omega) (by omega) (by omega) (by omega) (hrun i _ _ b mb s oth h hs hf hp (hOk o C hC) hbC hmC)
    rw [←hP] at this
    simp only [List.append_assoc,List.cons_append,List.nil_append]
    exact this)
  have hpr:=hpair i [.cells [.fn (.func rf) rcaps],.cells [ownP outs],.cells [vI i]] [outs.length] h (hOk outs [] (fun _ _ _ _=>trivial))
  obtain⟨r,hr⟩ : ∃r,r=gath outs (l.flatMap (ownL (inst i) l (prs i))):=⟨_,rfl⟩
  rw [←hr] at hg' hres hlen hinst
  obtain⟨ro,re⟩:=r
  simp only [] at hg' hres hlen hinst
  rcases hres with rfl | rfl
  ·rw [if_pos rfl] at hg'
   ((try simp -implicitDefEqProofs [h,b0,b1,bs1,←hP]); repeat' first | ((with_reducible first | apply gdK_em | apply cdK_em | apply pickK_em)<;>(intro hc; have hc':=hc; (try simp at hc'); simp -implicitDefEqProofs [hc,hc',h,b0,b1,bs1,←hP])))
   refine callKf hpr ?_
   ((try simp -implicitDefEqProofs [b0,b1,bs1,←hP]); repeat' first | ((with_reducible first | apply gdK_em | apply cdK_em | apply pickK_em)<;>(intro hc; have hc':=hc; (try simp at hc'); simp -implicitDefEqProofs [hc,hc',b0,b1,bs1,←hP])))
   refine callKf hinst ?_
   ((try simp -implicitDefEqProofs [e3,←hP]); repeat' first | ((with_reducible first | apply gdK_em | apply cdK_em | apply pickK_em)<;>(intro hc; have hc':=hc; (try simp at hc'); simp -implicitDefEqProofs [hc,hc',e3,←hP])))
   refine⟨⟨i+1,ro⟩,⟨h,hg',by simp only []; omega⟩,by simp only []; omega,?_⟩
   simp [hle,ownP,E.leB,LeL_refl,okNs,okN,hrc',hpc2,Src.l]
  ·rw [if_neg (by decide)] at hg'
   rw [←hg']
   ((try simp -implicitDefEqProofs [h,b0,b1,bs1,←hP]); repeat' first | ((with_reducible first | apply gdK_em | apply cdK_em | apply pickK_em)<;>(intro hc; have hc':=hc; (try simp at hc'); simp -implicitDefEqProofs [hc,hc',h,b0,b1,bs1,←hP])))
   refine callKf hpr ?_
   ((try simp -implicitDefEqProofs [b0,b1,bs1,←hP]); repeat' first | ((with_reducible first | apply gdK_em | apply cdK_em | apply pickK_em)<;>(intro hc; have hc':=hc; (try simp at hc'); simp -implicitDefEqProofs [hc,hc',b0,b1,bs1,←hP])))
   refine callKf hinst ?_
   ((try simp -implicitDefEqProofs [e3,←hP,psV,colE]); repeat' first | ((with_reducible first | apply gdK_em | apply cdK_em | apply pickK_em)<;>(intro hc; have hc':=hc; (try simp at hc'); simp -implicitDefEqProofs [hc,hc',e3,←hP,psV,colE])))
   exact hdrop _ _
 ·have hin:i=n:=by omega
  subst hin
  rw [List.drop_of_length_le (by simp)] at hg
  have hg':(outs,(0:Int))=R:=hg
  rw [←hg']
  ((try simp -implicitDefEqProofs [b0,b1,bs1,←hP,psV,colE,ownP]); repeat' first | ((with_reducible first | apply gdK_em | apply cdK_em | apply pickK_em)<;>(intro hc; have hc':=hc; (try simp at hc'); simp -implicitDefEqProofs [hc,hc',b0,b1,bs1,←hP,psV,colE,ownP])))
  exact hdrop _ _
end Go.Proofs.YtmlpmdccfmmpoaaGreat
