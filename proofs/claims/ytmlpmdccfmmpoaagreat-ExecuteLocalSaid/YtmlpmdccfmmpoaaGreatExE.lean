/- Chapter 35: the postings of some rules are collected. -/
import Derived.Test.YtmlpmdccfmmpoaaGreatExD
set_option linter.unusedSimpArgs false
set_option linter.unusedVariables false
set_option maxHeartbeats 4000000
set_option maxRecDepth 8000
namespace Go.Proofs.YtmlpmdccfmmpoaaGreat
open E

def K5 (inst:Nat→Src→Int→Option Posting) (l:List Src) (prs:Nat→Bool) (is:List Nat):List (Option Posting):=is.flatMap fun i=>l.flatMap (Bp (inst i) l (prs i))
def T9 (r:List Posting×Int):List Posting×Int:=if r.2=0 then r else ([],r.2)
def psV (r:List Posting×Int):V:=.tup [.t (.sl (r.1.map Posting.c)),vI r.2]
theorem K6 (a:List (Option Posting)) : ∀o,(Am o a).2=0∨(Am o a).2=2:=by
 induction a with
 | nil=>exact fun o=>.inl rfl
 | cons r a ih=>
  intro o
  cases r with
  | none=>exact .inr rfl
  | some p=>exact ih _
theorem K7 (a:List (Option Posting)) : ∀o,(Am o a).1.length≤o.length+a.length:=by
 induction a with
 | nil=>exact fun o=>by simp [Am]
 | cons r a ih=>
  intro o
  cases r with
  | none=>simp [Am]
  | some p=>
   have:=ih (if p.parts=[] then o else o++[p])
   have h2:(if p.parts=[] then o else o++[p]).length≤o.length+1:=by split<;>simp
   simp only [Am,List.length_cons];omega
theorem Mj (inst:Src→Int→Option Posting) (l:List Src) (pair:Bool) (l0:List Src):(l0.flatMap (Bp inst l pair)).length≤l0.length*(l.length+1):=by
 induction l0 with
 | nil=>simp
 | cons s l0 ih=>
  rw [List.flatMap_cons,List.length_append,List.length_cons,Nat.add_mul,Nat.one_mul]
  have h1 : ∀l1:List Src,(l1.flatMap (E9 inst s)).length≤l1.length:=fun l1=>by
   induction l1 with
   | nil=>simp
   | cons t l1 ih=>
    rw [List.flatMap_cons,List.length_append,List.length_cons]
    have:(E9 inst s t).length≤1:=by unfold E9;split<;>simp
    omega
  have h2:(Bp inst l pair s).length≤l.length+1:=by
   unfold Bp
   split
   ·split
    ·have:=h1 l;omega
    ·simp
   ·simp
  omega
structure CS where
 i:Nat
 outs:List Posting
theorem Qw (pf rf:Nat) (pcaps rcaps:List V) (B:List Bx) (hU:OkU B) (l:List Src) (n:Nat) (prs:Nat→Bool) (inst:Nat→Src→Int→Option Posting) (hl:l.length≤13) (hn:n≤100) (hpc:okNs B.length 0 pcaps=true) (hpc' : ∀k m,B.length≤k→okNs k m pcaps=true) (hrc : ∀k m,B.length≤k→okNs k m rcaps=true)
  (hpair : ∀(i:Nat) (C:List Bx) (tk:List Nat),i<n→OkT ⟨B++C,tk⟩→FnS Tryz.prog pf ([vI i]++pcaps) ⟨B++C,tk⟩ (vB (prs i)) ⟨B++C,tk⟩)
  (hrun : ∀(i:Nat) (C:List Bx) (tk:List Nat) (b mb:Nat) (s:Src) (oth:Int),i<n→s∈l→s.full=true→(if prs i=true then ∃t∈l,t.full=true∧t.ent=oth∧t.ent≠s.ent else oth = -1)→OkT ⟨B++C,tk⟩→(B++C)[b]?=some (.cells (mC s oth .snil mb 0))→(B++C)[mb]?=some (.mp [])→
   FnS Tryz.prog rf ([.ptr b 0,vI i]++rcaps) ⟨B++C,tk⟩ (peV (D9 (inst i s oth))) ⟨((B++C).set mb .dead).set b .dead,tk⟩) :
  FnS Tryz.prog 27 [Src.l l,vI n,.fn (.func pf) pcaps,.fn (.func rf) rcaps] ⟨B,[]⟩ (psV (T9 (Am [] (K5 inst l prs (List.range n))))) ⟨B,[]⟩:=by
 obtain⟨R,hR⟩ : ∃R,R=Am [] (K5 inst l prs (List.range n)):=⟨_,rfl⟩
 rw [←hR]
 obtain⟨P,hP⟩ : ∃P,P=B.length:=⟨_,rfl⟩
 have b0 : ∀l:List Bx,(B++l)[P]?=l[0]?:=fun l=>by rw [List.getElem?_append_right (by omega)];congr 1;omega
 have b1 : ∀(l:List Bx) (j:Nat),(B++l)[P+j]?=l[j]?:=fun l j=>by rw [List.getElem?_append_right (by omega)];congr 1;omega
 have bs1 : ∀(l:List Bx) (j:Nat) (v:Bx),(B++l).set (P+j) v=B++l.set j v:=fun l j v=>by rw [List.set_append_right _ _ (by omega)];congr 2;omega
 have hle : ∀(l l':List Bx) k m,P≤k→(A6 k m (B++l) (B++l')↔A6 k m l l'):=fun l l' k m h=>A6.appU (hU k m (by omega))
 have hdrop : ∀(l:List Bx) m,A6 P m (B++l) B:=fun l m=>A6.ext l (hU P m (by omega))
 have hrc' : ∀k,okNs (P+k) 1 rcaps=true:=fun k=>hrc _ _ (by omega)
 have hpc2 : ∀k,okNs (P+k) 1 pcaps=true:=fun k=>hpc' _ _ (by omega)
 rw [←hP] at hpc
 (refine FnS.of_code mix Tryz.call27 k_27 (by simp) (fun hB=>?_);(try simp at hB);(try simp -implicitDefEqProofs))
 (try simp -implicitDefEqProofs [b0,b1,bs1,←hP])
 refine Bl [(.cell (P+1) 0,43,5)] (X:=CS) (fun X=>X.i≤n∧Am X.outs (K5 inst l prs ((List.range n).drop X.i))=R∧X.outs.length≤X.i*200)
  (fun X=>[(0,Src.l l),(2,.fn (.func pf) pcaps),(7,.ptr P 0),(10,.ptr (P+1) 0),(13,vI n),(14,vI X.i)]) (fun X=>⟨B++[.cells [.fn (.func rf) rcaps],.cells [Db X.outs]],[X.outs.length]⟩) (fun X=>n-X.i) ⟨0,[]⟩ ⟨by simp,hR.symm,by simp⟩ ?hs ?_
 case hs=>
  simp [b1,bs1,hle,Db,E.leB,A3,okNs,okN,hrc',hpc2,Src.l,←hP]
 rintro ⟨i,outs⟩ ⟨hi,hg,hol⟩ hbd
 simp only [] at hi hg hol
 clear hbd
 have e3:IntKind.i64.wrap ((i:Int)+1)=(i:Int)+1:=wrap64 (by omega) (by omega)
 rcases Nat.lt_or_ge i n with h|h
 ·have hdr:(List.range n).drop i=i::(List.range n).drop (i+1):=by
   rw [List.drop_eq_getElem_cons (by simpa using h)];simp
  rw [hdr] at hg
  have hg':Am outs (l.flatMap (Bp (inst i) l (prs i))++K5 inst l prs ((List.range n).drop (i+1)))=R:=hg
  rw [J4] at hg'
  have hres:=K6 (l.flatMap (Bp (inst i) l (prs i))) outs
  have hlen:=K7 (l.flatMap (Bp (inst i) l (prs i))) outs
  have hlen2:=Mj (inst i) l (prs i) l
  have hlen3:l.length*(l.length+1)≤13*14:=Nat.mul_le_mul hl (by omega)
  have hW : ∀o:List Posting,(B++[Bx.cells [.fn (.func rf) rcaps],Bx.cells [Db o],Bx.cells [vI i]]).length=P+3:=fun o=>by simp;omega
  have hOk : ∀(o:List Posting) (C:List Bx),(∀k m,P+3+C.length≤k→1≤m→A6 k m C C)→OkT ⟨B++.cells [.fn (.func rf) rcaps]::.cells [Db o]::.cells [vI i]::C,[o.length]⟩:=fun o C hC k m h1 h2=>by
   simp at h1 h2
   refine (hle _ _ k m (by omega)).2 ⟨⟨A3 _,?_⟩,⟨A3 _,?_⟩,⟨A3 _,rfl⟩,hC k m (by omega) h2⟩
   ·simp [okNs,okN,hrc k m (by omega)]
   ·simp [okNs,okN,Db];omega
  have hinst:=Mi 46 [.ptr P 0,.ptr (P+2) 0,.ptr (P+1) 0] (fun o=>B++[.cells [.fn (.func rf) rcaps],.cells [Db o],.cells [vI i]]) (P+3) hW l (prs i) (inst i) (by omega) outs (by omega)
   (fun o k m h1 h2=>by
    refine (hle _ _ k m (by omega)).2 ⟨⟨A3 _,?_⟩,⟨A3 _,?_⟩,⟨A3 _,rfl⟩,trivial⟩
    ·simp [okNs,okN,hrc k m (by omega)]
    ·simp [okNs,okN,Db];omega)
   (fun k hk=>by simp [okNs,okN];omega)
   (fun o C b mb s oth ho hs hf hp hb hmb hC hbC hmC=>by
    have hbl:=A5 hbC
    have hml:=A5 hmC
    simp at hbl hml
    have ha : ∀o:List Posting,(B++[Bx.cells [.fn (.func rf) rcaps],Bx.cells [Db o],Bx.cells [vI i]])++C=B++.cells [.fn (.func rf) rcaps]::.cells [Db o]::.cells [vI i]::C:=fun o=>by simp
    rw [ha] at hbC hmC ⊢
    have:=Wy rf rcaps i B C o b mb (inst i s oth) (fun k m h1 h2=>hOk o C hC k m h1 h2) ho (by omega) (by omega) (by omega) (by omega) (hrun i _ _ b mb s oth h hs hf hp (hOk o C hC) hbC hmC)
    rw [←hP] at this
    simp only [List.append_assoc,List.cons_append,List.nil_append]
    exact this)
  have hpr:=hpair i [.cells [.fn (.func rf) rcaps],.cells [Db outs],.cells [vI i]] [outs.length] h (hOk outs [] (fun _ _ _ _=>trivial))
  obtain⟨r,hr⟩ : ∃r,r=Am outs (l.flatMap (Bp (inst i) l (prs i))):=⟨_,rfl⟩
  rw [←hr] at hg' hres hlen hinst
  obtain⟨ro,re⟩:=r
  simp only [] at hg' hres hlen hinst
  rcases hres with rfl|rfl
  ·rw [if_pos rfl] at hg'
   (try simp -implicitDefEqProofs [h,b0,b1,bs1,←hP])
   refine Ab hpr ?_
   (try simp -implicitDefEqProofs [b0,b1,bs1,←hP])
   refine Ab hinst ?_
   (try simp -implicitDefEqProofs [e3,←hP])
   refine⟨⟨i+1,ro⟩,⟨h,hg',by simp only [];omega⟩,by simp only [];omega,?_⟩
   simp [hle,Db,E.leB,A3,okNs,okN,hrc',hpc2,Src.l]
  ·rw [if_neg (by decide)] at hg'
   rw [←hg']
   (try simp -implicitDefEqProofs [h,b0,b1,bs1,←hP])
   refine Ab hpr ?_
   (try simp -implicitDefEqProofs [b0,b1,bs1,←hP])
   refine Ab hinst ?_
   (try simp -implicitDefEqProofs [e3,←hP,psV,T9])
   exact hdrop _ _
 ·have hin:i=n:=by omega
  subst hin
  rw [List.drop_of_length_le (by simp)] at hg
  have hg':(outs,(0:Int))=R:=hg
  rw [←hg']
  (try simp -implicitDefEqProofs [b0,b1,bs1,←hP,psV,T9,Db])
  exact hdrop _ _
end Go.Proofs.YtmlpmdccfmmpoaaGreat
