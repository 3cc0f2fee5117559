/- Chapter 35: the postings of one rule, collected in a buffer. -/
import Derived.Test.YtmlpmdccfmmpoaaGreatLcB
set_option linter.unusedSimpArgs false
set_option linter.unusedVariables false
set_option maxHeartbeats 4000000
set_option maxRecDepth 8000
namespace Go.Proofs.YtmlpmdccfmmpoaaGreat
open E
attribute [local simp] Cw.reflU

structure ColP (T:List Nat) (B:List Bx) (R:List Posting×Int) (r:V) (S':St):Prop where
 st : ∃B' ov,S'=⟨B',T⟩∧OkU B'∧D2 B B' []∧r=.tup [ov,vI R.2]∧if R.2=0 then V5 ov R.1 B' else ov=.snil
structure CI where
 k:Nat
 o:List Posting
 ov:V
 B:List Bx
structure CI.Ok (P rf:Nat) (rcaps:List V) (B0:List Bx) (R:List Posting×Int) (X:CI):Prop where
 k:X.k≤1
 z:X.k=0→X.o=[]∧X.ov=.snil∧X.B=B0++[.cells [.fn (.func rf) rcaps],.cells [.snil]]
 s:X.k=1→(X.o,(0:Int))=R
 U:OkU X.B
 cel:X.B[P+1]?=some (.cells [X.ov])
 out:V5 X.ov X.o X.B
 kept:D2 B0 X.B []
theorem R2 {T:List Nat} (pf rf:Nat) (pcaps rcaps:List V) (B0:List Bx) (hU:OkU B0) (l:List Src) (pair:Bool) (inst:Src→Int→Option Posting) (hl:l.length≤100) (hpc : ∀k m,B0.length≤k→okNs k m pcaps=true) (hrc : ∀k m,B0.length≤k→okNs k m rcaps=true)
  (hpair : ∀C:List Bx,OkU (B0++C)→FnS Tryz.prog pf ([vI 0]++pcaps) ⟨B0++C,T⟩ (vB pair) ⟨B0++C,T⟩)
  (hrun : ∀(B:List Bx) (b mb:Nat) (s:Src) (oth:Int),OkU B→D2 B0 B []→s∈l→s.full=true→(if pair=true then ∃t∈l,t.full=true∧t.ent=oth∧t.ent≠s.ent else oth = -1)→B[b]?=some (.cells (mC s oth .snil mb 0))→B[mb]?=some (.mp [])→
   FnS Tryz.prog rf ([.ptr b 0,vI 0]++rcaps) ⟨B,T⟩ (peV (D9 (inst s oth))) ⟨(B.set mb .dead).set b .dead,T⟩) :
  FnE Tryz.prog 27 [Src.l l,vI 1,.fn (.func pf) pcaps,.fn (.func rf) rcaps] ⟨B0,T⟩ (ColP T B0 (Am [] (l.flatMap (Bp inst l pair)))):=by
 obtain⟨R,hR⟩ : ∃R,R=Am [] (l.flatMap (Bp inst l pair)):=⟨_,rfl⟩
 rw [←hR]
 obtain⟨P,hP⟩ : ∃P,P=B0.length:=⟨_,rfl⟩
 have b0 : ∀l:List Bx,(B0++l)[P]?=l[0]?:=fun l=>by rw [List.getElem?_append_right (by omega)];congr 1;omega
 have b1 : ∀(l:List Bx) (j:Nat),(B0++l)[P+j]?=l[j]?:=fun l j=>by rw [List.getElem?_append_right (by omega)];congr 1;omega
 have bs1 : ∀(l:List Bx) (j:Nat) (v:Bx),(B0++l).set (P+j) v=B0++l.set j v:=fun l j v=>by rw [List.set_append_right _ _ (by omega)];congr 2;omega
 have hUX : ∀ov:V,(∀k m,P+3≤k→okN k m ov=true)→∀k m,P+3≤k→A6 k m (B0++[.cells [.fn (.func rf) rcaps],.cells [ov],.cells [vI 0]]) (B0++[.cells [.fn (.func rf) rcaps],.cells [ov],.cells [vI 0]]):=fun ov ho k m hk=>
  (A6.appU (hU k m (by omega))).2 ⟨⟨A3 _,by simp [okNs,okN,hrc k m (by omega)]⟩,⟨A3 _,by simp [okNs,ho k m hk]⟩,⟨A3 _,rfl⟩,trivial⟩
 have hU2:OkU (B0++[.cells [.fn (.func rf) rcaps],.cells [.snil]]):=fun k m hk=>(A6.appU (hU k m (by simp at hk;omega))).2 ⟨⟨A3 _,by simp at hk;simp [okNs,okN,hrc k m (by omega)]⟩,⟨A3 _,rfl⟩,trivial⟩
 (refine FnE.of_code mix Tryz.call27 k_27 (by simp) (fun hB=>?_);(try simp at hB);(try simp -implicitDefEqProofs))
 (try simp -implicitDefEqProofs [b0,b1,bs1,←hP])
 refine Ac (X:=CI) (fun X=>X.Ok P rf rcaps B0 R)
  (fun X=>[(0,Src.l l),(2,.fn (.func pf) pcaps),(7,.ptr P 0),(10,.ptr (P+1) 0),(13,vI 1),(14,vI X.k)]) (fun X=>⟨X.B,T⟩) (fun X=>1-X.k) ⟨0,[],.snil,B0++[.cells [.fn (.func rf) rcaps],.cells [.snil]]⟩
  ⟨by simp,fun _=>⟨rfl,rfl,rfl⟩,by simp,hU2,by rw [b1];rfl,.inl ⟨rfl,rfl⟩,(D2.refl B0 []).app _⟩ ?hs ?_
 case hs=>
  have h9:=hU2 (P+2) T.length (by simp;omega)
  simp [Src.l,okN,okNs,hpc (P+2) T.length (by omega),←hP] at h9 ⊢
  exact h9
 rintro ⟨k,o,ov,B⟩ ⟨hk,hz,hs,hBU,hcel,hout,hkp⟩ hbd
 simp only [] at hk hz hs hBU hcel hout hkp
 clear hbd
 rcases (by omega:k=0∨k=1) with rfl|rfl
 ·obtain⟨rfl,rfl,rfl⟩:=hz rfl
  have hW:=hUX .snil (fun _ _ _=>rfl)
  have hcb:CB P rf rcaps 0 [] .snil (B0++[.cells [.fn (.func rf) rcaps],.cells [.snil],.cells [vI 0]]):=⟨fun n m hn=>hW n m (by simp at hn;omega),by rw [b0];rfl,by rw [b1];rfl,by rw [b1];rfl,.inl ⟨rfl,rfl⟩⟩
  have hkB : ∀B:List Bx,D2 (B0++[.cells [.fn (.func rf) rcaps],.cells [.snil],.cells [vI 0]]) B [P+1]→D2 B0 B []:=fun B h=>⟨by have:=h.1;simp at this;omega,fun j x hj _=>h.2 j x (Ad hj _) (by have:=A5 hj;simp;omega)⟩
  have hinst:=X9 (T:=T) (P:=P) (rf:=rf) (rcaps:=rcaps) (rule:=0) l pair inst hl hcb (by simp) (fun o ov B b mb s oth h1 h2 h3 h4 h5 h6 h7 h8 h9=>X8 h1 h3 (inst s oth) h8 h9 (by simp at h7;omega) (hrun B b mb s oth h1.U (hkB B h2) h4 h5 h6 h8 h9))
  rw [←hR] at hinst
  have hpr:=hpair [.cells [.fn (.func rf) rcaps],.cells [.snil],.cells [vI 0]] (fun n m hn=>hW n m (by simp at hn;omega))
  (try simp -implicitDefEqProofs [b0,b1,bs1,←hP])
  refine Ab hpr ?_
  (try simp -implicitDefEqProofs [b0,b1,bs1,←hP])
  refine Rn hinst ?_
  rintro r S' ⟨rfl,B',ov',rfl,hcb',hk'⟩
  rcases K6 (l.flatMap (Bp inst l pair)) [] with he|he
  ·rw [←hR] at he
   rw [he]
   (try simp -implicitDefEqProofs)
   refine⟨⟨1,R.1,ov',B'⟩,⟨by simp,by simp,fun _=>by rw [←he],hcb'.U,hcb'.cel,hcb'.out,hkB B' hk'⟩,by simp,?_⟩
   have h8:=hcb'.U B'.length T.length (Nat.le_refl _)
   have h7:=(hkB B' hk').1
   have h6:=A5 hcb'.cel
   simp [Src.l,okN,hpc B'.length T.length h7,h8]
   omega
  ·rw [←hR] at he
   rw [he]
   (try simp -implicitDefEqProofs)
   have h8:=hcb'.U B'.length T.length (Nat.le_refl _)
   have h7:=(hkB B' hk').1
   exact⟨_,⟨B',T⟩,⟨B',.snil,rfl,hcb'.U,hkB B' hk',by rw [he],by rw [if_neg (by rw [he];decide)]⟩,.inl (by simp [h8,okN,okNs];omega)⟩
 ·have hs:=hs rfl
  have h8:=hBU B.length T.length (Nat.le_refl _)
  have h7:=hkp.1
  have h6:=A5 hcel
  (try simp -implicitDefEqProofs [hcel])
  refine⟨.tup [ov,vI 0],⟨B,T⟩,⟨B,ov,rfl,hBU,hkp,by rw [←hs],by rw [←hs,if_pos rfl];exact hout⟩,.inl ?_⟩
  rcases hout with ⟨rfl,_⟩|⟨kb,rfl,hkb⟩
  ·simp [h8,okN,okNs];omega
  ·have:=A5 hkb
   simp [h8,okN,okNs];omega
end Go.Proofs.YtmlpmdccfmmpoaaGreat
