/- Chapter 35: all instances of some rules. -/
import Derived.Test.YtmlpmdccfmmpoaaGreatExT
import Derived.Test.YtmlpmdccfmmpoaaGreatSlices
set_option linter.unusedSimpArgs false
set_option linter.unusedVariables false
set_option maxHeartbeats 4000000
set_option maxRecDepth 8000
namespace Go.Proofs.YtmlpmdccfmmpoaaGreat
open E

theorem Yn (b c:Nat) (l:List T):(l.map V.t).map (ren b c)=l.map V.t:=by
 induction l with
 | nil=>rfl
 | cons x l ih=>simp only [List.map_cons,ih];rfl
theorem Wx (b mb:Nat) (c:Code) (rule:Int) (S:St) (s:Src) (oth:Int) (hs:s.Ok) (hb:S.boxes[b]?=some (.cells (mC s oth .snil mb 0))) (hmb:S.boxes[mb]?=some (.mp [])) (hval:(Cc c).2=true) (hlen:c.ins.length≤8000) (hpair:c.pair=true→0≤oth) :
  FnS Tryz.prog 30 [.ptr b 0,c.v,vI rule] S (peV (Cj s oth rule (Ay s oth c.ins [] [] []))) { S with boxes:=(S.boxes.set mb .dead).set b .dead }:=by
 have hne:mb≠b:=fun e=>by rw [e,hb] at hmb;cases hmb
 refine FnS.lift2 (by simp [peV,pV,era,eras]) hb hmb ?_
 have e1:(mC s oth .snil mb 0).map (ren b mb)=mC s oth .snil 1 0:=by
  unfold mC
  simp [ren,hne]
 have e2:[V.ptr b 0,c.v,vI rule].map (ren b mb)=[.ptr 0 0,c.v,vI rule]:=by
  have:ren b mb c.v=c.v:=by
   show ren b mb (.agg (c.c.map .t))=_
   simp only [ren,Hu,Yn]
  simp only [List.map_cons,List.map_nil,this]
  simp [ren]
 rw [e1,e2]
 have:=T7 0 1 c rule [.cells (mC s oth .snil 1 0),.mp []] (fun n m hn=>⟨⟨A3 _,by unfold mC;simp [okNs,okN];simp at hn;omega⟩,D1 [],trivial⟩) s oth hs rfl rfl hval hlen hpair
 exact this
def OkT (S:St):Prop:=∀n m,S.boxes.length≤n→S.toks.length≤m→A6 n m S.boxes S.boxes
theorem Cw.reflU : ∀(K:List Nat),Cw K K
 | []=>trivial
 | _::K=>⟨rfl,Cw.reflU K⟩
theorem OkT.S {S:St} (h:OkT S):OkS S:=⟨h _ _ (Nat.le_refl _) (Nat.le_refl _),Cw.reflU _⟩
def D9 (r:Option Posting):Posting×Int:=match r with
 | none=>(B7,2)
 | some p=>(p,0)
theorem K3 (c:Code) (s:Src) (oth rule:Int):Cj s oth rule (Ay s oth c.ins [] [] [])=D9 (B9 c s oth rule):=by
 unfold Cj B9 D9
 cases Ay s oth c.ins [] [] []<;>rfl
theorem T8 (cb b mb i:Nat) (cs:List Code) (c:Code) (S:St) (hS:OkT S) (s:Src) (oth:Int) (hs:s.Ok) (hcb:S.boxes[cb]?=some (.cells [Code.l cs])) (hc:cs[i]?=some c) (hb:S.boxes[b]?=some (.cells (mC s oth .snil mb 0))) (hmb:S.boxes[mb]?=some (.mp [])) (hval:(Cc c).2=true) (hlen:c.ins.length≤8000) (hpair:c.pair=true→0≤oth) :
  FnS Tryz.prog 29 [.ptr b 0,vI i,.ptr cb 0] S (peV (D9 (B9 c s oth i))) { S with boxes:=(S.boxes.set mb .dead).set b .dead }:=by
 rw [←K3]
 obtain⟨L,tk⟩:=S
 simp only [] at hcb hb hmb
 have hbl:=A5 hb
 have hml:=A5 hmb
 have hci:=A5 hc
 have hrun:=fun (x:Bx)=>Wx b mb c i ⟨L++[x],tk⟩ s oth hs (Ad hb _) (Ad hmb _) hval hlen hpair
 have hset : ∀l:List Bx,((L++l).set mb .dead).set b .dead=(L.set mb .dead).set b .dead++l:=fun l=>by
  rw [List.set_append_left _ _ hml,List.set_append_left _ _ (by simpa using hbl)]
 simp only [hset] at hrun
 obtain⟨Z,hZ⟩ : ∃Z,Z=(L.set mb .dead).set b .dead:=⟨_,rfl⟩
 have hZl:Z.length=L.length:=by rw [hZ];simp
 have hZle : ∀l:List Bx,A6 L.length tk.length (Z++l) Z:=fun l=>by
  rw [hZ]
  exact A6.ext l (A6.set (show E.leB _ _ .dead .dead from trivial) b (A6.set (show E.leB _ _ .dead .dead from trivial) mb (hS _ _ (Nat.le_refl _) (Nat.le_refl _))))
 simp only [←hZ] at hrun ⊢
 have hcE : ∀l:List Bx,(L++l)[cb]?=some (.cells [Code.l cs]):=fun l=>Ad hcb l
 have hcc:(cs.map Code.c)[i]?=some c.c:=by simp [hc]
 have hcc' : ∀h,(cs.map Code.c)[i]'h=c.c:=fun h=>by rw [List.getElem?_eq_getElem h] at hcc;exact Option.some.inj hcc
 have z0 : ∀(l:List Bx),(Z++l)[L.length]?=l[0]?:=fun l=>by rw [List.getElem?_append_right (by omega)];congr 1;omega
 have z1 : ∀(l:List Bx) (v:Bx),(Z++l).set L.length v=Z++l.set 0 v:=fun l v=>by rw [List.set_append_right _ _ (by omega)];congr 2;omega
 obtain⟨r,hr⟩ : ∃r,r=Cj s oth i (Ay s oth c.ins [] [] []):=⟨_,rfl⟩
 rw [←hr] at hrun ⊢
 obtain⟨⟨p1,p2,p3,p4,p5⟩,p6⟩:=r
 unfold peV pV at hrun ⊢
 obtain⟨cn,cp,ins⟩:=c
 (refine FnS.of_code mix Tryz.call29 k_29 (by simp) (fun hB=>?_);(try simp at hB);(try simp -implicitDefEqProofs))
 (try simp -implicitDefEqProofs [hcE,hcc,hcc',Code.l,Code.c,hci])
 refine Ab (hrun _) ?_
 (try simp -implicitDefEqProofs [z0,z1])
 refine⟨by omega,?_⟩
 rw [hZl]
 exact⟨hZle _,Cw.reflU _⟩
theorem A6.split {n m:Nat} : ∀{A X:List Bx},A6 n m (A++X) (A++X)→A6 n m A A∧A6 n m X X
 | [],_,h=>⟨trivial,h⟩
 | a::A,X,h=>by
  have:=A6.split (A:=A) (X:=X) h.2
  exact⟨⟨h.1,this.1⟩,this.2⟩
def Am:List Posting→List (Option Posting)→List Posting×Int
 | outs,[]=>(outs,0)
 | outs,none::_=>(outs,2)
 | outs,some p::l=>Am (if p.parts=[] then outs else outs++[p]) l
def Db (outs:List Posting):V:=.own 0 43 5 (outs.map Posting.c)
theorem Wy (rf:Nat) (rcaps:List V) (rule:Int) (A C:List Bx) (outs:List Posting) (b mb:Nat) (r:Option Posting) (hU : ∀n m,(A++.cells [.fn (.func rf) rcaps]::.cells [Db outs]::.cells [vI rule]::C).length≤n→1≤m→A6 n m (A++.cells [.fn (.func rf) rcaps]::.cells [Db outs]::.cells [vI rule]::C) (A++.cells [.fn (.func rf) rcaps]::.cells [Db outs]::.cells [vI rule]::C))
  (ho:outs.length≤1000000)
  (hb:A.length+3≤b) (hbl:b<A.length+3+C.length) (hm:A.length+3≤mb) (hml:mb<A.length+3+C.length)
  (hrun:FnS Tryz.prog rf ([.ptr b 0,vI rule]++rcaps) ⟨A++.cells [.fn (.func rf) rcaps]::.cells [Db outs]::.cells [vI rule]::C,[outs.length]⟩ (peV (D9 r)) ⟨((A++.cells [.fn (.func rf) rcaps]::.cells [Db outs]::.cells [vI rule]::C).set mb .dead).set b .dead,[outs.length]⟩) :
  FnS Tryz.prog 46 [.ptr b 0,.ptr A.length 0,.ptr (A.length+2) 0,.ptr (A.length+1) 0] ⟨A++.cells [.fn (.func rf) rcaps]::.cells [Db outs]::.cells [vI rule]::C,[outs.length]⟩ (vI (Am outs [r]).2)
   ⟨A++.cells [.fn (.func rf) rcaps]::.cells [Db (Am outs [r]).1]::.cells [vI rule]::(C.set (mb-(A.length+3)) .dead).set (b-(A.length+3)) .dead,[(Am outs [r]).1.length]⟩:=by
 obtain⟨j,rfl⟩ : ∃j,b=A.length+(j+3):=⟨b-(A.length+3),by omega⟩
 obtain⟨j',rfl⟩ : ∃j',mb=A.length+(j'+3):=⟨mb-(A.length+3),by omega⟩
 have e1:A.length+(j+3)-(A.length+3)=j:=by omega
 have e2:A.length+(j'+3)-(A.length+3)=j':=by omega
 rw [e1,e2]
 have a0 : ∀l:List Bx,(A++l)[A.length]?=l[0]?:=fun l=>by rw [List.getElem?_append_right (by omega)];congr 1;omega
 have a1 : ∀(l:List Bx) (j:Nat),(A++l)[A.length+j]?=l[j]?:=fun l j=>by rw [List.getElem?_append_right (by omega)];congr 1;omega
 have s1 : ∀(l:List Bx) (j:Nat) (v:Bx),(A++l).set (A.length+j) v=A++l.set j v:=fun l j v=>by rw [List.set_append_right _ _ (by omega)];congr 2;omega
 have c0 : ∀(l:List Bx),(C++l)[C.length]?=l[0]?:=fun l=>by rw [List.getElem?_append_right (by omega)];congr 1;omega
 rw [s1,s1] at hrun
 simp only [List.set_cons_succ] at hrun
 obtain⟨C',hC'⟩ : ∃C',C'=(C.set j' .dead).set j .dead:=⟨_,rfl⟩
 have hCl:C'.length=C.length:=by rw [hC'];simp
 rw [←hC'] at hrun ⊢
 have c2 : ∀(l:List Bx),(C'++l)[C.length]?=l[0]?:=fun l=>by rw [List.getElem?_append_right (by omega)];congr 1;omega
 have c3 : ∀(l:List Bx) (v:Bx),(C'++l).set C.length v=C'++l.set 0 v:=fun l v=>by rw [List.set_append_right _ _ (by omega)];congr 2;omega
 have hle : ∀(v:V) (l:List Bx) n m,A.length+3+C.length≤n→1≤m→okN n m v=true→A6 n m (A++.cells [.fn (.func rf) rcaps]::.cells [v]::.cells [vI rule]::(C'++l)) (A++.cells [.fn (.func rf) rcaps]::.cells [v]::.cells [vI rule]::C'):=fun v l n m hn hm hv=>by
  obtain⟨q1,q2,q3,q4,q5⟩:=A6.split (hU n m (by simp;omega) hm)
  refine (A6.appU q1).2 ⟨q2,⟨A3 _,by simp [okNs,hv]⟩,q4,?_⟩
  rw [hC']
  exact A6.ext l (A6.set (show E.leB _ _ .dead .dead from trivial) j (A6.set (show E.leB _ _ .dead .dead from trivial) j' q5))
 cases r with
 | none=>
  have hg:Am outs [none]=(outs,2):=rfl
  rw [hg]
  simp only [D9,peV,pV,B7] at hrun
  (refine FnS.of_code mix Tryz.call46 k_46 (by simp) (fun hB=>?_);(try simp at hB);(try simp -implicitDefEqProofs))
  (try simp -implicitDefEqProofs [a0,a1,s1])
  refine Ab hrun ?_
  (try simp -implicitDefEqProofs [a0,a1,s1,c0,c2,c3])
  exact⟨by omega,hle _ _ _ _ (by omega) (by omega) (by simp [Db,okN])⟩
 | some p=>
  obtain⟨p1,p2,p3,p4,p5⟩:=p
  simp only [D9,peV,pV] at hrun
  by_cases h5:p5=[]
  ·subst h5
   have hg:Am outs [some ⟨p1,p2,p3,p4,[]⟩]=(outs,0):=rfl
   rw [hg]
   (refine FnS.of_code mix Tryz.call46 k_46 (by simp) (fun hB=>?_);(try simp at hB);(try simp -implicitDefEqProofs))
   (try simp -implicitDefEqProofs [a0,a1,s1])
   refine Ab hrun ?_
   (try simp -implicitDefEqProofs [a0,a1,s1,c0,c2,c3])
   exact⟨by omega,hle _ _ _ _ (by omega) (by omega) (by simp [Db,okN])⟩
  ·have hg:Am outs [some ⟨p1,p2,p3,p4,p5⟩]=(outs++[⟨p1,p2,p3,p4,p5⟩],0):=by simp only [Am];rw [if_neg h5]
   have h6:0<p5.length:=List.length_pos_iff.2 h5
   rw [hg]
   (refine FnS.of_code mix Tryz.call46 k_46 (by simp) (fun hB=>?_);(try simp at hB);(try simp -implicitDefEqProofs))
   (try simp -implicitDefEqProofs [a0,a1,s1])
   refine Ab hrun ?_
   (try simp -implicitDefEqProofs [a0,a1,s1,c0,c2,c3,h6,Db,Posting.c])
   exact⟨⟨by unfold maxLen;omega,by omega⟩,by omega,hle _ _ _ _ (by omega) (by omega) (by simp [okN])⟩
end Go.Proofs.YtmlpmdccfmmpoaaGreat
