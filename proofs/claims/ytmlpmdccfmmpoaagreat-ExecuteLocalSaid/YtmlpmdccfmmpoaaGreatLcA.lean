/- Chapter 35: postings collected in a buffer. -/
import Derived.Test.YtmlpmdccfmmpoaaGreatExE
import Derived.Test.YtmlpmdccfmmpoaaGreatLit
set_option linter.unusedSimpArgs false
set_option linter.unusedVariables false
set_option maxHeartbeats 4000000
set_option maxRecDepth 8000
namespace Go.Proofs.YtmlpmdccfmmpoaaGreat
open E
attribute [local simp] Cw.reflU

def Gx (o:List Posting):Bx:=.buf 43 5 ((o.flatMap Posting.c).map .t)
def V5 (ov:V) (o:List Posting) (B:List Bx):Prop:=(ov=.snil∧o=[])∨∃kb,ov=.bw kb o.length∧B[kb]?=some (Gx o)
structure CB (P rf:Nat) (rcaps:List V) (rule:Int) (o:List Posting) (ov:V) (B:List Bx):Prop where
 U:OkU B
 run:B[P]?=some (.cells [.fn (.func rf) rcaps])
 cel:B[P+1]?=some (.cells [ov])
 rul:B[P+2]?=some (.cells [vI rule])
 out:V5 ov o B
def D2 (B B':List Bx) (l:List Nat):Prop:=B.length≤B'.length∧∀j x,B[j]?=some (.cells x)→j∉l→B'[j]?=some (.cells x)
theorem J7 (o:List Posting):(o.flatMap Posting.c).length=o.length*5:=by
 induction o with
 | nil=>rfl
 | cons x o ih=>simp only [List.flatMap_cons,List.length_append,ih,List.length_cons];simp [Posting.c];omega
theorem X8 {T:List Nat} {P rf:Nat} {rcaps:List V} {rule:Int} {o:List Posting} {ov:V} {B:List Bx} (h:CB P rf rcaps rule o ov B) (ho:o.length≤1000000) {b mb:Nat} (r:Option Posting) {s:Src} {oth:Int}
  (hb:B[b]?=some (.cells (mC s oth .snil mb 0))) (hmb:B[mb]?=some (.mp [])) (hbn:P+2<b)
  (hrun:FnS Tryz.prog rf ([.ptr b 0,vI rule]++rcaps) ⟨B,T⟩ (peV (D9 r)) ⟨(B.set mb .dead).set b .dead,T⟩) :
  ∃B' ov',FnS Tryz.prog 46 [.ptr b 0,.ptr P 0,.ptr (P+2) 0,.ptr (P+1) 0] ⟨B,T⟩ (vI (Am o [r]).2) ⟨B',T⟩∧CB P rf rcaps rule (Am o [r]).1 ov' B'∧D2 B B' [b,P+1]:=by
 have hbl:=A5 hb
 have hml:=A5 hmb
 have hne:mb≠b:=fun e=>by rw [e,hb] at hmb;cases hmb
 have hmn : ∀j x,B[j]?=some (.cells x)→j≠mb:=fun j x hj e=>by rw [e,hmb] at hj;cases hj
 obtain⟨Z,hZ⟩ : ∃Z,Z=(B.set mb .dead).set b .dead:=⟨_,rfl⟩
 have hZl:Z.length=B.length:=by rw [hZ];simp
 rw [←hZ] at hrun
 have hZg : ∀j x,B[j]?=some x→j≠b→j≠mb→Z[j]?=some x:=fun j x hj h1 h2=>by rw [hZ,List.getElem?_set_ne (Ne.symm h1),List.getElem?_set_ne (Ne.symm h2)];exact hj
 have z0:Z[P]?=some (.cells [.fn (.func rf) rcaps]):=hZg _ _ h.run (by omega) (hmn _ _ h.run)
 have z1:Z[P+1]?=some (.cells [ov]):=hZg _ _ h.cel (by omega) (hmn _ _ h.cel)
 have z2:Z[P+2]?=some (.cells [vI rule]):=hZg _ _ h.rul (by omega) (hmn _ _ h.rul)
 have hZU:OkU Z:=fun n m hn=>by
  rw [hZ]
  exact A6.set (show E.leB _ _ .dead .dead from trivial) b (A6.set (show E.leB _ _ .dead .dead from trivial) mb (h.U n m (by omega)))
 have c0:=h.run
 have c1:=h.cel
 have c2:=h.rul
 have zE : ∀(l:List Bx) (j:Nat) (x:Bx),Z[j]?=some x→(Z++l)[j]?=some x:=fun l j x hj=>Ad hj l
 have zz : ∀(l:List Bx),(Z++l)[B.length]?=l[0]?:=fun l=>by rw [List.getElem?_append_right (by omega)];congr 1;omega
 have zs : ∀(l:List Bx) (v:Bx),(Z++l).set B.length v=Z++l.set 0 v:=fun l v=>by rw [List.set_append_right _ _ (by omega)];congr 2;omega
 have hkZ : ∀j x,B[j]?=some (.cells x)→j∉[b,P+1]→Z[j]?=some (.cells x):=fun j x hj hn=>hZg _ _ hj (by simp at hn;exact hn.1) (hmn _ _ hj)
 have hoZ:V5 ov o Z:=h.out.imp id fun ⟨kb,e,hk⟩=>⟨kb,e,hZg _ _ hk (fun e=>by rw [e,hb] at hk;cases hk) (fun e=>by rw [e,hmb] at hk;cases hk)⟩
 cases r with
 | none=>
  have hg:Am o [none]=(o,2):=rfl
  rw [hg]
  simp only [D9,peV,pV,B7] at hrun
  refine⟨Z,ov,?_,⟨hZU,z0,z1,z2,?_⟩,by omega,hkZ⟩
  ·(refine FnS.of_codeB mix Tryz.call46 kb_46 (by simp) (fun hB=>?_);(try simp at hB);(try simp -implicitDefEqProofs))
   (try simp -implicitDefEqProofs [c0,c1,c2])
   refine Ab hrun ?_
   (try simp -implicitDefEqProofs [zE _ _ _ z1,zE _ _ _ z2,zz,zs])
   exact⟨by omega,A6.ext _ (hZU _ _ (Nat.le_refl _))⟩
  ·exact hoZ
 | some p=>
  obtain⟨p1,p2,p3,p4,p5⟩:=p
  simp only [D9,peV,pV] at hrun
  by_cases h5:p5=[]
  ·subst h5
   have hg:Am o [some ⟨p1,p2,p3,p4,[]⟩]=(o,0):=rfl
   rw [hg]
   refine⟨Z,ov,?_,⟨hZU,z0,z1,z2,?_⟩,by omega,hkZ⟩
   ·(refine FnS.of_codeB mix Tryz.call46 kb_46 (by simp) (fun hB=>?_);(try simp at hB);(try simp -implicitDefEqProofs))
    (try simp -implicitDefEqProofs [c0,c1,c2])
    refine Ab hrun ?_
    (try simp -implicitDefEqProofs [zE _ _ _ z1,zE _ _ _ z2,zz,zs])
    exact⟨by omega,A6.ext _ (hZU _ _ (Nat.le_refl _))⟩
   ·exact hoZ
  ·have hg:Am o [some ⟨p1,p2,p3,p4,p5⟩]=(o++[⟨p1,p2,p3,p4,p5⟩],0):=by simp only [Am];rw [if_neg h5]
   have h6:0<p5.length:=List.length_pos_iff.2 h5
   rw [hg]
   have hPl:P+1<Z.length:=A5 z1
   have hpU : ∀n m,E.leB n m (.cells ((Posting.mk p1 p2 p3 p4 p5).c.map .t)) (.cells ((Posting.mk p1 p2 p3 p4 p5).c.map .t)):=fun n m=>⟨A3 _,Ds n m _⟩
   have hbU : ∀n m,E.leB n m (Gx (o++[⟨p1,p2,p3,p4,p5⟩])) (Gx (o++[⟨p1,p2,p3,p4,p5⟩])):=fun n m=>⟨rfl,rfl,A3 _,Ds n m _⟩
   have hXU : ∀(X:List Bx) (m:Nat),OkU X→OkU (X.set (P+1) (.cells [.bw (X.length+1) m])++[.cells ((Posting.mk p1 p2 p3 p4 p5).c.map .t),Gx (o++[⟨p1,p2,p3,p4,p5⟩])]):=fun X m hX n k hn=>by
    simp at hn
    exact (A6.appU (A6.set (show E.leB n k (.cells [.bw (X.length+1) m]) (.cells [.bw (X.length+1) m]) from ⟨A3 _,by simp [okNs,okN];omega⟩) (P+1) (hX n k (by omega)))).2 ⟨hpU n k,hbU n k,trivial⟩
   have hkp : ∀(X l:List Bx) (v:Bx),Z.length≤X.length→(∀(j:Nat) (x:List V),Z[j]?=some (.cells x)→X[j]?=some (.cells x))→D2 B (X.set (P+1) v++l) [b,P+1]:=fun X l v hX hx=>by
    refine⟨by simp;omega,fun j x hj hn=>?_⟩
    have h9:=hx _ _ (hkZ j x hj hn)
    simp at hn
    refine Ad ?_ l
    rw [List.getElem?_set_ne (Ne.symm hn.2)];exact h9
   have zs2 : ∀(X l:List Bx) (v:Bx),P+1<X.length→(X++l).set (P+1) v=X.set (P+1) v++l:=fun X l v hx=>List.set_append_left _ _ hx
   rcases h.out with ⟨e1,e2⟩|⟨kb,e1,hkb⟩
   ·subst e1 e2
    refine⟨Z.set (P+1) (.cells [.bw (Z.length+1) 1])++[.cells ((Posting.mk p1 p2 p3 p4 p5).c.map .t),Gx ([]++[⟨p1,p2,p3,p4,p5⟩])],.bw (Z.length+1) 1,?_,?_⟩
    ·(refine FnS.of_codeB mix Tryz.call46 kb_46 (by simp) (fun hB=>?_);(try simp at hB);(try simp -implicitDefEqProofs))
     (try simp -implicitDefEqProofs [c0,c1,c2])
     refine Ab hrun ?_
     (try simp -implicitDefEqProofs [zE _ _ _ z1,zE _ _ _ z2,zz,zs,h6,Posting.c])
     rw [zs2 _ _ _ hPl]
     exact⟨by unfold maxLen;omega,by omega,hXU Z 1 hZU _ _ (by simp)⟩
    ·refine⟨⟨hXU Z 1 hZU,?_,?_,?_,.inr ⟨Z.length+1,rfl,?_⟩⟩,hkp Z _ _ (Nat.le_refl _) fun _ _ h=>h⟩
     ·refine Ad ?_ _;rw [List.getElem?_set_ne (by omega)];exact z0
     ·refine Ad ?_ _;rw [List.getElem?_set_self hPl]
     ·refine Ad ?_ _;rw [List.getElem?_set_ne (by omega)];exact z2
     ·rw [List.getElem?_append_right (by simp)];simp
   ·subst e1
    have hkZ:Z[kb]?=some (Gx o):=hZg _ _ hkb (fun e=>by rw [e,hb] at hkb;cases hkb) (fun e=>by rw [e,hmb] at hkb;cases hkb)
    have hkP:kb≠P+1:=fun e=>by rw [e,z1] at hkZ;cases hkZ
    obtain⟨cs,hcs⟩ : ∃cs:List V,cs=(o.flatMap Posting.c).map .t:=⟨_,rfl⟩
    have hcl:cs.length=o.length*5:=by rw [hcs,List.length_map,J7]
    have hct:cs.take (o.length*5)=cs:=List.take_of_length_le (by omega)
    have hkZ' : ∀l:List Bx,(Z++l)[kb]?=some (.buf 43 5 cs):=fun l=>by rw [Ad hkZ l,hcs];rfl
    have zk : ∀l l':List Bx,((Z++l).set kb .dead++l')[P+1]?=some (.cells [.bw kb o.length]):=fun l l'=>by
     have h9:(Z++l)[P+1]?=some (.cells [.bw kb o.length]):=zE l _ _ z1
     refine Ad ?_ l'
     rw [List.getElem?_set_ne hkP];exact h9
    have zk2 : ∀(l l':List Bx) (v:Bx),((Z++l).set kb .dead++l').set (P+1) v=(Z.set kb .dead).set (P+1) v++(l++l'):=fun l l' v=>by
     rw [List.set_append_left _ _ (by simp;omega),List.set_append_left _ _ (A5 hkZ),List.set_append_left _ _ (by simp;omega),List.append_assoc]
    refine⟨(Z.set kb .dead).set (P+1) (.cells [.bw (Z.length+1) (o.length+1)])++[.cells ((Posting.mk p1 p2 p3 p4 p5).c.map .t),Gx (o++[⟨p1,p2,p3,p4,p5⟩])],.bw (Z.length+1) (o.length+1),?_,?_⟩
    ·(refine FnS.of_codeB mix Tryz.call46 kb_46 (by simp) (fun hB=>?_);(try simp at hB);(try simp -implicitDefEqProofs))
     (try simp -implicitDefEqProofs [c0,c1,c2])
     refine Ab hrun ?_
     (try simp -implicitDefEqProofs [zE _ _ _ z1,zE _ _ _ z2,zz,zs,h6,Posting.c,hkZ',hcl,hct,zk,zk2])
     have hY:=hXU (Z.set kb .dead) (o.length+1) (fun n m hn=>A6.set (show E.leB n m .dead .dead from trivial) kb (hZU n m (by simpa using hn)))
     have hfin:=hY (Z.length+2) T.length (by simp)
     simp only [List.length_set] at hfin
     refine⟨⟨by unfold maxLen;omega,by omega⟩,by omega,?_⟩
     have e9:Gx (o++[⟨p1,p2,p3,p4,p5⟩])=.buf 43 5 (cs++[.t (.int .i64 p1),.t (.int .i64 p2),.t (.int .i64 p3),.t (.int .i64 p4),.t (.sl (p5.map Part.c))]):=by
      unfold Gx;rw [List.flatMap_append,List.map_append,←hcs];rfl
     rw [e9] at hfin ⊢
     exact hfin
    ·have hY:=hXU (Z.set kb .dead) (o.length+1) (fun n m hn=>A6.set (show E.leB n m .dead .dead from trivial) kb (hZU n m (by simpa using hn)))
     simp only [List.length_set] at hY
     have zd : ∀(j:Nat) (x:List V),Z[j]?=some (.cells x)→(Z.set kb .dead)[j]?=some (.cells x):=fun j x hj=>by
      rw [List.getElem?_set_ne (fun e=>by rw [←e,hkZ] at hj;cases hj)];exact hj
     refine⟨⟨hY,?_,?_,?_,.inr ⟨Z.length+1,by simp,?_⟩⟩,hkp (Z.set kb .dead) _ _ (by simp) zd⟩
     ·refine Ad ?_ _;rw [List.getElem?_set_ne (by omega)];exact zd _ _ z0
     ·refine Ad ?_ _;rw [List.getElem?_set_self (by simpa using hPl)]
     ·refine Ad ?_ _;rw [List.getElem?_set_ne (by omega)];exact zd _ _ z2
     ·rw [List.getElem?_append_right (by simp)];simp
end Go.Proofs.YtmlpmdccfmmpoaaGreat
