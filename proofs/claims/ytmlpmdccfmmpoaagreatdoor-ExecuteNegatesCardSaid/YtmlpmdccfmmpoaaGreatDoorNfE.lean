/- Chapter 35: postings whose parts lie in buffers, collected in a buffer. -/
import Derived.Test.YtmlpmdccfmmpoaaGreatDoorLit
import Derived.Test.YtmlpmdccfmmpoaaGreatDoorNfB
import Derived.Test.YtmlpmdccfmmpoaaGreatDoorExG
set_option linter.unusedSimpArgs false
set_option linter.unusedVariables false
set_option maxHeartbeats 4000000
set_option maxRecDepth 8000
namespace Go.Proofs.YtmlpmdccfmmpoaaGreatDoor
open E
attribute [local simp] Cv.reflU

theorem Pk (cb b mb i:Nat) (ps:List Rul) (r:Rul) (B:List Bx) (hU:OkU B) (s:Src) (oth:Int) (hs:s.Ok) (hcb:B[cb]?=some (.cells [Rul.l ps])) (hc:ps[i]?=some r) (hb:B[b]?=some (.cells (mC s oth .snil mb 0))) (hmb:B[mb]?=some (.mp [])) (hrb:D1 r=true) (pair:Bool) (hpo:pair=true→0≤oth) (hty : ∀x∈r.stmts,∃kn,(x.ex.inf kn pair).2=0) :
  FnE Tryz.prog 40 [.ptr b 0,vI i,.ptr cb 0] ⟨B,[]⟩ (FinN B [b,mb] (Dv (Bh r s oth i))):=by
 have hie:Dv (Bh r s oth i)=Bn s oth i (Ap s oth r.to [] r.stmts []):=by unfold Bh Dv Bn;cases Ap s oth r.to [] r.stmts []<;>rfl
 rw [hie]
 have hci:=A4 hc
 have hcc:(ps.map Rul.c)[i]?=some r.c:=by simp [hc]
 have hcc' : ∀h,(ps.map Rul.c)[i]'h=r.c:=fun h=>by rw [List.getElem?_eq_getElem h] at hcc;exact Option.some.inj hcc
 have hcE : ∀l:List Bx,(B++l)[cb]?=some (.cells [Rul.l ps]):=fun l=>Ae hcb l
 have hZ : ∀x:List V,(∀n m,okNs n m x=true)→OkU (B++[.cells x]):=fun x hx n m hn=>(A6.appU (hU n m (by simp at hn;omega))).2 ⟨⟨A3 _,hx n m⟩,trivial⟩
 have hrun:=fun (x:List V) (hx : ∀n m,okNs n m x=true)=>Sc b mb r i (B++[.cells x]) (hZ x hx) s oth hs (Ae hb _) (Ae hmb _) hrb pair hpo hty
 generalize Bn s oth i (Ap s oth r.to [] r.stmts [])=R0 at *
 obtain⟨nm,pr,ss,to⟩:=r
 (refine FnE.of_code mix Tryz.call40 k_40 (by simp) (fun hB=>?_);(try simp at hB);(try simp -implicitDefEqProofs))
 (try simp -implicitDefEqProofs [hcE,hcc,hcc',Rul.c,hci])
 refine Ke (hrun _ fun n m=>rfl) ?_
 rintro r S' ⟨B',pv,rfl,rfl,hpa,hBU,hkp⟩
 have hkP:=hkp.1
 simp at hkP
 have hbl:=A4 hb
 have hml:=A4 hmb
 have hq1:B'[B.length]?=some (.cells [vI 0,vI 0,vI 0,vI 0,.snil]):=hkp.2 _ _ (by rw [List.getElem?_append_right (by omega)];simp) (by simp;omega)
 have hq2 : ∀v,(B'.set B.length v)[B.length]?=some v:=fun v=>List.getElem?_set_self (by omega)
 have hpo2 : ∀n m,B'.length≤n→okN n m pv=true:=fun n m hn=>by
  rcases hpa with ⟨rfl,_⟩|⟨kb,rfl,_,hkb⟩
  ·rfl
  ·have:=A4 hkb
   simp [okN];omega
 obtain⟨⟨p1,p2,p3,p4,p5⟩,p6⟩:=R0
 obtain⟨V5,hV5⟩ : ∃V5:List V,V5=[vI p1,vI p2,vI p3,vI p4,pv]:=⟨_,rfl⟩
 have hfU:OkU (B'.set B.length (.cells V5)):=fun n m hn=>by
  simp at hn
  exact A6.set (show E.leB n m (.cells V5) (.cells V5) from ⟨A3 _,by rw [hV5];simp [okNs,okN,hpo2 n m hn]⟩) B.length (hBU n m hn)
 have hfinal2:FinN B [b,mb] (⟨p1,p2,p3,p4,p5⟩,p6) (.tup [pVN ⟨p1,p2,p3,p4,p5⟩ pv,vI p6]) ⟨B'.set B.length (.cells V5),[]⟩:=by
  refine⟨_,pv,rfl,rfl,?_,hfU,by simp;omega,fun j x hj hn=>?_⟩
  ·rcases hpa with h|⟨kb,e1,e2,e3⟩
   ·exact .inl h
   ·simp at e2
    exact .inr ⟨kb,e1,by omega,by rw [List.getElem?_set_ne (by omega)];exact e3⟩
  ·have hjl:=A4 hj
   rw [List.getElem?_set_ne (by omega)]
   exact hkp.2 j x (Ae hj _) hn
 rw [hV5] at hfinal2 hfU
 unfold pVN
 rcases hpa with ⟨rfl,_⟩|⟨kb,rfl,_,hkb⟩
 all_goals
  (try simp -implicitDefEqProofs [hq1,hq2])
  refine⟨_,_,hfinal2,.inl ?_⟩
  simp [hq2,pVN,okN,okNs]
  have hL5:=hfU B'.length 0 (by simp)
  first|exact⟨by omega,hL5⟩|exact⟨by omega,hL5,A4 hkb⟩
attribute [local simp] Cv.reflU

def A8e (o:List Posting):Bx:=.buf 75 5 ((o.flatMap Posting.c).map .t)
def A8f (ov:V) (o:List Posting) (B:List Bx):Prop:=(ov=.snil∧o=[])∨∃kb,ov=.bw kb o.length∧B[kb]?=some (A8e o)
structure CB (P rf:Nat) (rcaps:List V) (rule:Int) (o:List Posting) (ov:V) (B:List Bx):Prop where
 U:OkU B
 run:B[P]?=some (.cells [.fn (.func rf) rcaps])
 cel:B[P+1]?=some (.cells [ov])
 rul:B[P+2]?=some (.cells [vI rule])
 out:A8f ov o B
def Dw (B B':List Bx) (l:List Nat):Prop:=B.length≤B'.length∧∀j x,B[j]?=some (.cells x)→j∉l→B'[j]?=some (.cells x)
attribute [local simp] Cv.reflU

def Ay:List Posting→List Nat→List V
 | p::o,k::ks=>[vI p.kind,vI p.ent,vI p.oth,vI p.rule,.bw k p.parts.length]++Ay o ks
 | _,_=>[]
theorem Ga : ∀{o:List Posting} {ks:List Nat},ks.length=o.length→(Ay o ks).length=o.length*5
 | [],[],_=>rfl
 | p::o,k::ks,h=>by
  have ih:=Ga (o:=o) (ks:=ks) (by simpa using h)
  simp only [Ay,List.length_append,ih,List.length_cons,List.length_nil];omega
theorem Kn {p:Posting} {k:Nat} : ∀{o:List Posting} {ks:List Nat},ks.length=o.length→Ay (o++[p]) (ks++[k])=Ay o ks++[vI p.kind,vI p.ent,vI p.oth,vI p.rule,.bw k p.parts.length]
 | [],[],_=>rfl
 | q::o,j::ks,h=>by
  have ih:=Kn (p:=p) (k:=k) (o:=o) (ks:=ks) (by simpa using h)
  simp only [List.cons_append,Ay,ih,List.append_assoc]
structure PartsN (o:List Posting) (ks:List Nat) (B:List Bx):Prop where
 len:ks.length=o.length
 box : ∀(i:Nat) (p:Posting) (k:Nat),o[i]?=some p→ks[i]?=some k→B[k]?=some (Gg p.parts)
 inc:ks.Pairwise (· < ·)
def Um (ov:V) (o:List Posting) (B:List Bx):Prop:=(ov=.snil∧o=[])∨∃kb ks,ov=.bw kb o.length∧B[kb]?=some (.buf 75 5 (Ay o ks))∧PartsN o ks B
theorem PartsN.snoc {o:List Posting} {ks:List Nat} {B B':List Bx} {p:Posting} {k:Nat} (h:PartsN o ks B) (hk:B.length≤k) (hb:B'[k]?=some (Gg p.parts)) (hkeep : ∀(i j:Nat),ks[i]?=some j→B'[j]?=B[j]?):PartsN (o++[p]) (ks++[k]) B':=by
 have hlt : ∀j∈ks,j<B.length:=fun j hj=>by
  obtain⟨i,hi⟩:=List.mem_iff_getElem?.1 hj
  have hil:=(List.getElem?_eq_some_iff.1 hi).1
  obtain⟨q,hq⟩:=Aa (l:=o) (by rw [←h.len];exact hil)
  exact A4 (h.box i q j hq hi)
 refine⟨by simp [h.len],fun i q j hq hj=>?_,?_⟩
 ·rcases Nat.lt_or_ge i o.length with hl|hl
  ·rw [List.getElem?_append_left hl] at hq
   rw [List.getElem?_append_left (by rw [h.len];exact hl)] at hj
   rw [hkeep i j hj];exact h.box i q j hq hj
  ·rw [List.getElem?_append_right hl] at hq
   rw [List.getElem?_append_right (by rw [h.len];exact hl),h.len] at hj
   have:i-o.length=0:=by have:=(List.getElem?_eq_some_iff.1 hq).1;simp at this;omega
   rw [this] at hq hj
   simp at hq hj
   subst hq;subst hj;exact hb
 ·rw [List.pairwise_append]
  exact⟨h.inc,by simp,fun a ha c hc=>by simp at hc;subst hc;have:=hlt a ha;omega⟩
attribute [local simp] Cv.reflU

structure CN (P Q rf:Nat) (rcaps:List V) (rule:Int) (o:List Posting) (ov:V) (B:List Bx):Prop where
 U:OkU B
 run:B[P]?=some (.cells [.fn (.func rf) rcaps])
 cel:B[P+1]?=some (.cells [ov])
 rul:B[Q]?=some (.cells [vI rule])
 out:Um ov o B
 pq:P+1<Q
structure EachN (P Q rf:Nat) (rcaps:List V) (rule:Int) (R:List Posting×Int) (l:List Nat) (B0:List Bx) (r:V) (S':St):Prop where
 res:r=vI R.2
 st : ∃B' ov',S'=⟨B',[]⟩∧CN P Q rf rcaps rule R.1 ov' B'∧Dw B0 B' l
theorem Um.keep {ov:V} {o:List Posting} {B B':List Bx} (h:Um ov o B) (hk : ∀(j:Nat) (t:TypeId) (z:Nat) (cs:List V),B[j]?=some (Bx.buf t z cs)→B'[j]?=some (Bx.buf t z cs)):Um ov o B':=
 h.imp id fun ⟨kb,ks,e,hb,hp⟩=>⟨kb,ks,e,hk _ _ _ _ hb,hp.len,fun i p k h1 h2=>hk _ _ _ _ (hp.box i p k h1 h2),hp.inc⟩
theorem N0 (n m:Nat) : ∀a b:List V,okNs n m (a++b)=(okNs n m a&&okNs n m b)
 | [],b=>rfl
 | x::a,b=>by rw [List.cons_append,okNs,okNs,N0 n m a b,Bool.and_assoc]
theorem N1 {n m:Nat} : ∀{o:List Posting} {ks:List Nat},(∀j∈ks,j<n)→okNs n m (Ay o ks)=true
 | [],_,_=>rfl
 | _::_,[],_=>rfl
 | p::o,k::ks,h=>by
  rw [Ay,N0,N1 fun j hj=>h j (by simp [hj])]
  have:=h k (by simp)
  simp [okNs,okN,this]
theorem A67 {P Q rf:Nat} {rcaps:List V} {rule:Int} {o:List Posting} {ov:V} {B:List Bx} (h:CN P Q rf rcaps rule o ov B) (ho:o.length≤1000000) {b mb:Nat} (r:Option Posting) {s:Src} {oth:Int}
  (hb:B[b]?=some (.cells (mC s oth .snil mb 0))) (hmb:B[mb]?=some (.mp [])) (hbn:Q<b)
  (hrun:FnE Tryz.prog rf ([.ptr b 0,vI rule]++rcaps) ⟨B,[]⟩ (FinN B [b,mb] (Dv r))) :
  FnE Tryz.prog 85 [.ptr b 0,.ptr P 0,.ptr Q 0,.ptr (P+1) 0] ⟨B,[]⟩ (EachN P Q rf rcaps rule (Av o [r]) [b,P+1] B):=by
 have hbl:=A4 hb
 have hml:=A4 hmb
 have hmn : ∀j x,B[j]?=some (.cells x)→j≠mb:=fun j x hj e=>by rw [e,hmb] at hj;cases hj
 have hpq:=h.pq
 have c0:=h.run
 have c1:=h.cel
 have c2:=h.rul
 (refine FnE.of_codeB mix Tryz.call85 kb_85 (by simp) (fun hB=>?_);(try simp at hB);(try simp -implicitDefEqProofs))
 (try simp -implicitDefEqProofs [c0,c1,c2])
 refine Ke hrun ?_
 rintro r1 S' ⟨Z,pv,rfl,rfl,hpa,hZU,hkp⟩
 have hZl:=hkp.1
 have hZg : ∀j x,B[j]?=some x→j≠b→j≠mb→Z[j]?=some x:=fun j x hj h1 h2=>hkp.2 j x hj (by simp [h1,h2])
 have z0:Z[P]?=some (.cells [.fn (.func rf) rcaps]):=hZg _ _ h.run (by omega) (hmn _ _ h.run)
 have z1:Z[P+1]?=some (.cells [ov]):=hZg _ _ h.cel (by omega) (hmn _ _ h.cel)
 have z2:Z[Q]?=some (.cells [vI rule]):=hZg _ _ h.rul (by omega) (hmn _ _ h.rul)
 have hPl:P+1<Z.length:=A4 z1
 have zE : ∀(l:List Bx) (j:Nat) (x:Bx),Z[j]?=some x→(Z++l)[j]?=some x:=fun l j x hj=>Ae hj l
 have zz : ∀(l:List Bx),(Z++l)[Z.length]?=l[0]?:=fun l=>by rw [List.getElem?_append_right (by omega)];congr 1;omega
 have zs : ∀(l:List Bx) (v:Bx),(Z++l).set Z.length v=Z++l.set 0 v:=fun l v=>by rw [List.set_append_right _ _ (by omega)];congr 2;omega
 have hkZ : ∀j x,B[j]?=some (.cells x)→j∉[b,P+1]→Z[j]?=some (.cells x):=fun j x hj hn=>hZg _ _ hj (by simp at hn;exact hn.1) (hmn _ _ hj)
 have hbuf : ∀(j:Nat) (t:TypeId) (z:Nat) (cs:List V),B[j]?=some (Bx.buf t z cs)→Z[j]?=some (Bx.buf t z cs):=fun j t z cs hj=>hZg _ _ hj (fun e=>by rw [e,hb] at hj;cases hj) (fun e=>by rw [e,hmb] at hj;cases hj)
 have hoZ:Um ov o Z:=h.out.keep hbuf
 have hpvU : ∀n m,Z.length≤n→okN n m pv=true:=fun n m hn=>by
  rcases hpa with ⟨rfl,_⟩|⟨kb,rfl,_,hkb⟩
  ·rfl
  ·have:=A4 hkb
   simp [okN];omega
 cases r with
 | none=>
  have hg:Av o [none]=(o,2):=rfl
  rw [hg]
  simp only [Dv,pVN,Bb] at hpa ⊢
  have hp0:pv=.snil∨∃kb,pv=.bw kb 0:=hpa.imp And.left fun ⟨kb,e,_⟩=>⟨kb,e⟩
  rcases hp0 with rfl|⟨kb,rfl⟩
  all_goals
   (try simp -implicitDefEqProofs [zE _ _ _ z1,zE _ _ _ z2,zz,zs])
   refine⟨_,⟨Z,[]⟩,⟨rfl,Z,ov,rfl,⟨hZU,z0,z1,z2,hoZ,h.pq⟩,by omega,hkZ⟩,.inl ?_⟩
   simp
   exact⟨by omega,A6.ext _ (hZU _ _ (Nat.le_refl _))⟩
 | some p=>
  obtain⟨p1,p2,p3,p4,p5⟩:=p
  simp only [Dv,pVN] at hpa ⊢
  by_cases h5:p5=[]
  ·subst h5
   have hg:Av o [some ⟨p1,p2,p3,p4,[]⟩]=(o,0):=rfl
   rw [hg]
   have hp0:pv=.snil∨∃kb,pv=.bw kb 0:=hpa.imp And.left fun ⟨kb,e,_⟩=>⟨kb,e⟩
   rcases hp0 with rfl|⟨kb,rfl⟩
   all_goals
    (try simp -implicitDefEqProofs [zE _ _ _ z1,zE _ _ _ z2,zz,zs])
    refine⟨_,⟨Z,[]⟩,⟨rfl,Z,ov,rfl,⟨hZU,z0,z1,z2,hoZ,h.pq⟩,by omega,hkZ⟩,.inl ?_⟩
    simp
    exact⟨by omega,A6.ext _ (hZU _ _ (Nat.le_refl _))⟩
  ·have hg:Av o [some ⟨p1,p2,p3,p4,p5⟩]=(o++[⟨p1,p2,p3,p4,p5⟩],0):=by simp only [Av];rw [if_neg h5]
   have h6:0<p5.length:=List.length_pos_iff.2 h5
   rw [hg]
   obtain⟨kp,rfl,hkn,hkb⟩ : ∃kb,pv=.bw kb p5.length∧B.length≤kb∧Z[kb]?=some (Gg p5):=by
    rcases hpa with ⟨_,e⟩|h
    ·exact absurd e h5
    ·exact h
   have hkl:=A4 hkb
   have hPV : ∀n m,Z.length≤n→okNs n m [vI p1,vI p2,vI p3,vI p4,.bw kp p5.length]=true:=fun n m hn=>by simp [okNs,okN];omega
   obtain⟨PV,hPVe⟩ : ∃PV:List V,PV=[vI p1,vI p2,vI p3,vI p4,.bw kp p5.length]:=⟨_,rfl⟩
   rw [←hPVe] at hPV
   have hkp3 : ∀(X l:List Bx) (v:Bx),B.length≤X.length→(∀(j:Nat) (x:List V),Z[j]?=some (.cells x)→X[j]?=some (.cells x))→Dw B (X.set (P+1) v++l) [b,P+1]:=fun X l v hX hx=>by
    refine⟨by simp;omega,fun j x hj hn=>?_⟩
    have h9:=hx _ _ (hkZ j x hj hn)
    simp at hn
    refine Ae ?_ l
    rw [List.getElem?_set_ne (Ne.symm hn.2)];exact h9
   have hXU : ∀(X:List Bx) (m:Nat) (cs:List V),OkU X→X.length=Z.length→(∀n k,Z.length≤n→okNs n k cs=true)→OkU (X.set (P+1) (.cells [.bw (Z.length+2) m])++[.cells PV,.buf 75 5 PV,.buf 75 5 cs]):=fun X m cs hX hl hc n k hn=>by
    simp at hn
    exact (A6.appU (A6.set (show E.leB n k (.cells [.bw (Z.length+2) m]) (.cells [.bw (Z.length+2) m]) from ⟨A3 _,by simp [okNs,okN];omega⟩) (P+1) (hX n k (by omega)))).2 ⟨⟨A3 _,hPV n k (by omega)⟩,⟨rfl,rfl,A3 _,hPV n k (by omega)⟩,⟨rfl,rfl,A3 _,hc n k (by omega)⟩,trivial⟩
   have zs2 : ∀(X l:List Bx) (v:Bx),P+1<X.length→(X++l).set (P+1) v=X.set (P+1) v++l:=fun X l v hx=>List.set_append_left _ _ hx
   have hkpl:kp≠P+1:=fun e=>by rw [e,z1] at hkb;cases hkb
   rcases h.out with ⟨e1,e2⟩|⟨kb,ks,e1,hb1,hp1⟩
   ·subst e1 e2
    (try simp -implicitDefEqProofs [zE _ _ _ z1,zE _ _ _ z2,zz,zs,h6])
    refine⟨by unfold maxLen;omega,?_⟩
    rw [zs2 _ _ _ hPl]
    rw [←hPVe]
    have hU9:=hXU Z 1 PV hZU rfl hPV
    refine⟨_,⟨Z.set (P+1) (.cells [.bw (Z.length+2) 1])++[.cells PV,.buf 75 5 PV,.buf 75 5 PV],[]⟩,⟨rfl,_,.bw (Z.length+2) 1,rfl,⟨hU9,?_,?_,?_,.inr ⟨Z.length+2,[kp],rfl,?_,?_⟩,h.pq⟩,hkp3 Z _ _ hZl fun _ _ h=>h⟩,.inl ?_⟩
    ·refine Ae ?_ _;rw [List.getElem?_set_ne (by omega)];exact z0
    ·refine Ae ?_ _;rw [List.getElem?_set_self hPl]
    ·refine Ae ?_ _;rw [List.getElem?_set_ne (by omega)];exact z2
    ·rw [List.getElem?_append_right (by simp)];simp [Ay,hPVe]
    ·refine⟨rfl,fun i p k h1 h2=>?_,by simp⟩
     cases i with
     | zero=>
      simp at h1 h2
      subst h1;subst h2
      refine Ae ?_ _
      rw [List.getElem?_set_ne (Ne.symm hkpl)];exact hkb
     | succ i=>simp at h1
    ·simp
     exact⟨by omega,hU9 _ _ (by simp)⟩
   ·subst e1
    have hb1Z:=hbuf _ _ _ _ hb1
    have hb1E : ∀l:List Bx,(Z++l)[kb]?=some (.buf 75 5 (Ay o ks)):=fun l=>Ae hb1Z l
    have hcl:=Ga hp1.len
    have hct:(Ay o ks).take (o.length*5)=Ay o ks:=List.take_of_length_le (by omega)
    have hkP:kb≠P+1:=fun e=>by rw [e,z1] at hb1Z;cases hb1Z
    have hksl : ∀j∈ks,j<B.length:=fun j hj=>by
     obtain⟨i,hi⟩:=List.mem_iff_getElem?.1 hj
     have hil:=(List.getElem?_eq_some_iff.1 hi).1
     obtain⟨q,hq⟩:=Aa (l:=o) (by rw [←hp1.len];exact hil)
     exact A4 (hp1.box i q j hq hi)
    have zk : ∀l l':List Bx,((Z++l).set kb .dead++l')[P+1]?=some (.cells [.bw kb o.length]):=fun l l'=>by
     refine Ae ?_ l'
     rw [List.getElem?_set_ne hkP];exact zE l _ _ z1
    have zk2 : ∀(l l':List Bx) (v:Bx),((Z++l).set kb .dead++l').set (P+1) v=(Z.set kb .dead).set (P+1) v++(l++l'):=fun l l' v=>by
     rw [List.set_append_left _ _ (by simp;omega),List.set_append_left _ _ (A4 hb1Z),List.set_append_left _ _ (by simp;omega),List.append_assoc]
    (try simp -implicitDefEqProofs [zE _ _ _ z1,zE _ _ _ z2,zz,zs,h6,hb1E,zk,zk2,hct])
    refine⟨⟨by omega,by unfold maxLen;omega,by omega⟩,?_⟩
    rw [←hPVe]
    have hU9:=hXU (Z.set kb .dead) (o.length+1) (Ay o ks++PV) (fun n m hn=>A6.set (show E.leB n m .dead .dead from trivial) kb (hZU n m (by simpa using hn))) (by simp) (fun n k hn=>by rw [N0,N1 (fun j hj=>by have:=hksl j hj;omega),hPV n k hn];rfl)
    have zd : ∀(j:Nat) (x:List V),Z[j]?=some (.cells x)→(Z.set kb .dead)[j]?=some (.cells x):=fun j x hj=>by
     rw [List.getElem?_set_ne (fun e=>by rw [←e,hb1Z] at hj;cases hj)];exact hj
    have hkne : ∀(j:Nat) (cs:List V),Z[j]?=some (Bx.buf 77 2 cs)→∀(v:Bx) (l:List Bx),((Z.set kb .dead).set (P+1) v++l)[j]?=some (Bx.buf 77 2 cs):=fun j cs hj v l=>by
     refine Ae ?_ l
     rw [List.getElem?_set_ne (fun e=>by rw [←e,z1] at hj;cases hj),List.getElem?_set_ne (fun e=>by rw [←e,hb1Z] at hj;cases hj)];exact hj
    refine⟨_,⟨(Z.set kb .dead).set (P+1) (.cells [.bw (Z.length+2) (o.length+1)])++[.cells PV,.buf 75 5 PV,.buf 75 5 (Ay o ks++PV)],[]⟩,⟨rfl,_,.bw (Z.length+2) (o.length+1),rfl,⟨hU9,?_,?_,?_,.inr ⟨Z.length+2,ks++[kp],by simp,?_,?_⟩,h.pq⟩,hkp3 (Z.set kb .dead) _ _ (by simpa using hZl) zd⟩,.inl ?_⟩
    ·refine Ae ?_ _;rw [List.getElem?_set_ne (by omega)];exact zd _ _ z0
    ·refine Ae ?_ _;rw [List.getElem?_set_self (by simpa using hPl)]
    ·refine Ae ?_ _;rw [List.getElem?_set_ne (by omega)];exact zd _ _ z2
    ·rw [List.getElem?_append_right (by simp),Kn hp1.len];simp [hPVe]
    ·refine hp1.snoc hkn (hkne _ _ hkb _ _) fun i j hij=>?_
     obtain⟨q,hq⟩:=Aa (l:=o) (by rw [←hp1.len];exact A4 hij)
     have hq2:=hp1.box i q j hq hij
     rw [hq2]
     exact hkne _ _ (hbuf _ _ _ _ hq2) _ _
    ·simp
     exact⟨by omega,by have:=hU9 (Z.length+3) 0 (by simp);simpa using this⟩
end Go.Proofs.YtmlpmdccfmmpoaaGreatDoor
