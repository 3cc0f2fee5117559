/- Chapter 35: sound programs have good codes; plain. -/
import Derived.Test.YtmlpmdccfmmpoaaGreatDoorNfE
import Derived.Test.YtmlpmdccfmmpoaaGreatDoorCps
import Derived.Test.YtmlpmdccfmmpoaaGreatDoorVaO
set_option linter.unusedSimpArgs false
set_option linter.unusedVariables false
set_option maxHeartbeats 4000000
set_option maxRecDepth 8000
namespace Go.Proofs.YtmlpmdccfmmpoaaGreatDoor
open E
attribute [local simp] Cv.reflU

theorem CN.more {P Q rf:Nat} {rcaps:List V} {rule:Int} {o:List Posting} {ov:V} {B:List Bx} (h:CN P Q rf rcaps rule o ov B) (l:List Bx) (hl : ∀n m,B.length+l.length≤n→A6 n m l l):CN P Q rf rcaps rule o ov (B++l):=
 ⟨fun n m hn=>by rw [List.length_append] at hn;exact (A6.appU (h.U n m (by omega))).2 (hl n m hn),Ae h.run l,Ae h.cel l,Ae h.rul l,h.out.keep fun _ _ _ _ hj=>Ae hj l,h.pq⟩
theorem Dw.refl (B:List Bx) (l:List Nat):Dw B B l:=⟨Nat.le_refl _,fun _ _ h _=>h⟩
theorem Dw.app {B B':List Bx} {l:List Nat} (h:Dw B B' l) (X:List Bx):Dw B (B'++X) l:=⟨by have:=h.1;simp;omega,fun j x hj hn=>Ae (h.2 j x hj hn) X⟩
theorem Dw.trans {A B C:List Bx} {l:List Nat} {b:Nat} (h1:Dw A B l) (h2:Dw B C (b::l)) (hb:A.length≤b):Dw A C l:=
 ⟨Nat.le_trans h1.1 h2.1,fun j x hj hn=>h2.2 j x (h1.2 j x hj hn) (by have:=A4 hj;simp;exact⟨by omega,hn⟩)⟩
theorem mk3 (n m:Nat) (cs:List V) (hcs : ∀n m,okNs n m cs=true) (s:Src) (oth:Int) (k:Nat) (hk:k<n):A6 n m [.cells cs,.mp [],.cells (mC s oth .snil k 0)] [.cells cs,.mp [],.cells (mC s oth .snil k 0)]:=
 ⟨⟨A3 _,hcs n m⟩,Ea [],⟨A3 _,by unfold mC;simp [okNs,okN];omega⟩,trivial⟩
structure IN where
 k:Nat
 o:List Posting
 ov:V
 B:List Bx
structure IN.Ok (P Q rf:Nat) (rcaps:List V) (rule:Int) (B0:List Bx) (ob:Nat) (OB:List V) (R:List Posting×Int) (rest:Nat→List (Option Posting)) (n M z:Nat) (X:IN):Prop where
 k:X.k≤n
 g:Av X.o (rest X.k)=R
 len:X.o.length≤M+X.k*z
 cb:CN P Q rf rcaps rule X.o X.ov X.B
 kept:Dw B0 X.B [P+1]
 own:X.B[ob]?=some (.cells OB)
structure InsN (P Q rf:Nat) (rcaps:List V) (rule:Int) (R:List Posting×Int) (B0:List Bx) (r:V) (S':St):Prop where
 res:r=vI R.2
 st : ∃B' ov',S'=⟨B',[]⟩∧CN P Q rf rcaps rule R.1 ov' B'∧Dw B0 B' [P+1]
theorem A68 {P Q rf:Nat} {rcaps:List V} {rule:Int} (l:List Src) (pair:Bool) (inst:Src→Int→Option Posting) (hl:l.length≤100) {o0:List Posting} {ov0:V} {B0:List Bx} (h0:CN P Q rf rcaps rule o0 ov0 B0) (ho:o0.length≤900000)
  (heach : ∀(o:List Posting) (ov:V) (B:List Bx) (b mb:Nat) (s:Src) (oth:Int),CN P Q rf rcaps rule o ov B→Dw B0 B [P+1]→o.length≤1000000→s∈l→s.full=true→(if pair=true then ∃t∈l,t.full=true∧t.ent=oth∧t.ent≠s.ent else oth = -1)→B0.length≤b→
   B[b]?=some (.cells (mC s oth .snil mb 0))→B[mb]?=some (.mp [])→
   FnE Tryz.prog 85 [.ptr b 0,.ptr P 0,.ptr Q 0,.ptr (P+1) 0] ⟨B,[]⟩ (EachN P Q rf rcaps rule (Av o [inst s oth]) [b,P+1] B)) :
  FnE Tryz.prog 84 [Src.l l,vB pair,.fn (.func 85) [.ptr P 0,.ptr Q 0,.ptr (P+1) 0]] ⟨B0,[]⟩
   (InsN P Q rf rcaps rule (Av o0 (l.flatMap (Bw inst l pair))) B0):=by
 obtain⟨R,hR⟩ : ∃R,R=Av o0 (l.flatMap (Bw inst l pair)):=⟨_,rfl⟩
 rw [←hR]
 have hP2:=A4 h0.rul
 have hpq:=h0.pq
 (refine FnE.of_code mix Tryz.call84 k_84 (by simp) (fun hB=>?_);(try simp at hB);(try simp -implicitDefEqProofs))
 (try simp -implicitDefEqProofs)
 refine A7 (X:=IN) (fun X=>X.Ok P Q rf rcaps rule B0 P [.fn (.func rf) rcaps] R (fun k=>(l.drop k).flatMap (Bw inst l pair)) l.length o0.length 100)
  (fun X=>[(0,Src.l l),(1,vB pair),(2,.fn (.func 85) [.ptr P 0,.ptr Q 0,.ptr (P+1) 0]),(7,vI 0),(12,Src.l l),(13,vI l.length),(14,vI X.k)]) (fun X=>⟨X.B,[]⟩) (fun X=>l.length-X.k) ⟨0,o0,ov0,B0⟩ ⟨by simp,hR.symm,by simp,h0,Dw.refl _ _,h0.run⟩ ?hs ?_
 case hs=>
  simp [Src.l,okN,okNs]
  exact⟨h0.U _ _ (Nat.le_refl _),by omega⟩
 rintro ⟨k,o,ov,B⟩ ⟨hk,hg,hol,hcb,hkp,_⟩ hbd
 simp only [] at hk hg hol hcb hkp
 clear hbd
 have hk100:k*100≤10000:=by omega
 have e3:IntKind.i64.wrap ((k:Int)+1)=(k:Int)+1:=wrap64 (by omega) (by omega)
 have w0 : ∀(C:List Bx),(B++C)[B.length]?=C[0]?:=fun C=>by rw [List.getElem?_append_right (by omega)];congr 1;omega
 have w1 : ∀(C:List Bx) (j:Nat),(B++C)[B.length+j]?=C[j]?:=fun C j=>by rw [List.getElem?_append_right (by omega)];congr 1;omega
 have ws0 : ∀(C:List Bx) (v:Bx),(B++C).set B.length v=B++C.set 0 v:=fun C v=>by rw [List.set_append_right _ _ (by omega)];simp
 have ws1 : ∀(C:List Bx) (j:Nat) (v:Bx),(B++C).set (B.length+j) v=B++C.set j v:=fun C j v=>by rw [List.set_append_right _ _ (by omega)];congr 2;omega
 have hB0:=hkp.1
 rcases Nat.lt_or_ge k l.length with h|h
 ·obtain⟨s,hs⟩:=Aa h
  have hsm:s∈l:=List.mem_of_getElem? hs
  have hdr:l.drop k=s::l.drop (k+1):=by
   obtain⟨h1,h2⟩:=List.getElem?_eq_some_iff.1 hs
   rw [List.drop_eq_getElem_cons h1,h2]
  rw [hdr,List.flatMap_cons] at hg
  have hsc:(l.map Src.c)[k]?=some s.c:=by simp [hs]
  have hsc' : ∀h,(l.map Src.c)[k]'h=s.c:=fun h=>by rw [List.getElem?_eq_getElem h] at hsc;exact Option.some.inj hsc
  have hcc:s.c=[.int .i64 s.ent,.bool s.full,.bool (nB s.num),.sl (pE s.num),.bool (nB s.den),.sl (pE s.den),.sl (s.items.map Item.c)]:=rfl
  rw [hcc] at hsc hsc'
  by_cases hfull:s.full=true
  ·cases pair
   ·have ho1:Bw inst l false s=[inst s (-1)]:=by unfold Bw;rw [if_pos hfull];rfl
    rw [ho1,List.singleton_append,J8] at hg
    have hcall:=heach o ov (B++[.cells [vI s.ent,vB s.full,.t (.bool (nB s.num)),.t (.sl (pE s.num)),.t (.bool (nB s.den)),.t (.sl (pE s.den)),.t (.sl (s.items.map Item.c))],.mp [],.cells (mC s (-1) .snil (B.length+1) 0)]) (B.length+2) (B.length+1) s (-1)
     (hcb.more _ fun n m h1=>mk3 n m _ (fun _ _=>rfl) s _ _ (by simp at h1;omega)) (hkp.app _) (by omega) hsm hfull rfl (by omega) (by rw [w1];rfl) (by rw [w1];rfl)
    unfold mC at hcall
    simp only [hfull] at hcall
    have hgl:=Ja o (inst s (-1))
    (try simp -implicitDefEqProofs [h,hsc,hsc',Src.l,w0,w1,ws0,ws1,hfull])
    refine Ke hcall ?_
    rintro r S' ⟨rfl,B',ov',rfl,hcb',hkp'⟩
    have hkt:Dw B0 B' [P+1]:=(hkp.app _).trans hkp' (by omega)
    rcases J9 o (inst s (-1)) with he|he
    ·rw [if_pos he] at hg
     rw [he]
     (try simp -implicitDefEqProofs [e3])
     refine⟨⟨k+1,(Av o [inst s (-1)]).1,ov',B'⟩,⟨h,hg,by simp only [];omega,hcb',hkt,hcb'.run⟩,by simp only [];omega,?_⟩
     simp [Src.l,okN,okNs]
     refine⟨?_,hcb'.U _ _ (Nat.le_refl _),?_⟩<;>(have:=hkt.1;omega)
    ·rw [if_neg (by rw [he];decide)] at hg
     rw [he]
     rw [hg] at he hcb'
     (try simp -implicitDefEqProofs [e3,he])
     exact⟨_,⟨B',[]⟩,⟨by rw [he],B',ov',rfl,hcb',hkt⟩,.inl (by simp;exact⟨by have:=hkt.1;omega,hcb'.U _ _ (Nat.le_refl _)⟩)⟩
   ·have ho1:Bw inst l true s=l.flatMap (G7 inst s):=by unfold Bw;rw [if_pos hfull];rfl
    rw [ho1] at hg
    obtain⟨OB,hOB⟩ : ∃OB:List V,OB=[vI s.ent,vB s.full,.t (.bool (nB s.num)),.t (.sl (pE s.num)),.t (.bool (nB s.den)),.t (.sl (pE s.den)),.t (.sl (s.items.map Item.c))]:=⟨_,rfl⟩
    have hOBo : ∀n m,okNs n m OB=true:=fun n m=>by rw [hOB];rfl
    have hcb1:=hcb.more [.cells OB] (fun n m h1=>⟨⟨A3 _,hOBo n m⟩,trivial⟩)
    obtain⟨N,hN⟩ : ∃N,N=B.length:=⟨_,rfl⟩
    (try simp -implicitDefEqProofs [h,hsc,hsc',Src.l,w0,w1,ws0,ws1,hfull])
    refine A7 (X:=IN) (fun X=>X.Ok P Q rf rcaps rule B0 N OB R (fun j=>(l.drop j).flatMap (G7 inst s)++(l.drop (k+1)).flatMap (Bw inst l true)) l.length (o0.length+k*100) 1)
     (fun X=>[(0,Src.l l),(1,vB true),(2,.fn (.func 85) [.ptr P 0,.ptr Q 0,.ptr (P+1) 0]),(7,vI 0),(9,.ptr N 0),(12,Src.l l),(13,vI l.length),(14,vI k),(31,Src.l l),(32,vI l.length),(33,vI X.k)]) (fun X=>⟨X.B,[]⟩) (fun X=>l.length-X.k) ⟨0,o,ov,B++[.cells OB]⟩ ⟨by simp,by simpa using hg,by simp only [];omega,hcb1,hkp.app _,by rw [hN,w0];rfl⟩ ?hs2 ?_
    case hs2=>
     have h9:=hcb1.U (B.length+1) 0 (by simp)
     rw [hOB] at h9 ⊢
     simp [hfull,Src.l,okN,okNs,hN] at h9 ⊢
     refine⟨?_,h9,?_⟩<;>omega
    rintro ⟨j,o2,ov2,B2⟩ ⟨hj,hgo,holo,hcb2,hkp2,hown⟩ hbd
    simp only [] at hj hgo holo hcb2 hkp2 hown
    clear hbd
    have f3:IntKind.i64.wrap ((j:Int)+1)=(j:Int)+1:=wrap64 (by omega) (by omega)
    have v0 : ∀(C:List Bx),(B2++C)[B2.length]?=C[0]?:=fun C=>by rw [List.getElem?_append_right (by omega)];congr 1;omega
    have v1 : ∀(C:List Bx) (j:Nat),(B2++C)[B2.length+j]?=C[j]?:=fun C j=>by rw [List.getElem?_append_right (by omega)];congr 1;omega
    have vs0 : ∀(C:List Bx) (v:Bx),(B2++C).set B2.length v=B2++C.set 0 v:=fun C v=>by rw [List.set_append_right _ _ (by omega)];simp
    have vs1 : ∀(C:List Bx) (j:Nat) (v:Bx),(B2++C).set (B2.length+j) v=B2++C.set j v:=fun C j v=>by rw [List.set_append_right _ _ (by omega)];congr 2;omega
    have hB2:=hkp2.1
    have hNl:=A4 hown
    rw [hOB] at hown
    have hown' : ∀C:List Bx,(B2++C)[N]?=some (.cells [vI s.ent,vB s.full,.t (.bool (nB s.num)),.t (.sl (pE s.num)),.t (.bool (nB s.den)),.t (.sl (pE s.den)),.t (.sl (s.items.map Item.c))]):=fun C=>Ae hown C
    rcases Nat.lt_or_ge j l.length with g|g
    ·obtain⟨t,ht⟩:=Aa g
     have htm:t∈l:=List.mem_of_getElem? ht
     have hdr2:l.drop j=t::l.drop (j+1):=by
      obtain⟨h1,h2⟩:=List.getElem?_eq_some_iff.1 ht
      rw [List.drop_eq_getElem_cons h1,h2]
     rw [hdr2,List.flatMap_cons] at hgo
     have htc:(l.map Src.c)[j]?=some t.c:=by simp [ht]
     have htc' : ∀h,(l.map Src.c)[j]'h=t.c:=fun h=>by rw [List.getElem?_eq_getElem h] at htc;exact Option.some.inj htc
     have htt:t.c=[.int .i64 t.ent,.bool t.full,.bool (nB t.num),.sl (pE t.num),.bool (nB t.den),.sl (pE t.den),.sl (t.items.map Item.c)]:=rfl
     rw [htt] at htc htc'
     by_cases hcond:t.full=true∧t.ent≠s.ent
     ·have hol1:G7 inst s t=[inst s t.ent]:=by unfold G7;rw [if_pos hcond]
      rw [hol1,List.append_assoc,List.singleton_append,J8] at hgo
      have hne2:(t.ent==s.ent)=false:=by simpa using hcond.2
      have htf:=hcond.1
      have hcall:=heach o2 ov2 (B2++[.cells [vI t.ent,vB t.full,.t (.bool (nB t.num)),.t (.sl (pE t.num)),.t (.bool (nB t.den)),.t (.sl (pE t.den)),.t (.sl (t.items.map Item.c))],.mp [],.cells (mC s t.ent .snil (B2.length+1) 0)]) (B2.length+2) (B2.length+1) s t.ent
       (hcb2.more _ fun n m h1=>mk3 n m _ (fun _ _=>rfl) s _ _ (by simp at h1;omega)) (hkp2.app _) (by omega) hsm hfull ⟨t,htm,htf,rfl,hcond.2⟩ (by omega) (by rw [v1];rfl) (by rw [v1];rfl)
      unfold mC at hcall
      simp only [hfull,htf] at hcall
      have hgl:=Ja o2 (inst s t.ent)
      simp only [hfull] at hown hown'
      (try simp -implicitDefEqProofs [g,htc,htc',Src.l,hown,hown',v0,v1,vs0,vs1,htf,hne2])
      refine Ke hcall ?_
      rintro r S' ⟨rfl,B',ov',rfl,hcb',hkp'⟩
      have hown2:B'[N]?=some (.cells OB):=by rw [hOB];simpa [hfull] using hkp'.2 N _ (hown' _) (by simp;omega)
      have hkt:Dw B0 B' [P+1]:=(hkp2.app _).trans hkp' (by omega)
      rcases J9 o2 (inst s t.ent) with he|he
      ·rw [if_pos he] at hgo
       rw [he]
       (try simp -implicitDefEqProofs [f3])
       refine⟨⟨j+1,(Av o2 [inst s t.ent]).1,ov',B'⟩,⟨g,hgo,by simp only [];omega,hcb',hkt,hown2⟩,by simp only [];omega,?_⟩
       simp [Src.l,okN,okNs]
       refine⟨?_,hcb'.U _ _ (Nat.le_refl _),?_⟩<;>(have:=hkt.1;have:=A4 hown2;omega)
      ·rw [if_neg (by rw [he];decide)] at hgo
       rw [he]
       rw [hgo] at he hcb'
       (try simp -implicitDefEqProofs [f3,he])
       exact⟨_,⟨B',[]⟩,⟨by rw [he],B',ov',rfl,hcb',hkt⟩,.inl (by simp;exact⟨by have:=hkt.1;omega,hcb'.U _ _ (Nat.le_refl _)⟩)⟩
     ·have hol1:G7 inst s t=[]:=by unfold G7;rw [if_neg hcond]
      rw [hol1,List.nil_append] at hgo
      simp only [hfull] at hown hown'
      have hownO:B2[N]?=some (.cells OB):=by rw [hOB];simpa [hfull] using hown
      by_cases htf:t.full=true
      ·have hee:t.ent=s.ent:=Classical.byContradiction fun h=>hcond ⟨htf,h⟩
       rw [hee] at htc htc'
       (try simp -implicitDefEqProofs [g,htc,htc',Src.l,hown,hown',v0,v1,vs0,vs1,htf,hee,f3,hfull])
       refine⟨⟨j+1,o2,ov2,B2⟩,⟨g,hgo,by simp only [];omega,hcb2,hkp2,hownO⟩,by simp only [];omega,?_⟩
       simp [Src.l,okN,okNs]
       refine⟨?_,A6.ext _ (hcb2.U _ _ (Nat.le_refl _)),?_⟩<;>omega
      ·have htf0:t.full=false:=by simpa using htf
       (try simp -implicitDefEqProofs [g,htc,htc',Src.l,hown,hown',v0,v1,vs0,vs1,htf0,f3,hfull])
       refine⟨⟨j+1,o2,ov2,B2⟩,⟨g,hgo,by simp only [];omega,hcb2,hkp2,hownO⟩,by simp only [];omega,?_⟩
       simp [Src.l,okN,okNs]
       refine⟨?_,A6.ext _ (hcb2.U _ _ (Nat.le_refl _)),?_⟩<;>omega
    ·have hjj:j=l.length:=by omega
     subst hjj
     rw [List.drop_of_length_le (Nat.le_refl _)] at hgo
     (try simp -implicitDefEqProofs [g,Src.l,e3])
     refine⟨⟨k+1,o2,ov2,B2⟩,⟨h,hgo,by simp only [];omega,hcb2,hkp2,hcb2.run⟩,by simp only [];omega,?_⟩
     simp [Src.l,okN,okNs]
     refine⟨?_,hcb2.U _ _ (Nat.le_refl _),?_⟩<;>omega
  ·have ho1:Bw inst l pair s=[]:=by unfold Bw;rw [if_neg hfull]
   rw [ho1,List.nil_append] at hg
   have hf0:s.full=false:=by simpa using hfull
   (try simp -implicitDefEqProofs [h,hsc,hsc',Src.l,w0,w1,ws0,ws1,hf0,e3])
   refine⟨⟨k+1,o,ov,B⟩,⟨h,hg,by simp only [];omega,hcb,hkp,hcb.run⟩,by simp only [];omega,?_⟩
   simp [Src.l,okN,okNs]
   refine⟨?_,A6.ext _ (hcb.U _ _ (Nat.le_refl _)),?_⟩<;>omega
 ·have hkk:k=l.length:=by omega
  subst hkk
  rw [List.drop_of_length_le (Nat.le_refl _)] at hg
  have hg':(o,(0:Int))=R:=hg
  rw [←hg']
  (try simp -implicitDefEqProofs)
  exact⟨_,⟨B,[]⟩,⟨rfl,B,ov,rfl,hcb,hkp⟩,.inl (by simp;exact⟨by omega,hcb.U _ _ (Nat.le_refl _)⟩)⟩
attribute [local simp] Cv.reflU

structure ColN (B:List Bx) (R:List Posting×Int) (r:V) (S':St):Prop where
 st : ∃B' ov,S'=⟨B',[]⟩∧OkU B'∧Dw B B' []∧r=.tup [ov,vI R.2]∧if R.2=0 then Um ov R.1 B' else ov=.snil
structure CJ where
 k:Nat
 o:List Posting
 ov:V
 B:List Bx
structure CJ.Ok (P rf:Nat) (rcaps:List V) (B0:List Bx) (R:List Posting×Int) (n:Nat) (rest:Nat→List (Option Posting)) (X:CJ):Prop where
 k:X.k≤n
 g:Av X.o (rest X.k)=R
 len:X.o.length≤X.k*200
 U:OkU X.B
 run:X.B[P]?=some (.cells [.fn (.func rf) rcaps])
 cel:X.B[P+1]?=some (.cells [X.ov])
 out:Um X.ov X.o X.B
 kept:Dw B0 X.B []
theorem Y5 (pf rf:Nat) (pcaps rcaps:List V) (B0:List Bx) (hU:OkU B0) (l:List Src) (n:Nat) (prs:Nat→Bool) (inst:Nat→Src→Int→Option Posting) (hl:l.length≤13) (hn:n≤100) (hpc : ∀k m,B0.length≤k→okNs k m pcaps=true) (hrc : ∀k m,B0.length≤k→okNs k m rcaps=true)
  (hpair : ∀(i:Nat) (B:List Bx),i<n→OkU B→Dw B0 B []→FnS Tryz.prog pf ([vI i]++pcaps) ⟨B,[]⟩ (vB (prs i)) ⟨B,[]⟩)
  (hrun : ∀(i:Nat) (B:List Bx) (b mb:Nat) (s:Src) (oth:Int),i<n→OkU B→Dw B0 B []→s∈l→s.full=true→(if prs i=true then ∃t∈l,t.full=true∧t.ent=oth∧t.ent≠s.ent else oth = -1)→B[b]?=some (.cells (mC s oth .snil mb 0))→B[mb]?=some (.mp [])→
   FnE Tryz.prog rf ([.ptr b 0,vI i]++rcaps) ⟨B,[]⟩ (FinN B [b,mb] (Dv (inst i s oth)))) :
  FnE Tryz.prog 38 [Src.l l,vI n,.fn (.func pf) pcaps,.fn (.func rf) rcaps] ⟨B0,[]⟩ (ColN B0 (Av [] (E5 inst l prs (List.range n)))):=by
 obtain⟨R,hR⟩ : ∃R,R=Av [] (E5 inst l prs (List.range n)):=⟨_,rfl⟩
 rw [←hR]
 obtain⟨P,hP⟩ : ∃P,P=B0.length:=⟨_,rfl⟩
 have b0 : ∀l:List Bx,(B0++l)[P]?=l[0]?:=fun l=>by rw [List.getElem?_append_right (by omega)];congr 1;omega
 have b1 : ∀(l:List Bx) (j:Nat),(B0++l)[P+j]?=l[j]?:=fun l j=>by rw [List.getElem?_append_right (by omega)];congr 1;omega
 have hU2:OkU (B0++[.cells [.fn (.func rf) rcaps],.cells [.snil]]):=fun k m hk=>(A6.appU (hU k m (by simp at hk;omega))).2 ⟨⟨A3 _,by simp at hk;simp [okNs,okN,hrc k m (by omega)]⟩,⟨A3 _,rfl⟩,trivial⟩
 (refine FnE.of_code mix Tryz.call38 k_38 (by simp) (fun hB=>?_);(try simp at hB);(try simp -implicitDefEqProofs))
 (try simp -implicitDefEqProofs [b0,b1,←hP])
 refine A7 (X:=CJ) (fun X=>X.Ok P rf rcaps B0 R n (fun k=>E5 inst l prs ((List.range n).drop k)))
  (fun X=>[(0,Src.l l),(2,.fn (.func pf) pcaps),(7,.ptr P 0),(10,.ptr (P+1) 0),(13,vI n),(14,vI X.k)]) (fun X=>⟨X.B,[]⟩) (fun X=>n-X.k) ⟨0,[],.snil,B0++[.cells [.fn (.func rf) rcaps],.cells [.snil]]⟩
  ⟨by simp,hR.symm,by simp,hU2,by rw [b0];rfl,by rw [b1];rfl,.inl ⟨rfl,rfl⟩,(Dw.refl B0 []).app _⟩ ?hs ?_
 case hs=>
  have h9:=hU2 (P+2) 0 (by simp;omega)
  simp [Src.l,okN,okNs,hpc (P+2) 0 (by omega),←hP] at h9 ⊢
  exact h9
 rintro ⟨i,o,ov,B⟩ ⟨hi,hg,hol,hBU,hrn,hcel,hout,hkp⟩ hbd
 simp only [] at hi hg hol hBU hrn hcel hout hkp
 clear hbd
 have e3:IntKind.i64.wrap ((i:Int)+1)=(i:Int)+1:=wrap64 (by omega) (by omega)
 have hPB:=A4 hcel
 rcases Nat.lt_or_ge i n with h|h
 ·have hdr:(List.range n).drop i=i::(List.range n).drop (i+1):=by
   rw [List.drop_eq_getElem_cons (by simpa using h)];simp
  rw [hdr] at hg
  have hg':Av o (l.flatMap (Bw (inst i) l (prs i))++E5 inst l prs ((List.range n).drop (i+1)))=R:=hg
  rw [J7] at hg'
  have hres:=O5 (l.flatMap (Bw (inst i) l (prs i))) o
  have hlen:=O6 (l.flatMap (Bw (inst i) l (prs i))) o
  have hlen2:=Rn (inst i) l (prs i) l
  have hlen3:l.length*(l.length+1)≤13*14:=Nat.mul_le_mul hl (by omega)
  have hcb:CN P B.length rf rcaps i o ov (B++[.cells [vI i]]):=⟨fun k m hk=>(A6.appU (hBU k m (by simp at hk;omega))).2 ⟨⟨A3 _,rfl⟩,trivial⟩,Ae hrn _,Ae hcel _,by rw [List.getElem?_append_right (Nat.le_refl _),Nat.sub_self];rfl,hout.keep fun _ _ _ _ hj=>Ae hj _,by omega⟩
  have hkB : ∀B2:List Bx,Dw (B++[.cells [vI i]]) B2 [P+1]→Dw B0 B2 []:=fun B2 h=>⟨by have h0:=hkp.1;have:=h.1;simp at this;omega,fun j x hj _=>h.2 j x (Ae (hkp.2 j x hj (by simp)) _) (by have:=A4 hj;simp;omega)⟩
  have hinst:=A68 l (prs i) (inst i) (by omega) hcb (by omega) (fun o ov B2 b mb s oth h1 h2 h3 h4 h5 h6 h7 h8 h9=>A67 h1 h3 (inst i s oth) h8 h9 (by simp at h7;omega) (hrun i B2 b mb s oth h h1.U (hkB B2 h2) h4 h5 h6 h8 h9))
  have hpr:=hpair i (B++[.cells [vI i]]) h hcb.U (hkp.app _)
  obtain⟨q,hq⟩ : ∃q,q=Av o (l.flatMap (Bw (inst i) l (prs i))):=⟨_,rfl⟩
  rw [←hq] at hg' hres hlen hinst
  obtain⟨ro,re⟩:=q
  simp only [] at hg' hres hlen
  have z0 : ∀l:List Bx,(B++l)[B.length]?=l[0]?:=fun l=>by rw [List.getElem?_append_right (by omega)];simp
  (try simp -implicitDefEqProofs [h,z0])
  refine Ab hpr ?_
  (try simp -implicitDefEqProofs [z0])
  refine Ke hinst ?_
  rintro r S' ⟨rfl,B',ov',rfl,hcb',hk'⟩
  simp only [] at hcb'
  have h8:=hcb'.U B'.length 0 (Nat.le_refl _)
  have h7:=(hkB B' hk').1
  have h6:=A4 hcb'.cel
  rcases hres with rfl|rfl
  ·rw [if_pos rfl] at hg'
   (try simp -implicitDefEqProofs [e3])
   refine⟨⟨i+1,ro,ov',B'⟩,⟨h,hg',by simp only [];omega,hcb'.U,hcb'.run,hcb'.cel,hcb'.out,hkB B' hk'⟩,by simp only [];omega,?_⟩
   simp [Src.l,okN,hpc B'.length 0 h7,h8]
   omega
  ·rw [if_neg (by decide)] at hg'
   rw [←hg']
   (try simp -implicitDefEqProofs)
   exact⟨_,⟨B',[]⟩,⟨B',.snil,rfl,hcb'.U,hkB B' hk',rfl,by rw [if_neg (by simp)]⟩,.inl (by simp [h8,okN,okNs];omega)⟩
 ·have hin:i=n:=by omega
  subst hin
  rw [List.drop_of_length_le (by simp)] at hg
  have hg':(o,(0:Int))=R:=hg
  rw [←hg']
  have h8:=hBU B.length 0 (Nat.le_refl _)
  have h7:=hkp.1
  (try simp -implicitDefEqProofs [hcel])
  refine⟨.tup [ov,vI 0],⟨B,[]⟩,⟨B,ov,rfl,hBU,hkp,rfl,by rw [if_pos rfl];exact hout⟩,.inl ?_⟩
  rcases hout with ⟨rfl,_⟩|⟨kb,ks,rfl,hkb,_⟩
  ·simp [h8,okN,okNs];omega
  ·have:=A4 hkb
   simp [h8,okN,okNs];omega
def E4 (ss:List Stm):List Int:=(ss.filter fun s=>s.kind==3).map (·.acc)
def Bl (p:List Rul):List Int:=p.flatMap fun r=>r.to::E4 r.stmts
def ddA:Int→List Int→List Int
 | _,[]=>[]
 | p,x::l=>if x=p then ddA p l else x::ddA x l
def ddL:List Int→List Int
 | []=>[]
 | x::l=>x::ddA x l
def Asc (l:List Int):Prop:=l.Pairwise (· < ·)

theorem Y6 {ss:List Stm} {k:Nat} {s:Stm} (h:ss[k]?=some s):E4 (ss.take (k+1))=E4 (ss.take k)++E4 [s]:=by
 rw [Ag h];simp [E4]
theorem Un {p:List Rul} {k:Nat} {r:Rul} (h:p[k]?=some r):Bl (p.take (k+1))=Bl (p.take k)++(r.to::E4 r.stmts):=by
 rw [Ag h];simp [Bl]
theorem Jf (ss:List Stm):(E4 ss).length≤ss.length:=by
 unfold E4;rw [List.length_map];exact List.length_filter_le _ _
theorem K1 : ∀(p:List Rul) (m:Nat),(∀r∈p,r.stmts.length≤m)→(Bl p).length≤p.length*(m+1)
 | [],m,_=>by simp [Bl]
 | r::p,m,h=>by
  have h1:=K1 p m (fun x hx=>h x (by simp [hx]))
  have h2:=Jf r.stmts
  have h3:=h r (by simp)
  simp only [Bl,List.flatMap_cons,List.length_append,List.length_cons] at h1 ⊢
  rw [Nat.add_mul];omega
theorem Pl : ∀(l:List Int) (p x:Int),x∈ddA p l∨x=p↔x∈l∨x=p
 | [],p,x=>by simp [ddA]
 | y::l,p,x=>by
  rw [ddA]
  split
  ·rename_i h
   subst h
   rw [Pl l y x,List.mem_cons]
   constructor
   ·rintro (h|h)
    ·exact .inl (.inr h)
    ·exact .inr h
   ·rintro ((h|h)|h)
    ·exact .inr h
    ·exact .inl h
    ·exact .inr h
  ·have:=Pl l y x
   simp only [List.mem_cons]
   constructor
   ·rintro ((h|h)|h)
    ·exact .inl (.inl h)
    ·rcases this.1 (.inl h) with h|h
     ·exact .inl (.inr h)
     ·exact .inl (.inl h)
    ·exact .inr h
   ·rintro ((h|h)|h)
    ·exact .inl (.inl h)
    ·rcases this.2 (.inl h) with h|h
     ·exact .inl (.inr h)
     ·exact .inl (.inl h)
    ·exact .inr h
theorem A3b (l:List Int) (x:Int):x∈ddL l↔x∈l:=by
 cases l with
 | nil=>simp [ddL]
 | cons y l=>
  have:=Pl l y x
  simp only [ddL,List.mem_cons]
  constructor
  ·rintro (h|h)
   ·exact .inl h
   ·exact (this.1 (.inl h)).symm
  ·rintro (h|h)
   ·exact .inl h
   ·exact (this.2 (.inl h)).symm
theorem Pm : ∀{l:List Int} {p:Int},(p::l).Pairwise (·≤·)→Asc (p::ddA p l)
 | [],p,h=>by simp [ddA,Asc]
 | y::l,p,h=>by
  have h1:=List.pairwise_cons.1 h
  have h2:=List.pairwise_cons.1 h1.2
  rw [ddA]
  split
  ·rename_i e
   subst e
   exact Pm (List.pairwise_cons.2 ⟨h2.1,h2.2⟩)
  ·rename_i e
   have hr:=Pm (l:=l) (p:=y) h1.2
   have hpy:p<y:=by have:=h1.1 y (by simp);omega
   refine List.pairwise_cons.2 ⟨fun z hz=>?_,hr⟩
   rcases List.mem_cons.1 hz with rfl|hz
   ·exact hpy
   ·exact Int.lt_trans hpy ((List.pairwise_cons.1 hr).1 z hz)
theorem A3c {l:List Int} (h:l.Pairwise (·≤·)):Asc (ddL l):=by
 cases l with
 | nil=>simp [ddL,Asc]
 | cons y l=>exact Pm h
def Dx (l:List Int):List Int:=l.mergeSort fun x y=>decide (x≤y)
theorem A0w (l:List Int) (x:Int):x∈Dx l↔x∈l:=List.mem_mergeSort
theorem Fv (l:List Int):(Dx l).length=l.length:=List.length_mergeSort l
theorem A3d (l:List Int):(Dx l).Pairwise (·≤·):=by
 have:=List.pairwise_mergeSort (le:=fun x y:Int=>decide (x≤y)) (fun a b c h1 h2=>by simp at h1 h2 ⊢;omega) (fun a b=>by simp;omega) l
 exact this.imp (fun h=>by simpa using h)
theorem Ia : ∀(a:List Int) (p x:Int),ddA p (a++[x])=ddA p a++(if x=(p::a).getLast (by simp) then [] else [x])
 | [],p,x=>by by_cases h:x=p<;>simp [ddA,h]
 | y::a,p,x=>by
  rw [List.cons_append,ddA,ddA,Ia a p x,Ia a y x]
  have e1:(p::y::a).getLast (by simp)=(y::a).getLast (by simp):=by rw [List.getLast_cons (by simp)]
  rw [e1]
  by_cases h:y=p
  ·subst h;rw [if_pos rfl,if_pos rfl]
  ·rw [if_neg h,if_neg h];rfl
theorem Sd {l:List Int} {m:Nat} {x y:Int} (hx:l[m+1]?=some x) (hy:l[m]?=some y):ddL (l.take (m+2))=ddL (l.take (m+1))++(if x=y then [] else [x]):=by
 rw [Ag hx]
 cases l with
 | nil=>simp at hx
 | cons z l=>
  rw [List.take_succ_cons,List.cons_append,ddL,ddL,Ia]
  have hm:m<(z::l.take m).length:=by
   have:=(List.getElem?_eq_some_iff.1 hx).1
   simp only [List.length_cons,List.length_take] at this ⊢
   omega
  have hlen:(z::l.take m).length-1=m:=by
   have:=(List.getElem?_eq_some_iff.1 hx).1
   simp only [List.length_cons,List.length_take] at this ⊢
   omega
  have:(z::l.take m).getLast (by simp)=y:=by
   have h2:(z::l.take m)[m]?=some y:=by
    rw [←List.take_succ_cons,List.getElem?_take,if_pos (by omega)]
    exact hy
   rw [List.getLast_eq_getElem]
   rw [List.getElem?_eq_getElem hm] at h2
   have h3:=Option.some.inj h2
   simp only [hlen]
   exact h3
  rw [this];rfl
theorem Vw (l:List Int):(ddL l).length≤l.length:=by
 cases l with
 | nil=>simp [ddL]
 | cons z l=>
  have : ∀(l:List Int) (p:Int),(ddA p l).length≤l.length:=by
   intro l
   induction l with
   | nil=>intro p;simp [ddA]
   | cons y l ih=>
    intro p
    rw [ddA]
    split
    ·have:=ih p;simp;omega
    ·have:=ih y;simp;omega
  have:=this l z
  simp [ddL];omega
def Es (r:Rul):Bool:=decide (Bv (fun _=>true) r.pair [] r.stmts=0)
def Dy (p:List Rul):Bool:=M7 p&&p.all Es&&decide ((p.map (·.name)).Nodup)
def Bz (l:List Int):List Account:=l.map fun c=>⟨c,1,1,0⟩
theorem A0x (l:List Int) (c:Int):(Cht.findS (Bz l) c).isSome=decide (c∈l):=by
 unfold Cht.findS Bz
 rw [Bool.eq_iff_iff,List.find?_isSome,decide_eq_true_eq]
 constructor
 ·rintro ⟨x,hx,h⟩
  obtain⟨y,hy,rfl⟩:=List.mem_map.1 hx
  have:y=c:=by simpa using h
  rw [←this];exact hy
 ·intro h
  exact⟨_,List.mem_map.2 ⟨c,h,rfl⟩,by simp⟩
theorem Y7 {l:List Int} (h:Asc l) (hl:l.length≤200) (ha : ∀c∈l,1≤c∧c≤99999):Cht.validR (Bz l) true=true:=by
 rw [←Cht.valid_agree]
 unfold Cht.validP
 rw [Bool.and_eq_true,Cht.steps_all]
 refine⟨by simpa [Bz] using hl,fun k hk=>?_,fun a hm=>?_⟩
 ·unfold Cht.incB
  rcases Nat.eq_zero_or_pos k with rfl|h0
  ·rfl
  ·have hk':k<l.length:=by simpa [Bz] using hk
   have hp:=List.pairwise_iff_getElem.1 h (k-1) k (by omega) hk' (by omega)
   have e : ∀j (hj:j<l.length),((Bz l).getD j Cht.acc0).code=l[j]:=fun j hj=>by
    rw [List.getD_eq_getElem?_getD];simp [Bz,hj]
   rw [e _ hk',e _ (by omega),decide_eq_true hp,Bool.or_true]
 ·obtain⟨c,hc,rfl⟩:=List.mem_map.1 hm
  obtain⟨h1,h2⟩:=ha c hc
  simp [Cht.goodP,Cht.okB,Cht.fldB,h1,h2]
theorem Uo {known:Int→Bool} {q:List UInt8→Bool} {pair:Bool} {s:Stm} (h:s.kind=3→known s.acc=true):Fh known q pair s=Fh (fun _=>true) q pair s:=by
 unfold Fh
 have:(s.kind=3∧known s.acc=false)↔(s.kind=3∧(true=false)):=by
  constructor
  ·rintro ⟨a,b⟩;rw [h a] at b;cases b
  ·rintro ⟨_,b⟩;cases b
 simp only [this]
theorem Ko {known:Int→Bool} {pair:Bool} : ∀{ss:List Stm} {M:List (List UInt8)},(∀s∈ss,s.kind=3→known s.acc=true)→Bv known pair M ss=Bv (fun _=>true) pair M ss
 | [],M,_=>rfl
 | s::ss,M,h=>by
  rw [Bv,Bv,Uo (h s (by simp)),Ko fun x hx=>h x (by simp [hx])]
theorem A3e {r:Rul} (h:D1 r=true):Uh [r] (Bz (ddL (Dx (Bl [r]))))=(0,Bv (fun _=>true) r.pair [] r.stmts):=by
 have hb:=h
 unfold D1 at hb
 simp only [Bool.and_eq_true,decide_eq_true_eq,List.all_eq_true] at hb
 obtain⟨⟨⟨_,hlen⟩,hto⟩,hst⟩:=hb
 have hm : ∀c,c∈ddL (Dx (Bl [r]))↔c=r.to∨c∈E4 r.stmts:=fun c=>by
  rw [A3b,A0w];simp [Bl]
 have hkn : ∀c,Bj (Bz (ddL (Dx (Bl [r])))) c=decide (c=r.to∨c∈E4 r.stmts):=fun c=>by
  unfold Bj;rw [A0x,decide_eq_decide];exact hm c
 have hacc : ∀s∈r.stmts,s.kind=3→s.acc∈E4 r.stmts:=fun s hs hk=>List.mem_map.2 ⟨s,List.mem_filter.2 ⟨hs,by simp [hk]⟩,rfl⟩
 have hval:Cht.validR (Bz (ddL (Dx (Bl [r])))) true=true:=by
  refine Y7 (A3c (A3d _)) ?_ fun c hc=>?_
  ·have h1:=Vw (Dx (Bl [r]))
   have h2:=Jf r.stmts
   rw [Fv] at h1
   simp [Bl] at h1 ⊢
   omega
  ·rcases (hm c).1 hc with rfl|hc
   ·simpa [acB] using hto
   ·obtain⟨s,hs,rfl⟩:=List.mem_map.1 hc
    obtain⟨hs,hk⟩:=List.mem_filter.1 hs
    have hk:s.kind=3:=by simpa using hk
    have:=hst s hs
    unfold Eu Qv at this
    rw [if_neg (by omega),if_neg (by omega),if_pos hk] at this
    simp only [Bool.and_eq_true] at this
    simpa [acB] using this.1.1.2
 unfold Uh
 rw [if_pos ⟨by unfold M7;simp [h],hval⟩]
 have hrul:Jy (Bj (Bz (ddL (Dx (Bl [r]))))) r=Bv (fun _=>true) r.pair [] r.stmts:=by
  have h1:=Ko (known:=Bj (Bz (ddL (Dx (Bl [r]))))) (pair:=r.pair) (ss:=r.stmts) (M:=[]) fun s hs hk=>by rw [hkn];simp [hacc s hs hk]
  have h2:Bj (Bz (ddL (Dx (Bl [r])))) r.to=true:=by rw [hkn];simp
  unfold Jy
  rw [h1,if_pos h2]
  split
  ·rfl
  ·rename_i q;exact (Classical.not_not.1 q).symm
 rw [Hr,if_neg (by simp),hrul,Hr]
 by_cases he:Bv (fun _=>true) r.pair [] r.stmts=0
 ·rw [if_neg (fun q=>q he),he]
 ·rw [if_pos he];rfl
theorem Et {p:List Rul} (h:Dy p=true) : ∀r∈p,D1 r=true:=by
 unfold Dy M7 at h
 simp only [Bool.and_eq_true,List.all_eq_true] at h
 exact h.1.1.1
theorem Se {r:Rul} (h:D1 r=true):r.stmts.length≤30:=by
 unfold D1 at h
 simp only [Bool.and_eq_true,decide_eq_true_eq] at h
 exact h.1.1.2
theorem N2 {r:Rul} (hb:D1 r=true) (hf:Es r=true):(D7 (Ak r)).2=true:=
 S4 (known:=fun _=>true) hb (by unfold Es at hf;rw [decide_eq_true_eq] at hf;unfold Jy;rw [hf];rfl)
theorem Od {p:List Rul} (h:Mu p=true) {r:Rul} (hr:r∈p) (h3:r.stmts.length≤30):(Ak r).ins.length≤8000:=by
 obtain⟨_,_,f3⟩:=Lc h
 have h2:=A38 (f3 r hr)
 rw [Xw];omega
end Go.Proofs.YtmlpmdccfmmpoaaGreatDoor
