/- Chapter 35: the instances of a rule, collected in a buffer. -/
import Derived.Test.YtmlpmdccfmmpoaaGreatLcA
import Derived.Test.YtmlpmdccfmmpoaaGreatFnE
set_option linter.unusedSimpArgs false
set_option linter.unusedVariables false
set_option maxHeartbeats 4000000
set_option maxRecDepth 8000
namespace Go.Proofs.YtmlpmdccfmmpoaaGreat
open E
attribute [local simp] Cw.reflU

theorem CB.more {P rf:Nat} {rcaps:List V} {rule:Int} {o:List Posting} {ov:V} {B:List Bx} (h:CB P rf rcaps rule o ov B) (l:List Bx) (hl : ∀n m,B.length+l.length≤n→A6 n m l l):CB P rf rcaps rule o ov (B++l):=
 ⟨fun n m hn=>by rw [List.length_append] at hn;exact (A6.appU (h.U n m (by omega))).2 (hl n m hn),Ad h.run l,Ad h.cel l,Ad h.rul l,h.out.imp id fun ⟨kb,e,hk⟩=>⟨kb,e,Ad hk l⟩⟩
theorem D2.refl (B:List Bx) (l:List Nat):D2 B B l:=⟨Nat.le_refl _,fun _ _ h _=>h⟩
theorem D2.app {B B':List Bx} {l:List Nat} (h:D2 B B' l) (X:List Bx):D2 B (B'++X) l:=⟨by have:=h.1;simp;omega,fun j x hj hn=>Ad (h.2 j x hj hn) X⟩
theorem D2.trans {A B C:List Bx} {l:List Nat} {b:Nat} (h1:D2 A B l) (h2:D2 B C (b::l)) (hb:A.length≤b):D2 A C l:=
 ⟨Nat.le_trans h1.1 h2.1,fun j x hj hn=>h2.2 j x (h1.2 j x hj hn) (by have:=A5 hj;simp;exact⟨by omega,hn⟩)⟩
theorem mk3 (n m:Nat) (cs:List V) (hcs : ∀n m,okNs n m cs=true) (s:Src) (oth:Int) (k:Nat) (hk:k<n):A6 n m [.cells cs,.mp [],.cells (mC s oth .snil k 0)] [.cells cs,.mp [],.cells (mC s oth .snil k 0)]:=
 ⟨⟨A3 _,hcs n m⟩,D1 [],⟨A3 _,by unfold mC;simp [okNs,okN];omega⟩,trivial⟩
structure IB where
 k:Nat
 o:List Posting
 ov:V
 B:List Bx
structure IB.Ok (P rf:Nat) (rcaps:List V) (rule:Int) (B0:List Bx) (ob:Nat) (OB:List V) (R:List Posting×Int) (rest:Nat→List (Option Posting)) (n M z:Nat) (X:IB):Prop where
 k:X.k≤n
 g:Am X.o (rest X.k)=R
 len:X.o.length≤M+X.k*z
 cb:CB P rf rcaps rule X.o X.ov X.B
 kept:D2 B0 X.B [P+1]
 own:X.B[ob]?=some (.cells OB)
structure InsP (T:List Nat) (P rf:Nat) (rcaps:List V) (rule:Int) (R:List Posting×Int) (B0:List Bx) (r:V) (S':St):Prop where
 res:r=vI R.2
 st : ∃B' ov',S'=⟨B',T⟩∧CB P rf rcaps rule R.1 ov' B'∧D2 B0 B' [P+1]
theorem X9 {T:List Nat} {P rf:Nat} {rcaps:List V} {rule:Int} (l:List Src) (pair:Bool) (inst:Src→Int→Option Posting) (hl:l.length≤100) {o0:List Posting} {ov0:V} {B0:List Bx} (h0:CB P rf rcaps rule o0 ov0 B0) (ho:o0.length≤900000)
  (heach : ∀(o:List Posting) (ov:V) (B:List Bx) (b mb:Nat) (s:Src) (oth:Int),CB P rf rcaps rule o ov B→D2 B0 B [P+1]→o.length≤1000000→s∈l→s.full=true→(if pair=true then ∃t∈l,t.full=true∧t.ent=oth∧t.ent≠s.ent else oth = -1)→B0.length≤b→
   B[b]?=some (.cells (mC s oth .snil mb 0))→B[mb]?=some (.mp [])→
   ∃B' ov',FnS Tryz.prog 46 [.ptr b 0,.ptr P 0,.ptr (P+2) 0,.ptr (P+1) 0] ⟨B,T⟩ (vI (Am o [inst s oth]).2) ⟨B',T⟩∧CB P rf rcaps rule (Am o [inst s oth]).1 ov' B'∧D2 B B' [b,P+1]) :
  FnE Tryz.prog 45 [Src.l l,vB pair,.fn (.func 46) [.ptr P 0,.ptr (P+2) 0,.ptr (P+1) 0]] ⟨B0,T⟩
   (InsP T P rf rcaps rule (Am o0 (l.flatMap (Bp inst l pair))) B0):=by
 obtain⟨R,hR⟩ : ∃R,R=Am o0 (l.flatMap (Bp inst l pair)):=⟨_,rfl⟩
 rw [←hR]
 have hP2:=A5 h0.rul
 (refine FnE.of_code mix Tryz.call45 k_45 (by simp) (fun hB=>?_);(try simp at hB);(try simp -implicitDefEqProofs))
 (try simp -implicitDefEqProofs)
 refine Ac (X:=IB) (fun X=>X.Ok P rf rcaps rule B0 P [.fn (.func rf) rcaps] R (fun k=>(l.drop k).flatMap (Bp inst l pair)) l.length o0.length 100)
  (fun X=>[(0,Src.l l),(1,vB pair),(2,.fn (.func 46) [.ptr P 0,.ptr (P+2) 0,.ptr (P+1) 0]),(7,vI 0),(12,Src.l l),(13,vI l.length),(14,vI X.k)]) (fun X=>⟨X.B,T⟩) (fun X=>l.length-X.k) ⟨0,o0,ov0,B0⟩ ⟨by simp,hR.symm,by simp,h0,D2.refl _ _,h0.run⟩ ?hs ?_
 case hs=>
  simp [Src.l,okN,okNs]
  exact⟨h0.U _ _ (Nat.le_refl _),by omega⟩
 rintro ⟨k,o,ov,B⟩ ⟨hk,hg,hol,hcb,hkp,_⟩ hbd
 simp only [] at hk hg hol hcb hkp
 clear hbd
 have hk100:k*100≤10000:=by omega
 have e3:IntKind.i64.wrap ((k:Int)+1)=(k:Int)+1:=wrap64 (by omega) (by omega)
 have w0 : ∀(C:List Bx),(B++C)[B.length]?=C[0]?:=fun C=>by rw [List.getElem?_append_right (by omega)];congr 1;omega
 have w1 : ∀(C:List Bx) (j:Nat),(B++C)[B.length+j]?=C[j]?:=fun C j=>by rw [List.getElem?_append_right (by omega)];congr 1;omega
 have ws0 : ∀(C:List Bx) (v:Bx),(B++C).set B.length v=B++C.set 0 v:=fun C v=>by rw [List.set_append_right _ _ (by omega)];simp
 have ws1 : ∀(C:List Bx) (j:Nat) (v:Bx),(B++C).set (B.length+j) v=B++C.set j v:=fun C j v=>by rw [List.set_append_right _ _ (by omega)];congr 2;omega
 have hB0:=hkp.1
 rcases Nat.lt_or_ge k l.length with h|h
 ·obtain⟨s,hs⟩:=Aa h
  have hsm:s∈l:=List.mem_of_getElem? hs
  have hdr:l.drop k=s::l.drop (k+1):=by
   obtain⟨h1,h2⟩:=List.getElem?_eq_some_iff.1 hs
   rw [List.drop_eq_getElem_cons h1,h2]
  rw [hdr,List.flatMap_cons] at hg
  have hsc:(l.map Src.c)[k]?=some s.c:=by simp [hs]
  have hsc' : ∀h,(l.map Src.c)[k]'h=s.c:=fun h=>by rw [List.getElem?_eq_getElem h] at hsc;exact Option.some.inj hsc
  have hcc:s.c=[.int .i64 s.ent,.bool s.full,.bool (nB s.num),.sl (pE s.num),.bool (nB s.den),.sl (pE s.den),.sl (s.items.map Item.c)]:=rfl
  rw [hcc] at hsc hsc'
  by_cases hfull:s.full=true
  ·cases pair
   ·have ho1:Bp inst l false s=[inst s (-1)]:=by unfold Bp;rw [if_pos hfull];rfl
    rw [ho1,List.singleton_append,Gg] at hg
    obtain⟨B',ov',hcall,hcb',hkp'⟩:=heach o ov (B++[.cells [vI s.ent,vB s.full,.t (.bool (nB s.num)),.t (.sl (pE s.num)),.t (.bool (nB s.den)),.t (.sl (pE s.den)),.t (.sl (s.items.map Item.c))],.mp [],.cells (mC s (-1) .snil (B.length+1) 0)]) (B.length+2) (B.length+1) s (-1)
     (hcb.more _ fun n m h1=>mk3 n m _ (fun _ _=>rfl) s _ _ (by simp at h1;omega)) (hkp.app _) (by omega) hsm hfull rfl (by omega) (by rw [w1];rfl) (by rw [w1];rfl)
    unfold mC at hcall
    simp only [hfull] at hcall
    have hgl:=Gj o (inst s (-1))
    have hkt:D2 B0 B' [P+1]:=(hkp.app _).trans hkp' (by omega)
    rcases Gi o (inst s (-1)) with he|he
    ·rw [if_pos he] at hg
     rw [he] at hcall
     (try simp -implicitDefEqProofs [h,hsc,hsc',Src.l,w0,w1,ws0,ws1,hfull])
     refine Ab hcall ?_
     (try simp -implicitDefEqProofs [e3])
     refine⟨⟨k+1,(Am o [inst s (-1)]).1,ov',B'⟩,⟨h,hg,by simp only [];omega,hcb',hkt,hcb'.run⟩,by simp only [];omega,?_⟩
     simp [Src.l,okN,okNs]
     refine⟨?_,hcb'.U _ _ (Nat.le_refl _),?_⟩<;>(have:=hkt.1;omega)
    ·rw [if_neg (by rw [he];decide)] at hg
     rw [he] at hcall
     rw [hg] at he hcb'
     (try simp -implicitDefEqProofs [h,hsc,hsc',Src.l,w0,w1,ws0,ws1,hfull])
     refine Ab hcall ?_
     (try simp -implicitDefEqProofs [e3,he])
     exact⟨_,⟨B',T⟩,⟨by rw [he],B',ov',rfl,hcb',hkt⟩,.inl (by simp;exact⟨by have:=hkt.1;omega,hcb'.U _ _ (Nat.le_refl _)⟩)⟩
   ·have ho1:Bp inst l true s=l.flatMap (E9 inst s):=by unfold Bp;rw [if_pos hfull];rfl
    rw [ho1] at hg
    obtain⟨OB,hOB⟩ : ∃OB:List V,OB=[vI s.ent,vB s.full,.t (.bool (nB s.num)),.t (.sl (pE s.num)),.t (.bool (nB s.den)),.t (.sl (pE s.den)),.t (.sl (s.items.map Item.c))]:=⟨_,rfl⟩
    have hOBo : ∀n m,okNs n m OB=true:=fun n m=>by rw [hOB];rfl
    have hcb1:=hcb.more [.cells OB] (fun n m h1=>⟨⟨A3 _,hOBo n m⟩,trivial⟩)
    obtain⟨N,hN⟩ : ∃N,N=B.length:=⟨_,rfl⟩
    (try simp -implicitDefEqProofs [h,hsc,hsc',Src.l,w0,w1,ws0,ws1,hfull])
    refine Ac (X:=IB) (fun X=>X.Ok P rf rcaps rule B0 N OB R (fun j=>(l.drop j).flatMap (E9 inst s)++(l.drop (k+1)).flatMap (Bp inst l true)) l.length (o0.length+k*100) 1)
     (fun X=>[(0,Src.l l),(1,vB true),(2,.fn (.func 46) [.ptr P 0,.ptr (P+2) 0,.ptr (P+1) 0]),(7,vI 0),(9,.ptr N 0),(12,Src.l l),(13,vI l.length),(14,vI k),(31,Src.l l),(32,vI l.length),(33,vI X.k)]) (fun X=>⟨X.B,T⟩) (fun X=>l.length-X.k) ⟨0,o,ov,B++[.cells OB]⟩ ⟨by simp,by simpa using hg,by simp only [];omega,hcb1,hkp.app _,by rw [hN,w0];rfl⟩ ?hs2 ?_
    case hs2=>
     have h9:=hcb1.U (B.length+1) T.length (by simp)
     rw [hOB] at h9 ⊢
     simp [hfull,Src.l,okN,okNs,hN] at h9 ⊢
     refine⟨?_,h9,?_⟩<;>omega
    rintro ⟨j,o2,ov2,B2⟩ ⟨hj,hgo,holo,hcb2,hkp2,hown⟩ hbd
    simp only [] at hj hgo holo hcb2 hkp2 hown
    clear hbd
    have f3:IntKind.i64.wrap ((j:Int)+1)=(j:Int)+1:=wrap64 (by omega) (by omega)
    have v0 : ∀(C:List Bx),(B2++C)[B2.length]?=C[0]?:=fun C=>by rw [List.getElem?_append_right (by omega)];congr 1;omega
    have v1 : ∀(C:List Bx) (j:Nat),(B2++C)[B2.length+j]?=C[j]?:=fun C j=>by rw [List.getElem?_append_right (by omega)];congr 1;omega
    have vs0 : ∀(C:List Bx) (v:Bx),(B2++C).set B2.length v=B2++C.set 0 v:=fun C v=>by rw [List.set_append_right _ _ (by omega)];simp
    have vs1 : ∀(C:List Bx) (j:Nat) (v:Bx),(B2++C).set (B2.length+j) v=B2++C.set j v:=fun C j v=>by rw [List.set_append_right _ _ (by omega)];congr 2;omega
    have hB2:=hkp2.1
    have hNl:=A5 hown
    rw [hOB] at hown
    have hown' : ∀C:List Bx,(B2++C)[N]?=some (.cells [vI s.ent,vB s.full,.t (.bool (nB s.num)),.t (.sl (pE s.num)),.t (.bool (nB s.den)),.t (.sl (pE s.den)),.t (.sl (s.items.map Item.c))]):=fun C=>Ad hown C
    rcases Nat.lt_or_ge j l.length with g|g
    ·obtain⟨t,ht⟩:=Aa g
     have htm:t∈l:=List.mem_of_getElem? ht
     have hdr2:l.drop j=t::l.drop (j+1):=by
      obtain⟨h1,h2⟩:=List.getElem?_eq_some_iff.1 ht
      rw [List.drop_eq_getElem_cons h1,h2]
     rw [hdr2,List.flatMap_cons] at hgo
     have htc:(l.map Src.c)[j]?=some t.c:=by simp [ht]
     have htc' : ∀h,(l.map Src.c)[j]'h=t.c:=fun h=>by rw [List.getElem?_eq_getElem h] at htc;exact Option.some.inj htc
     have htt:t.c=[.int .i64 t.ent,.bool t.full,.bool (nB t.num),.sl (pE t.num),.bool (nB t.den),.sl (pE t.den),.sl (t.items.map Item.c)]:=rfl
     rw [htt] at htc htc'
     by_cases hcond:t.full=true∧t.ent≠s.ent
     ·have hol1:E9 inst s t=[inst s t.ent]:=by unfold E9;rw [if_pos hcond]
      rw [hol1,List.append_assoc,List.singleton_append,Gg] at hgo
      have hne2:(t.ent==s.ent)=false:=by simpa using hcond.2
      have htf:=hcond.1
      obtain⟨B',ov',hcall,hcb',hkp'⟩:=heach o2 ov2 (B2++[.cells [vI t.ent,vB t.full,.t (.bool (nB t.num)),.t (.sl (pE t.num)),.t (.bool (nB t.den)),.t (.sl (pE t.den)),.t (.sl (t.items.map Item.c))],.mp [],.cells (mC s t.ent .snil (B2.length+1) 0)]) (B2.length+2) (B2.length+1) s t.ent
       (hcb2.more _ fun n m h1=>mk3 n m _ (fun _ _=>rfl) s _ _ (by simp at h1;omega)) (hkp2.app _) (by omega) hsm hfull ⟨t,htm,htf,rfl,hcond.2⟩ (by omega) (by rw [v1];rfl) (by rw [v1];rfl)
      have hown2:=hkp'.2 N _ (hown' _) (by simp;omega)
      rw [←hOB] at hown2
      unfold mC at hcall
      simp only [hfull,htf] at hcall
      have hgl:=Gj o2 (inst s t.ent)
      have hkt:D2 B0 B' [P+1]:=(hkp2.app _).trans hkp' (by omega)
      rcases Gi o2 (inst s t.ent) with he|he
      ·rw [if_pos he] at hgo
       rw [he] at hcall
       simp only [hfull] at hown hown'
       (try simp -implicitDefEqProofs [g,htc,htc',Src.l,hown,hown',v0,v1,vs0,vs1,htf,hne2])
       refine Ab hcall ?_
       (try simp -implicitDefEqProofs [f3])
       refine⟨⟨j+1,(Am o2 [inst s t.ent]).1,ov',B'⟩,⟨g,hgo,by simp only [];omega,hcb',hkt,hown2⟩,by simp only [];omega,?_⟩
       simp [Src.l,okN,okNs]
       refine⟨?_,hcb'.U _ _ (Nat.le_refl _),?_⟩<;>(have:=hkt.1;have:=A5 hown2;omega)
      ·rw [if_neg (by rw [he];decide)] at hgo
       rw [he] at hcall
       rw [hgo] at he hcb'
       simp only [hfull] at hown hown'
       (try simp -implicitDefEqProofs [g,htc,htc',Src.l,hown,hown',v0,v1,vs0,vs1,htf,hne2])
       refine Ab hcall ?_
       (try simp -implicitDefEqProofs [f3,he])
       exact⟨_,⟨B',T⟩,⟨by rw [he],B',ov',rfl,hcb',hkt⟩,.inl (by simp;exact⟨by have:=hkt.1;omega,hcb'.U _ _ (Nat.le_refl _)⟩)⟩
     ·have hol1:E9 inst s t=[]:=by unfold E9;rw [if_neg hcond]
      rw [hol1,List.nil_append] at hgo
      simp only [hfull] at hown hown'
      have hownO:B2[N]?=some (.cells OB):=by rw [hOB];simpa [hfull] using hown
      by_cases htf:t.full=true
      ·have hee:t.ent=s.ent:=Classical.byContradiction fun h=>hcond ⟨htf,h⟩
       rw [hee] at htc htc'
       (try simp -implicitDefEqProofs [g,htc,htc',Src.l,hown,hown',v0,v1,vs0,vs1,htf,hee,f3,hfull])
       refine⟨⟨j+1,o2,ov2,B2⟩,⟨g,hgo,by simp only [];omega,hcb2,hkp2,hownO⟩,by simp only [];omega,?_⟩
       simp [Src.l,okN,okNs]
       refine⟨?_,A6.ext _ (hcb2.U _ _ (Nat.le_refl _)),?_⟩<;>omega
      ·have htf0:t.full=false:=by simpa using htf
       (try simp -implicitDefEqProofs [g,htc,htc',Src.l,hown,hown',v0,v1,vs0,vs1,htf0,f3,hfull])
       refine⟨⟨j+1,o2,ov2,B2⟩,⟨g,hgo,by simp only [];omega,hcb2,hkp2,hownO⟩,by simp only [];omega,?_⟩
       simp [Src.l,okN,okNs]
       refine⟨?_,A6.ext _ (hcb2.U _ _ (Nat.le_refl _)),?_⟩<;>omega
    ·have hjj:j=l.length:=by omega
     subst hjj
     rw [List.drop_of_length_le (Nat.le_refl _)] at hgo
     (try simp -implicitDefEqProofs [g,Src.l,e3])
     refine⟨⟨k+1,o2,ov2,B2⟩,⟨h,hgo,by simp only [];omega,hcb2,hkp2,hcb2.run⟩,by simp only [];omega,?_⟩
     simp [Src.l,okN,okNs]
     refine⟨?_,hcb2.U _ _ (Nat.le_refl _),?_⟩<;>omega
  ·have ho1:Bp inst l pair s=[]:=by unfold Bp;rw [if_neg hfull]
   rw [ho1,List.nil_append] at hg
   have hf0:s.full=false:=by simpa using hfull
   (try simp -implicitDefEqProofs [h,hsc,hsc',Src.l,w0,w1,ws0,ws1,hf0,e3])
   refine⟨⟨k+1,o,ov,B⟩,⟨h,hg,by simp only [];omega,hcb,hkp,hcb.run⟩,by simp only [];omega,?_⟩
   simp [Src.l,okN,okNs]
   refine⟨?_,A6.ext _ (hcb.U _ _ (Nat.le_refl _)),?_⟩<;>omega
 ·have hkk:k=l.length:=by omega
  subst hkk
  rw [List.drop_of_length_le (Nat.le_refl _)] at hg
  have hg':(o,(0:Int))=R:=hg
  rw [←hg']
  (try simp -implicitDefEqProofs)
  exact⟨_,⟨B,T⟩,⟨rfl,B,ov,rfl,hcb,hkp⟩,.inl (by simp;exact⟨by omega,hcb.U _ _ (Nat.le_refl _)⟩)⟩
end Go.Proofs.YtmlpmdccfmmpoaaGreat
