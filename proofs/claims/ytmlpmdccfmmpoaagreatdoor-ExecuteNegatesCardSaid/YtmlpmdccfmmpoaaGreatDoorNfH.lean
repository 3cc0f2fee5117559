/- Chapter 35: the program's Interpret, the postings and their parts in buffers. -/
import Derived.Test.YtmlpmdccfmmpoaaGreatDoorPsa
import Derived.Test.YtmlpmdccfmmpoaaGreatDoorRcp
import Derived.Test.YtmlpmdccfmmpoaaGreatDoorRul
import Derived.Test.YtmlpmdccfmmpoaaGreatDoorLit
import Derived.Test.YtmlpmdccfmmpoaaGreatDoorVaO
import Derived.Test.YtmlpmdccfmmpoaaGreatDoorPrg
import Derived.Test.YtmlpmdccfmmpoaaGreatDoorNfE
set_option linter.unusedSimpArgs false
set_option linter.unusedVariables false
set_option maxHeartbeats 4000000
set_option maxRecDepth 8000
namespace Go.Proofs.YtmlpmdccfmmpoaaGreatDoor
open E
theorem Vx (p:List Rul) (hc : ∀r∈p,∀s∈r.stmts,s.ex.cnt≤100000):A8 Tryz.prog 37 [Rul.l p] (vB (Dy p)):=by
 generalize hR:Dy p=R
 have hv:=Vb p hc
 unfold Dy at hR
 by_cases h1:M7 p=true
 case neg=>
  rw [Bool.not_eq_true] at h1
  rw [h1] at hv hR
  simp only [Bool.false_and] at hR
  subst hR
  (refine A8.of_code mix Tryz.call37 k_37 (by simp) (fun hB=>?_);(try simp at hB);(try simp -implicitDefEqProofs))
  ((try simp at hv);(try simp -implicitDefEqProofs);repeat' first|(with_reducible apply A0<;>first|(simp only [eras,era,A1];first|with_reducible assumption)|(simp -implicitDefEqProofs)))
 have h3:=h1
 rw [h1] at hv hR
 rw [Bool.true_and] at hR
 unfold M7 at h3
 simp only [Bool.and_eq_true,decide_eq_true_eq,List.all_eq_true] at h3
 obtain⟨hrs,hpl⟩:=h3
 (refine A8.of_code mix Tryz.call37 k_37 (by simp) (fun hB=>?_);(try simp at hB);(try simp -implicitDefEqProofs))
 ((try simp at hv);(try simp -implicitDefEqProofs);repeat' first|(with_reducible apply A0<;>first|(simp only [eras,era,A1];first|with_reducible assumption)|(simp -implicitDefEqProofs)))
 refine A7 (X:=Nat) (fun k=>k≤p.length∧(p.take k).all Es=true∧((p.map (·.name)).take k).Nodup) (fun k=>[(3,.mp 0),(15,Rul.l p),(16,vI p.length),(17,vI k)])
  (fun k=>⟨[.mp (mS D8 (Bp ((p.map (·.name)).take k)))],[]⟩) (fun k=>p.length-k) 0 ⟨by simp,by simp,by simp⟩ (by simp [Bp]) ?_
 rintro k ⟨hk,hfi,hnd⟩ hbd
 clear hbd
 rcases Nat.lt_or_ge k p.length with h|h
 ·have hx:p[k]?=some p[k]:=by simp [h]
  have e3:IntKind.i64.wrap ((k:Int)+1)=(k:Int)+1:=wrap64 (by omega) (by omega)
  have hmem:=List.getElem_mem h
  have hrb:=hrs _ hmem
  have hone:=A3e hrb
  have hN:(p.map (·.name)).take (k+1)=(p.map (·.name)).take k++[p[k].name]:=Ag (by simp [h])
  have hlen:((p.map (·.name)).take k).length≤1000:=by simp;omega
  have hsl:p[k].stmts.length≤30:=by
   unfold D1 at hrb
   simp only [Bool.and_eq_true,decide_eq_true_eq] at hrb
   exact hrb.1.1.2
  have hpost:=A3f [p[k]] rfl (fun r hr=>by rw [List.mem_singleton.1 hr];omega)
  obtain⟨L,hL⟩ : ∃L,L=ddL (Dx (Bl [p[k]])):=⟨_,rfl⟩
  have hLl:L.length≤31:=by
   have h1:=Vw (Dx (Bl [p[k]]))
   have h2:=Jf p[k].stmts
   rw [Fv] at h1
   rw [hL]
   simp [Bl] at h1 ⊢
   omega
  rw [←hL] at hpost hone
  have hchk:=A35 [p[k]] (Bz L) (fun r hr=>by rw [List.mem_singleton.1 hr];exact hc _ hmem) (by simp [Bz];omega)
  rw [hone] at hchk
  have hall:(p.take (k+1)).all Es=Es p[k]:=by rw [Ag hx,List.all_append,hfi];simp
  have hno:Es p[k]=false→p.all Es=false:=fun hf=>by
   rw [Bool.eq_false_iff];intro h0
   rw [List.all_eq_true] at h0
   rw [h0 _ hmem] at hf;cases hf
  have hfd:Es p[k]=decide (Bv (fun _=>true) p[k].pair [] p[k].stmts=0):=rfl
  obtain⟨nm,pr,ss,to,hr⟩ : ∃nm pr ss to,p[k]=⟨nm,pr,ss,to⟩:=⟨_,_,_,_,rfl⟩
  have hrk:(p.map Rul.c)[k]?=some [.str nm,.bool pr,.sl (ss.map Stm.c),.int .i64 to]:=by simp [h,hr,Rul.c]
  have hcc:p[k].c=[.str nm,.bool pr,.sl (ss.map Stm.c),.int .i64 to]:=by rw [hr];rfl
  have hdup:nm∈(p.map (·.name)).take k→¬(p.map (·.name)).Nodup:=fun hm hn=>by
   have e:(p.map (·.name))=(p.map (·.name)).take (k+1)++(p.map (·.name)).drop (k+1):=(List.take_append_drop _ _).symm
   rw [e] at hn
   have:=(List.nodup_append.1 hn).1
   rw [hN,hr] at this
   exact (List.nodup_append.1 this).2.2 nm hm nm (by simp) rfl
  rw [hr] at hN hall hno hfd hchk hpost
  generalize hE:Bv (fun _=>true) pr [] ss=E at *
  simp only [] at hN hfd hchk
  clear hone hL
  rw [hfd] at hall hno
  simp only [Rul.l,List.map_cons,List.map_nil,Rul.c] at hpost hchk
  generalize hM:(p.map (·.name)).take k=M at *
  have hfm:=Ha D8 nm (Bp M)
  rw [Ei] at hfm
  have hsm:=M8 D8 nm true (Bp M)
  have hcl:(Bz L).length=L.length:=by simp [Bz]
  ((try simp at hpost);(try simp -implicitDefEqProofs [h,hrk,hcc]);repeat' first|(with_reducible apply A0<;>first|(simp only [eras,era,A1];first|with_reducible assumption)|(simp -implicitDefEqProofs [h,hrk,hcc])))
  refine Bm [(.slot 6,189,4)] (X:=Nat) (fun j=>j≤L.length) (fun j=>[(3,.mp 0),(5,.ptr 1 0),(6,.own 0 189 4 (((Bz L).map Account.c).take j)),(15,Rul.l p),(16,vI p.length),(17,vI k),(23,A0y L),(24,vI L.length),(25,vI j)])
   (fun j=>⟨[.mp (mS D8 (Bp M)),.cells [vS nm,vB pr,Stm.l ss,vI to]],[j]⟩) (fun j=>L.length-j) 0 (by omega) ?_ ?_
  ·simp
   exact⟨Au (fun v hv=>by obtain⟨p,_,rfl⟩:=List.mem_map.1 hv;rfl),Au (fun v hv=>by obtain⟨p,_,rfl⟩:=List.mem_map.1 hv;rfl)⟩
  rintro j hj hbd
  clear hbd
  rcases Nat.lt_or_ge j L.length with g|g
  ·obtain⟨c,gx⟩:=Aa g
   have g3:IntKind.i64.wrap ((j:Int)+1)=(j:Int)+1:=wrap64 (by omega) (by omega)
   have gc:(L.map fun n=>[T.int .i64 n])[j]?=some [T.int .i64 c]:=by simp [gx]
   have gc' : ∀h,(L.map fun n=>[T.int .i64 n])[j]'h=[T.int .i64 c]:=fun h=>by rw [List.getElem?_eq_getElem h] at gc;exact Option.some.inj gc
   have gap:=Ag (l:=(Bz L).map Account.c) (k:=j) (x:=[.int .i64 c,.int .i64 1,.int .i64 1,.int .i64 0]) (by simp [Bz,gx,Account.c])
   have gl:(((Bz L).map Account.c).take j).length=j:=by simp [Bz];omega
   generalize ((Bz L).map Account.c).take j=A at *
   (try simp -implicitDefEqProofs [g,gc,gc',g3,gl,maxLen])
   exact⟨⟨by omega,by omega⟩,j+1,by omega,by omega,⟨⟨Au (fun v hv=>by obtain⟨p,_,rfl⟩:=List.mem_map.1 hv;rfl),Au (fun v hv=>by obtain⟨p,_,rfl⟩:=List.mem_map.1 hv;rfl)⟩,rfl⟩,by rw [gap];exact leA.refl _,by push_cast;rfl⟩
  ·have hj':j=L.length:=by omega
   subst hj'
   have gt:((Bz L).map Account.c).take L.length=(Bz L).map Account.c:=List.take_of_length_le (by simp [Bz])
   rw [gt]
   simp only [Account.l] at hchk
   generalize (Bz L).map Account.c=A at *
   by_cases he:E=0
   ·rw [decide_eq_true he] at hall
    subst he
    by_cases hin:nm∈M
    ·rw [if_pos hin] at hfm
     have hRf:R=false:=by
      rw [←hR,Bool.and_eq_false_iff];right;exact decide_eq_false (hdup hin)
     subst hRf
     ((try simp at hchk);(try simp -implicitDefEqProofs [h,hfm]);repeat' first|(with_reducible apply A0<;>first|(simp only [eras,era,A1];first|with_reducible assumption)|(simp -implicitDefEqProofs [h,hfm])))
    ·rw [if_neg hin] at hfm
     rw [I5 hin] at hsm
     ((try simp at hchk);(try simp -implicitDefEqProofs [h,hfm,hsm,e3]);repeat' first|(with_reducible apply A0<;>first|(simp only [eras,era,A1];first|with_reducible assumption)|(simp -implicitDefEqProofs [h,hfm,hsm,e3])))
     exact⟨by unfold maxLen;omega,k+1,⟨by omega,List.all_eq_true.1 hall,by rw [hN,List.nodup_append];exact⟨hnd,by simp,fun a ha b hb=>by rw [List.mem_singleton.1 hb];exact fun e=>hin (e▸ha)⟩⟩,by omega,⟨by rw [hN],Au (fun v hv=>by obtain⟨p,_,rfl⟩:=List.mem_map.1 hv;rfl),Au (fun v hv=>by obtain⟨p,_,rfl⟩:=List.mem_map.1 hv;rfl)⟩,by push_cast;rfl⟩
   ·have he':(E==0)=false:=by simpa using he
    have he2:(E != 0)=true:=by simpa using he
    have hRf:R=false:=by
     rw [←hR,Bool.and_eq_false_iff];left;exact hno (decide_eq_false he)
    subst hRf
    ((try simp at hchk);(try simp -implicitDefEqProofs [h,he,he',he2]);repeat' first|(with_reducible apply A0<;>first|(simp only [eras,era,A1];first|with_reducible assumption)|(simp -implicitDefEqProofs [h,he,he',he2])))
 ·have:k=p.length:=by omega
  subst this
  have hRt:R=true:=by
   rw [List.take_length] at hfi
   rw [List.take_of_length_le (by simp)] at hnd
   rw [←hR,hfi,decide_eq_true hnd];rfl
  subst hRt
  (try simp -implicitDefEqProofs [h])
theorem A10 (p:List Rul) (l:List Src) (hfw:Mu p=true) (hl:l.length≤13) (hs : ∀s∈l,s.num.natAbs≤100000∧0<s.den∧s.den≤100000∧s.items.length≤1000) :
  A8 Tryz.prog 14 [Rul.l p,Src.l l] (psV (if Dy p=true then Cx (p.map Ak) l else ([],1))):=by
 obtain⟨f1,f2,f3⟩:=Lc hfw
 have hfi:Dy p=true→∀r∈p,Es r=true:=fun h=>by
  unfold Dy at h
  simp only [Bool.and_eq_true,List.all_eq_true] at h
  exact h.1.2
 exact Pi p l (Dy p) (Vx p fun r hr s h=>by have:=f3 r hr s h;omega) (fun h r hr=>⟨Et h r hr,fun _=>true,by have:=hfi h r hr;unfold Es at this;simpa using this⟩)
  (fun h r hr=>N2 (Et h r hr) (hfi h r hr)) hl (by omega) hs
theorem Pn (p:List Rul) (L:List Src) (hfw:Mu p=true) : ∀q∈(if Dy p=true then Cx (p.map Ak) L else ([],1)).1,q.parts.length≤1000000:=by
 intro q hq
 split at hq
 ·rename_i hsn
  unfold Cx at hq
  split at hq
  ·rename_i g
   cases hrr:Ff (p.map Ak) L with
   | none=>rw [hrr] at hq;simp at hq
   | some w=>
    rw [hrr] at hq
    have:=(Vv (fun c hc=>by
     obtain⟨r,hr,rfl⟩:=List.mem_map.1 hc
     exact Od hfw hr (Se (Et hsn r hr))) g.1 hrr hq).len
    omega
  ·simp at hq
 ·simp at hq
attribute [local simp] Cv.reflU

theorem A6a {T:List Nat} {B:List Bx} (h:OkU B):OkT ⟨B,T⟩:=fun n m h1 _=>h n m h1
theorem ColN.col {B:List Bx} {R:List Posting×Int} {r:V} {S':St} (h:ColN B R r S'):ColN B (Rm R) r S':=by
 obtain⟨B',ov,h1,h2,h3,h4,h5⟩:=h
 by_cases q:R.2=0
 ·rw [show Rm R=R from if_pos q]
  exact⟨B',ov,h1,h2,h3,h4,h5⟩
 ·rw [show Rm R=([],R.2) from if_neg q]
  rw [if_neg q] at h5
  exact⟨B',ov,h1,h2,h3,h4,by rw [if_neg q];exact h5⟩
theorem ColN.more {B0:List Bx} {X:List Bx} {R:List Posting×Int} {r:V} {S':St} (h:ColN (B0++X) R r S'):ColN B0 R r S':=by
 obtain⟨B',ov,h1,h2,h3,h4,h5⟩:=h
 exact⟨B',ov,h1,h2,⟨by have:=h3.1;simp at this;omega,fun j x hj hn=>h3.2 j x (Ae hj X) (by simp)⟩,h4,h5⟩
theorem A11 {P:Program} {f:Nat} {vs:List V} {S:St} {Φ Ψ:V→St→Prop} (h:FnE P f vs S Φ) (k : ∀r S',Φ r S'→Ψ r S'):FnE P f vs S Ψ:=
 ⟨h.1,fun g w us hI hus hrel=>(h.2 g w us hI hus hrel).mono fun e w' ⟨r,S',u,g',a,b⟩=>⟨r,S',u,g',k _ _ a,b⟩⟩
theorem A3g {P:Program} {f:Nat} {vs:List V} {S:St} {Φ:V→St→Prop} (h:FnE P f (frzVs vs S).1 (frzVs vs S).2 Φ):FnE P f vs S Φ:=by
 refine⟨h.1,fun g w us hI hus hrel=>?_⟩
 obtain⟨h1,h0,g',hm,hl,hr⟩:=frzVs_sound vs (fun j=>us.getD j undef) hI (fun j hj=>by
  have:=hrel j hj
  simpa [List.getD_eq_getElem?_getD,hj] using this)
 refine (h.2 g' w us hm.inv (by rw [hl];exact hus) (fun j hj=>by
  rw [h1]
  have:=hr j (by rw [←hl];exact hj)
  simpa [List.getD_eq_getElem?_getD,hj] using this)).mono fun e w' ⟨r,S',u,g2,a,b,c,d⟩=>⟨r,S',u,g2,a,b,c,hm.trans d⟩
theorem Sf (p:List Rul) (l:List Src) (hfw:Mu p=true) (hl:l.length≤13) (hs : ∀s∈l,s.num.natAbs≤100000∧0<s.den∧s.den≤100000∧s.items.length≤1000) (B:List Bx) (hU:OkU B) :
  FnE Tryz.prog 14 [Rul.l p,Src.l l] ⟨B,[]⟩ (ColN B (if Dy p=true then Cx (p.map Ak) l else ([],1))):=by
 obtain⟨f1,f2,f3⟩:=Lc hfw
 have hfi:Dy p=true→∀r∈p,Es r=true:=fun h=>by
  unfold Dy at h
  simp only [Bool.and_eq_true,List.all_eq_true] at h
  exact h.1.2
 have hsnd:=Vx p fun r hr s h=>by have:=f3 r hr s h;omega
 have hsn:Dy p=true→∀r∈p,A0q r:=fun h r hr=>⟨Et h r hr,fun _=>true,by have:=hfi h r hr;unfold Es at this;simpa using this⟩
 have hval:Dy p=true→∀r∈p,(D7 (Ak r)).2=true:=fun h r hr=>N2 (Et h r hr) (hfi h r hr)
 have hv:=Mm l (by omega)
 have hUX:OkU (B++[.cells [Rul.l p]]):=fun n m hn=>(A6.appU (hU n m (by simp at hn;omega))).2 ⟨⟨A3 _,rfl⟩,trivial⟩
 have hb0:(B++[Bx.cells [Rul.l p]])[B.length]?=some (.cells [Rul.l p]):=by rw [List.getElem?_append_right (by omega)];simp
 have hkX:Dw B (B++[.cells [Rul.l p]]) []:=(Dw.refl B []).app _
 have herr:ColN B ([],1) (.tup [.snil,vI 1]) ⟨B++[.cells [Rul.l p]],[]⟩:=⟨_,.snil,rfl,hUX,hkX,rfl,by rw [if_neg (by decide)]⟩
 have hUX0:=hUX (B.length+1) 0 (by simp)
 cases hsd:Dy p
 ·rw [if_neg (by decide)]
  rw [hsd] at hsnd
  unfold Src.l at *
  (refine FnE.of_code mix Tryz.call14 k_14 (by simp) (fun hB=>?_);(try simp at hB);(try simp -implicitDefEqProofs))
  ((try simp at hsnd);(try simp -implicitDefEqProofs);repeat' first|(with_reducible apply A0<;>first|(simp only [eras,era,A1];first|with_reducible assumption)|(simp -implicitDefEqProofs)))
  exact⟨_,_,herr,.inl (by simp [okN,okNs,hUX0])⟩
 rw [if_pos rfl]
 rw [hsd] at hsnd
 have hsn:=hsn hsd
 have hval:=hval hsd
 cases h1:Dc l
 ·rw [h1] at hv
  unfold Cx
  rw [if_neg (by simp [h1])]
  unfold Src.l at hv ⊢
  (refine FnE.of_code mix Tryz.call14 k_14 (by simp) (fun hB=>?_);(try simp at hB);(try simp -implicitDefEqProofs))
  ((try simp at hsnd hv);(try simp -implicitDefEqProofs);repeat' first|(with_reducible apply A0<;>first|(simp only [eras,era,A1];first|with_reducible assumption)|(simp -implicitDefEqProofs)))
  exact⟨_,_,herr,.inl (by simp [okN,okNs,hUX0])⟩
 rw [h1] at hv
 have hall:((p.map Ak).all fun x=>(D7 x).2)=true:=by
  rw [List.all_eq_true];intro x hx
  obtain⟨r,hr,rfl⟩:=List.mem_map.1 hx
  exact hval r hr
 rw [Pb h1 hall]
 obtain⟨D0,hD0⟩ : ∃D0:Rul,D0=⟨[],false,[],0⟩:=⟨_,rfl⟩
 have hcol:=Y5 39 40 [.ptr B.length 0] [.ptr B.length 0] (B++[.cells [Rul.l p]]) hUX l p.length (fun i=>(p.getD i D0).pair) (fun i s o=>Bh (p.getD i D0) s o i) hl (by omega) (fun k m hk=>by simp [okNs,okN];simp at hk;omega) (fun k m hk=>by simp [okNs,okN];simp at hk;omega)
  (fun i B2 hi hB2 hk=>by
   obtain⟨r,hx⟩:=Aa hi
   have e:p.getD i D0=r:=by rw [List.getD_eq_getElem?_getD,hx];rfl
   rw [e]
   exact Jd p i r hx B.length _ (A6a hB2) (hk.2 _ _ hb0 (by simp)))
  (fun i B2 b mb s oth hi hB2 hk hsm hf hpp hb hmb=>by
   obtain⟨r,hx⟩:=Aa hi
   have e:p.getD i D0=r:=by rw [List.getD_eq_getElem?_getD,hx];rfl
   rw [e] at hpp ⊢
   have hrm:r∈p:=List.mem_of_getElem? hx
   obtain⟨q1,q2,q3,q4⟩:=hs s hsm
   have q5:=(E2 h1 hsm).2.2
   obtain⟨hrb,known,hst⟩:=hsn r hrm
   exact Pk B.length b mb i p r B2 hB2 s oth ⟨q1,q2,q3,q4,q5⟩ (hk.2 _ _ hb0 (by simp)) hx hb hmb hrb r.pair (fun hpr=>by
    rw [if_pos hpr] at hpp
    obtain⟨t,ht1,_,ht3,_⟩:=hpp
    rw [←ht3];exact (E2 h1 ht1).1) (Ph hst))
 have hruns:E5 (fun i s o=>Bh (p.getD i D0) s o i) l (fun i=>(p.getD i D0).pair) (List.range p.length)=E5 (fun i s o=>Ce ((p.map Ak).getD i ⟨[],false,[]⟩) s o i) l (fun i=>((p.map Ak).getD i ⟨[],false,[]⟩).pair) (List.range (p.map Ak).length):=by
  unfold E5
  rw [List.length_map]
  have key : ∀is:List Nat,(∀i∈is,i<p.length)→(is.flatMap fun i=>l.flatMap (Bw (fun s o=>Bh (p.getD i D0) s o i) l (p.getD i D0).pair))=is.flatMap fun i=>l.flatMap (Bw (fun s o=>Ce ((p.map Ak).getD i ⟨[],false,[]⟩) s o i) l ((p.map Ak).getD i ⟨[],false,[]⟩).pair):=by
   intro is
   induction is with
   | nil=>intro _;rfl
   | cons i is ih=>
    intro hi
    rw [List.flatMap_cons,List.flatMap_cons,ih fun j hj=>hi j (by simp [hj])]
    obtain⟨r,hx⟩:=Aa (hi i (by simp))
    have e:p.getD i D0=r:=by rw [List.getD_eq_getElem?_getD,hx];rfl
    have e2:(p.map Ak).getD i ⟨[],false,[]⟩=Ak r:=by rw [List.getD_eq_getElem?_getD,List.getElem?_map,hx];rfl
    obtain⟨hrb,known,hst⟩:=hsn r (List.mem_of_getElem? hx)
    have e3:(fun (s:Src) (o:Int)=>Bh r s o i)=fun s o=>Ce (Ak r) s o i:=by funext s o;exact G9 hrb hst s o i
    rw [e,e2,e3];rfl
  exact key _ fun i hi=>List.mem_range.1 hi
 have hcol:=A11 hcol fun r S' h=>ColN.more (ColN.col h)
 rw [Mn,hruns,Jv] at hcol
 generalize Ud (Ff (p.map Ak) l)=W at *
 obtain⟨w1,w2⟩:=W
 unfold Src.l at hcol ⊢
 unfold Src.l at hv
 (refine FnE.of_code mix Tryz.call14 k_14 (by simp) (fun hB=>?_);(try simp at hB);(try simp -implicitDefEqProofs))
 ((try simp at hsnd hv);(try simp -implicitDefEqProofs);repeat' first|(with_reducible apply A0<;>first|(simp only [eras,era,A1];first|with_reducible assumption)|(simp -implicitDefEqProofs)))
 refine Ke hcol ?_
 rintro r S' ⟨B',ov,rfl,hBU,hk,rfl,ho⟩
 have h8:=hBU B'.length 0 (Nat.le_refl _)
 have h7:=hk.1
 (try simp -implicitDefEqProofs)
 refine⟨.tup [ov,vI w2],⟨B',[]⟩,⟨B',ov,rfl,hBU,hk,rfl,ho⟩,.inl ?_⟩
 have hov:okN B'.length 0 ov=true:=by
  split at ho
  ·rcases ho with ⟨rfl,_⟩|⟨kb,ks,rfl,hkb,_⟩
   ·rfl
   ·have:=A4 hkb
    simp [okN,this]
  ·rw [ho];rfl
 simp [h8,okN,okNs,hov]
 omega
end Go.Proofs.YtmlpmdccfmmpoaaGreatDoor
