/- Chapter 35: the law ExecuteNegates. -/
import Derived.Test.YtmlpmdccfmmpoaaGreatDoorLi2
import Derived.Test.YtmlpmdccfmmpoaaGreatDoorMaps
set_option linter.unusedSimpArgs false
set_option linter.unusedVariables false
set_option maxHeartbeats 4000000
set_option maxRecDepth 8000
namespace Go.Proofs.YtmlpmdccfmmpoaaGreatDoor
open E
attribute [local simp] Cv.reflU

theorem N6 : ∀(o:List Posting) (ks:List Nat),Ay (o.map Ie) ks=Ay o ks
 | [],_=>rfl
 | p::o,[]=>rfl
 | p::o,k::ks=>by
  rw [List.map_cons,Ay,Ay,N6 o ks]
  simp [Ie]
theorem A3j (cs:List Code):Cx cs []=([],0)∨Cx cs []=([],1):=by
 unfold Cx
 split
 ·have:Ff cs []=some []:=by
   have e:Zy [] (cs.zipIdx.map fun x=>(x.1.pair,fun s o=>Ce x.1 s o x.2))=[]:=by
    unfold Zy
    rw [List.flatMap_eq_nil_iff]
    intro x _
    rfl
   unfold Ff
   rw [e];rfl
  rw [this];exact .inl rfl
 ·exact .inr rfl
theorem Us {p:List Rul} {L:List Src} (hfw:Mu p=true) (hsn:Dy p=true) : ∀q∈(Cx (p.map Ak) L).1,PartsOk q.parts∧q.parts.length≤8000:=by
 intro q hq
 unfold Cx at hq
 split at hq
 ·rename_i g
  cases hrr:Ff (p.map Ak) L with
  | none=>rw [hrr] at hq;simp at hq
  | some w=>
   rw [hrr] at hq
   have:=Vv (fun c hc=>by
    obtain⟨r,hr,rfl⟩:=List.mem_map.1 hc
    exact Od hfw hr (Se (Et hsn r hr))) g.1 hrr hq
   exact⟨this.parts,this.len⟩
 ·simp at hq
def Hn (L:List Src) (i:Nat):List Src:=(L.take i).map Cn++L.drop i
theorem A17 (L:List Src) (i:Nat):(Hn L i).length=L.length:=by unfold Hn;simp;omega
theorem A18 {L:List Src} {i:Nat} {s:Src} (h:L[i]?=some s):(Hn L i)[i]?=some s:=by
 have:=A4 h
 unfold Hn
 rw [List.getElem?_append_right (by simp;omega)]
 simp
 rw [show i+(i-min i L.length)=i by omega]
 exact h
theorem A19 {L:List Src} {i:Nat} {s:Src} (h:L[i]?=some s):(Hn L i).set i (Cn s)=Hn L (i+1):=by
 have hl:=A4 h
 unfold Hn
 rw [List.set_append_right _ _ (by simp;omega),Ag h,List.map_append,List.append_assoc]
 congr 1
 have e:i-(List.map Cn (List.take i L)).length=0:=by simp;omega
 rw [e,List.drop_eq_getElem_cons hl]
 rfl
structure NI where
 i:Nat
 C:List Bx
structure NI.Ok (w:List Posting) (ks:List Nat) (kb i m:Nat) (C:List Bx):Prop where
 U:OkU C
 buf:C[kb]?=some (.buf 75 5 (Ay w ks))
 bx : ∀(j:Nat) (q:Posting) (k:Nat),w[j]?=some q→ks[j]?=some k→C[k]?=some (Gg (if j<i then q.parts else if j=i then q.parts.take m++(q.parts.drop m).map Di else q.parts.map Di))
theorem NI.next {w:List Posting} {ks:List Nat} {kb i:Nat} {q:Posting} {C:List Bx} (hq:w[i]?=some q) (h:NI.Ok w ks kb i q.parts.length C):NI.Ok w ks kb (i+1) 0 C:=by
 refine⟨h.U,h.buf,fun j p k h1 h2=>?_⟩
 rw [h.bx j p k h1 h2]
 rcases (by omega:j<i∨j=i∨j=i+1∨i+1<j) with h3|h3|h3|h3
 ·rw [if_pos h3,if_pos (by omega)]
 ·subst h3
  rw [hq] at h1
  cases h1
  rw [if_neg (by omega),if_pos rfl,if_pos (by omega),List.take_of_length_le (Nat.le_refl _),List.drop_of_length_le (Nat.le_refl _)]
  simp
 ·rw [if_neg (by omega),if_neg (by omega),if_neg (by omega),if_pos h3];simp
 ·rw [if_neg (by omega),if_neg (by omega),if_neg (by omega),if_neg (by omega)]
theorem A1a {ps:List Part} {m:Nat} {x:Part} (hx:ps[m]?=some x) {PS:List V} (hP:PS=((ps.take m++(ps.drop m).map Di).flatMap Part.c).map V.t) :
  PS.take (m*2+1)++vI x.amt::PS.drop (m*2+1+1)=((ps.take (m+1)++(ps.drop (m+1)).map Di).flatMap Part.c).map V.t:=by
 have hl:=A4 hx
 have hd:ps.drop m=x::ps.drop (m+1):=by
  rw [List.drop_eq_getElem_cons hl]
  rw [List.getElem?_eq_getElem hl] at hx
  rw [Option.some.inj hx]
 rw [Ag hx]
 rw [hd] at hP
 have hA:(((ps.take m).flatMap Part.c).map V.t).length=m*2:=by rw [List.length_map,H2,List.length_take];omega
 rw [List.map_cons,List.flatMap_append,List.flatMap_cons,List.map_append] at hP
 rw [List.append_assoc,List.singleton_append,List.flatMap_append,List.flatMap_cons,List.map_append]
 generalize ((ps.take m).flatMap Part.c).map V.t=A at *
 have e:PS=(A++[vI x.acc])++vI (-x.amt)::(((ps.drop (m+1)).map Di).flatMap Part.c).map V.t:=by rw [hP];simp [Part.c,Di]
 have hA1:(A++[vI x.acc]).length=m*2+1:=by simp [hA]
 have e1:PS.take (m*2+1)=A++[vI x.acc]:=by rw [e,List.take_left' hA1]
 have e2:PS.drop (m*2+1+1)=(((ps.drop (m+1)).map Di).flatMap Part.c).map V.t:=by
  rw [e,List.append_cons,List.drop_left' (by simp [hA])]
 rw [e1,e2]
 simp [Part.c]
theorem Ye (p:List Rul) (hok : ∀r∈p,r.ok) (l:List Sou) (hw : ∀y∈l,y.wf) (hwz : ∀y∈l,∀x∈y.items,inZ x.amt):A8 Tryz.prog 5 [Rul.l p,Sou.l l] (vB true):=by
 have ha:=Xl
 have hf:=A7q p
 have hf2:=A2w l []
 cases h1:Mu p
 ·rw [h1] at hf
  (refine A8.of_code mix Tryz.call5 k_5 (by simp) (fun hB=>?_);(try simp at hB);(try simp -implicitDefEqProofs))
  ((try simp at ha hf);(try simp -implicitDefEqProofs);repeat' first|(with_reducible apply A0<;>first|(simp only [eras,era,A1];first|with_reducible assumption)|(simp -implicitDefEqProofs)))
 rw [h1] at hf
 cases h2:Ue l []
 ·rw [h2] at hf2
  (refine A8.of_code mix Tryz.call5 k_5 (by simp) (fun hB=>?_);(try simp at hB);(try simp -implicitDefEqProofs))
  ((try simp at ha hf hf2);(try simp -implicitDefEqProofs);repeat' first|(with_reducible apply A0<;>first|(simp only [eras,era,A1];first|with_reducible assumption)|(simp -implicitDefEqProofs)))
 rw [h2] at hf2
 obtain⟨f1,f2,f3,f4⟩:=Sa h2
 obtain⟨g1,g2,g3⟩:=Lc h1
 have hs:=Xk l (by omega) hw
 have hrm:=A0r h2 hw
 have hown:=A0m p (by omega) (fun r hr=>by have:=g2 r hr;omega) (fun r hr s h=>by have:=g3 r hr s h;omega)
 have hv1:=A10 p (l.map Sou.src) h1 (by simp;omega) hrm
 have hpl:=Pn p (l.map Sou.src) h1
 have hsm:=A0s _ hpl
 have hLl:(l.map Sou.src).length=l.length:=by simp
 have hit : ∀s∈l.map Sou.src,s.items.length≤60:=fun s hs=>by
  obtain⟨z,hz,rfl⟩:=List.mem_map.1 hs
  exact f4 z hz
 (refine A8.of_code mix Tryz.call5 k_5 (by simp) (fun hB=>?_);(try simp at hB);(try simp -implicitDefEqProofs))
 ((try simp at ha hf hf2);(try simp -implicitDefEqProofs);repeat' first|(with_reducible apply A0<;>first|(simp only [eras,era,A1];first|with_reducible assumption)|(simp -implicitDefEqProofs)))
 refine A7 (X:=Nat) (fun i=>i≤p.length∧∀r∈p.take i,Sk r=true) (fun i=>[(0,Rul.l p),(1,Sou.l l),(5,vI i)]) (fun _=>St0) (fun i=>p.length-i) 0 ⟨by omega,by simp⟩ (by simp) ?_
 rintro i ⟨hi,hlin⟩ hbd
 clear hbd
 have e3:IntKind.i64.wrap ((i:Int)+1)=(i:Int)+1:=wrap64 (by omega) (by omega)
 rcases Nat.lt_or_ge i p.length with h|h
 ·obtain⟨r,hr⟩:=Aa h
  have hrm:=List.mem_of_getElem? hr
  have hrl:=g2 r hrm
  have hrc:=g3 r hrm
  have hpc:(p.map Rul.c)[i]?=some r.c:=by simp [hr]
  have hpc' : ∀h,(p.map Rul.c)[i]'h=r.c:=fun h=>by rw [List.getElem?_eq_getElem h] at hpc;exact Option.some.inj hpc
  have hnext:Sk r=true→∀y∈p.take (i+1),Sk y=true:=fun hl y hy=>by
   rw [Ag hr] at hy
   rcases List.mem_append.1 hy with hy|hy
   ·exact hlin y hy
   ·simp at hy;subst hy;exact hl
  obtain⟨nm,pr,ss,to⟩:=r
  simp only [] at hrl hrc
  (try simp -implicitDefEqProofs [h,hpc,hpc',Rul.c])
  refine A7 (X:=Nat) (fun k=>k≤ss.length∧∀x∈ss.take k,(x.kind==3&&x.ex.linE)=true) (fun k=>[(0,Rul.l p),(1,Sou.l l),(5,vI i),(6,vI k)]) (fun _=>St0) (fun k=>ss.length-k) 0 ⟨by omega,by simp⟩ (by simp) ?_
  rintro k ⟨hk,hl2⟩ hbd
  clear hbd
  have e4:IntKind.i64.wrap ((k:Int)+1)=(k:Int)+1:=wrap64 (by omega) (by omega)
  rcases Nat.lt_or_ge k ss.length with g|g
  ·obtain⟨x,hx⟩:=Aa g
   have hxm:=List.mem_of_getElem? hx
   have hli:=A16 x.ex (by have:=hrc x hxm;omega)
   have hsc:(ss.map Stm.c)[k]?=some x.c:=by simp [hx]
   have hsc' : ∀h,(ss.map Stm.c)[k]'h=x.c:=fun h=>by rw [List.getElem?_eq_getElem h] at hsc;exact Option.some.inj hsc
   have hlc:=Du x.ex
   have htc:=Cw x.ex
   have hnx:(x.kind==3&&x.ex.linE)=true→∀y∈ss.take (k+1),(y.kind==3&&y.ex.linE)=true:=fun hl y hy=>by
    rw [Ag hx] at hy
    rcases List.mem_append.1 hy with hy|hy
    ·exact hl2 y hy
    ·simp at hy;subst hy;exact hl
   obtain⟨sk,sa,sn,sx⟩:=x
   simp only [] at hli hlc htc hnx
   by_cases h3:sk=3
   ·subst h3
    cases hb:sx.linE
    ·rw [hb] at hli
     ((try simp at hli);(try simp -implicitDefEqProofs [h,hpc,hpc',Rul.c,g,hsc,hsc',Stm.c,hlc,htc]);repeat' first|(with_reducible apply A0<;>first|(simp only [eras,era,A1];first|with_reducible assumption)|(simp -implicitDefEqProofs [h,hpc,hpc',Rul.c,g,hsc,hsc',Stm.c,hlc,htc])))
    ·rw [hb] at hli hnx
     ((try simp at hli);(try simp -implicitDefEqProofs [h,hpc,hpc',Rul.c,g,hsc,hsc',Stm.c,hlc,htc,e4]);repeat' first|(with_reducible apply A0<;>first|(simp only [eras,era,A1];first|with_reducible assumption)|(simp -implicitDefEqProofs [h,hpc,hpc',Rul.c,g,hsc,hsc',Stm.c,hlc,htc,e4])))
     exact⟨k+1,⟨by omega,by simpa using hnx rfl⟩,by omega,by push_cast;rfl⟩
   ·have h3':(sk != 3)=true:=by simpa using h3
    (try simp -implicitDefEqProofs [h,hpc,hpc',Rul.c,g,hsc,hsc',Stm.c,hlc,htc,h3,h3'])
  ·have:k=ss.length:=by omega
   subst this
   (try simp -implicitDefEqProofs [h,hpc,hpc',Rul.c,e3])
   refine⟨i+1,⟨by omega,hnext ?_⟩,by omega,by push_cast;rfl⟩
   rw [List.take_of_length_le (Nat.le_refl _)] at hl2
   unfold Sk
   rw [List.all_eq_true];exact hl2
 have:i=p.length:=by omega
 subst this
 rw [List.take_of_length_le (Nat.le_refl _)] at hlin
 clear e3 h hi
 cases hl0:l with
 | nil=>
  subst hl0
  simp only [List.map_nil] at hs hv1 hsm
  have hW : ∃e,(if Dy p=true then Cx (p.map Ak) [] else ([],1))=([],e):=by
   split
   ·rcases A3j (p.map Ak) with h|h<;>exact⟨_,h⟩
   ·exact⟨1,rfl⟩
  obtain⟨e,hW⟩:=hW
  rw [hW] at hv1 hsm
  unfold Src.l Src.ql at *
  unfold psV at hv1
  simp only [List.map_nil] at *
  ((try simp at hs hown hv1 hsm);(try simp -implicitDefEqProofs);repeat' first|(with_reducible apply A0<;>first|(simp only [eras,era,A1];first|with_reducible assumption)|(simp -implicitDefEqProofs)))
  refine A7 (X:=Unit) (fun _=>True) (fun _=>[(0,Rul.l p),(7,.t (.sl [])),(9,.t (.sl [])),(11,vI (0:Nat))]) (fun _=>St0) (fun _=>0) () trivial (by simp) ?_
  rintro _ _ hbd
  clear hbd
  ((try simp at hown hv1);(try simp -implicitDefEqProofs);repeat' first|(with_reducible apply A0<;>first|(simp only [eras,era,A1];first|with_reducible assumption)|(simp -implicitDefEqProofs)))
  refine A7 (X:=Unit) (fun _=>True) (fun _=>[(15,.t (.sl [])),(16,vI e),(17,.t (.sl [])),(18,vI e),(19,vI (0:Nat))]) (fun _=>St0) (fun _=>0) () trivial (by simp) ?_
  rintro _ _ hbd
  clear hbd
  ((try simp at hsm);(try simp -implicitDefEqProofs);repeat' first|(with_reducible apply A0<;>first|(simp only [eras,era,A1];first|with_reducible assumption)|(simp -implicitDefEqProofs)))
 | cons l0 lt=>
 rw [←hl0]
 have hne:l≠[]:=by rw [hl0];simp
 have hlp:l.length≠0:=by rw [hl0];simp
 clear hl0
 have hsB:=Ul l [] (fun n m _=>trivial) hne (by omega) hw
 obtain⟨L,hL⟩ : ∃L,L=l.map Sou.src:=⟨_,rfl⟩
 rw [←hL] at hs hsB hv1 hsm hpl hrm hLl hit
 obtain⟨Q,hQ⟩ : ∃Q:List Bx,Q=List.replicate (3*l.length-2) Bx.dead:=⟨_,rfl⟩
 have hQl:Q.length=3*l.length-2:=by rw [hQ];simp
 rw [List.nil_append,←hQ,List.length_nil,Nat.zero_add,←hQl] at hsB
 have hQU:OkU Q:=fun n m hn=>by
  rw [hQ]
  generalize 3*l.length-2=w
  clear hsB hQ hQl hn
  induction w with
  | zero=>trivial
  | succ w ih=>exact⟨trivial,ih⟩
 have hbU : ∀(M:List Src) n m,Q.length+2≤n→A6 n m (Q++[Je M,Hm L]) (Q++[Je M,Hm L]):=fun M n m hn=>(A6.appU (hQU n m (by omega))).2 ⟨Ld _ _ _,Hj _ _ _,trivial⟩
 have gz : ∀(l:List Bx),(Q++l)[Q.length]?=l[0]?:=fun l=>by rw [List.getElem?_append_right (by omega)];simp
 have g1 : ∀(l:List Bx) (j:Nat),(Q++l)[Q.length+j]?=l[j]?:=fun l j=>by rw [List.getElem?_append_right (by omega)];simp
 have s0 : ∀(l:List Bx) (v:Bx),(Q++l).set Q.length v=Q++l.set 0 v:=fun l v=>by rw [List.set_append_right _ _ (by omega)];simp
 have s1 : ∀(l:List Bx) (j:Nat) (v:Bx),(Q++l).set (Q.length+j) v=Q++l.set j v:=fun l j v=>by rw [List.set_append_right _ _ (by omega)];simp
 unfold Src.l Src.ql at hs
 unfold Src.l psV at hv1
 (try simp -implicitDefEqProofs)
 refine L3 hs rfl ?_
 (try simp -implicitDefEqProofs)
 refine Ab hsB ?_
 (try simp -implicitDefEqProofs)
 refine A7 (X:=Nat) (fun i=>i≤L.length) (fun i=>[(0,Rul.l p),(7,.t (.sl (L.map Src.c))),(9,.bw Q.length l.length),(11,vI i)]) (fun i=>⟨Q++[Je (Hn L i),Hm L],[]⟩) (fun i=>L.length-i) 0 (by omega) ?hs3 ?_
 case hs3=>simp [okN,Hn,hbU]
 rintro i hi hbd
 clear hbd
 have e3:IntKind.i64.wrap ((i:Int)+1)=(i:Int)+1:=wrap64 (by omega) (by omega)
 rcases Nat.lt_or_ge i L.length with h|h
 ·obtain⟨s,hsi⟩:=Aa h
  have hmx:=A18 hsi
  have hs60:=hit s (List.mem_of_getElem? hsi)
  obtain⟨ls,hls⟩ : ∃ls,ls=(Hn L i).flatMap Src.c:=⟨_,rfl⟩
  have hbS:Je (Hn L i)=.buf 68 7 (ls.map .t):=by rw [hls];rfl
  have hlsl:ls.length=l.length*7:=by rw [hls,(Mz _).1,A17,hLl]
  have hcell:ls[i*7+6]?=some (.sl (s.items.map Item.c)):=by
   rw [hls]
   have:=fm_row (c:=Src.c) (z:=7) (fun _=>rfl) (Hn L i) i s hmx 6 (by omega)
   rw [this];rfl
  have hcell' : ∀h,ls[i*7+6]'h=.sl (s.items.map Item.c):=fun h=>by rw [List.getElem?_eq_getElem h] at hcell;exact Option.some.inj hcell
  have hiv:i*7+6<ls.length:=by omega
  have hiv2:i*7+6+1≤ls.length:=by omega
  have hil:i<l.length:=by omega
  obtain⟨its,hits⟩ : ∃its,its=s.items:=⟨_,rfl⟩
  rw [←hits] at hcell hcell' hs60
  have hLe:=fun n m (hn:Q.length+2≤n)=>hbU (Hn L i) n m hn
  rw [hbS] at hLe ⊢
  have hLe0:=hLe (Q.length+2) 1 (by omega)
  have hnext : ∀es:List Item,es=its.map Sg→LeL leC (List.take (i*7+6) (List.map V.t ls)++V.own 0 72 7 (es.map Item.c)::List.drop (i*7+6+1) (List.map V.t ls)) (((Hn L (i+1)).flatMap Src.c).map .t):=fun es he=>by
   rw [←A19 hsi]
   have:=Sn (it:=s.items.map Sg) hmx
   unfold Cn
   rw [this,←hls,←hits,he,List.map_append,List.map_cons,List.map_take,List.map_drop]
   generalize List.take (i*7+6) (List.map V.t ls)=A
   generalize List.drop (i*7+6+1) (List.map V.t ls)=C
   induction A with
   | nil=>exact⟨I3 ..,A3 _⟩
   | cons x A ih=>exact⟨leC.refl _,ih⟩
  (try simp -implicitDefEqProofs [h,hil,gz,g1,s0,s1,hcell,hcell',hiv,hiv2])
  refine Bm [(.slot 12,72,7)] (X:=Nat) (fun k=>k≤its.length)
   (fun k=>[(0,Rul.l p),(7,.t (.sl (L.map Src.c))),(9,.bw Q.length l.length),(11,vI i),(12,.own 0 72 7 (((its.take k).map Sg).map Item.c)),(13,vI k)])
   (fun k=>⟨Q++[.buf 68 7 (ls.map .t),Hm L],[k]⟩) (fun k=>its.length-k) 0 (by omega) ?hs4 ?_
  case hs4=>simp [okN,hLe0]
  rintro k hk hbd
  clear hbd
  have e4:IntKind.i64.wrap ((k:Int)+1)=(k:Int)+1:=wrap64 (by omega) (by omega)
  rcases Nat.lt_or_ge k its.length with g|g
  ·obtain⟨z,hz⟩:=Aa g
   have hzc:(its.map Item.c)[k]?=some z.c:=by simp [hz]
   have hzc' : ∀h,(its.map Item.c)[k]'h=z.c:=fun h=>by rw [List.getElem?_eq_getElem h] at hzc;exact Option.some.inj hzc
   have htk:=Ag hz
   obtain⟨i1,i2,i3,i4,i5,i6,i7⟩:=z
   (try simp -implicitDefEqProofs [h,hil,gz,g1,s0,s1,hcell,hcell',hiv,hiv2,g,hzc,hzc',Item.c,e4,maxLen])
   refine⟨⟨by omega,by omega,by omega⟩,k+1,by omega,by omega,⟨by simpa using A6.ext [.cells [vI i1,vI i2,vI i3,vI i4,vI i5,vI i6,vI (IntKind.i64.wrap (-i7))]] hLe0,by omega⟩,?_,by push_cast;rfl⟩
   rw [←List.map_take,←List.map_take,htk,List.map_append];exact leA.refl _
  ·have:k=its.length:=by omega
   subst this
   (try simp -implicitDefEqProofs [h,hil,gz,g1,s0,s1,hcell,hcell',hiv,hiv2,e3])
   exact⟨i+1,by omega,by omega,(A6.appU (hQU _ _ (by omega))).2 ⟨⟨rfl,rfl,by simpa using hnext (its.map Sg) rfl,Dq _ _ _⟩,Hj _ _ _,trivial⟩,by push_cast;rfl⟩
 have:i=L.length:=by omega
 subst this
 have hmx:Hn L L.length=L.map Cn:=by unfold Hn;simp
 rw [hmx]
 have hlt : ¬L.length<l.length:=by omega
 (try simp -implicitDefEqProofs [hlt])
 refine L3 hown rfl ?_
 (try simp -implicitDefEqProofs)
 refine L3 hv1 rfl ?_
 (try simp -implicitDefEqProofs)
 refine L3 hown rfl ?_
 (try simp -implicitDefEqProofs)
 have hNS : ∀s∈L.map Cn,s.num.natAbs≤100000∧0<s.den∧s.den≤100000∧s.items.length≤1000:=fun s hs=>by
  obtain⟨z,hz,rfl⟩:=List.mem_map.1 hs
  obtain⟨q1,q2,q3,q4⟩:=hrm z hz
  exact⟨q1,q2,q3,by simpa [Cn] using q4⟩
 have hN:=Sf p (L.map Cn) h1 (by simp;omega) hNS (Q++[.dead,Hm L]) (fun n m hn=>(A6.appU (hQU n m (by simp at hn;omega))).2 ⟨trivial,Hj _ _ _,trivial⟩)
 have hneg:(if Dy p=true then Cx (p.map Ak) (L.map Cn) else ([],1))=((if Dy p=true then Cx (p.map Ak) L else ([],1)).1.map Ie,(if Dy p=true then Cx (p.map Ak) L else ([],1)).2):=by
  split
  ·rename_i hsn
   have hfi : ∀r∈p,Es r=true:=by
    unfold Dy at hsn
    simp only [Bool.and_eq_true,List.all_eq_true] at hsn
    exact hsn.1.2
   refine A15 (fun r hr=>?_) fun s hs x hx=>?_
   ·have hrb:=Et hsn r hr
    refine⟨hlin r hr,fun x hx=>?_,fun s oth rule=>G9 (known:=fun _=>true) hrb (by have:=hfi r hr;unfold Es at this;simpa using this) s oth rule⟩
    unfold D1 at hrb
    simp only [Bool.and_eq_true,List.all_eq_true] at hrb
    exact (Vs (hrb.2 x hx)).1
   ·rw [hL] at hs
    obtain⟨z,hz,rfl⟩:=List.mem_map.1 hs
    have:=hwz z hz x hx
    unfold inZ at this
    omega
  ·rfl
 rw [hneg] at hN
 have hWp : ∀q∈(if Dy p=true then Cx (p.map Ak) L else ([],1)).1,PartsOk q.parts∧q.parts.length≤8000:=by
  split
  ·rename_i hsn
   exact Us h1 hsn
  ·simp
 have hWe:(if Dy p=true then Cx (p.map Ak) L else ([],1)).2≠0→(if Dy p=true then Cx (p.map Ak) L else ([],1)).1=[]:=by
  split
  ·unfold Cx
   split
   ·cases Ff (p.map Ak) L<;>simp
   ·simp
  ·simp
 clear hneg
 generalize (if Dy p=true then Cx (p.map Ak) L else ([],1))=W at *
 obtain⟨w1,w2⟩:=W
 simp only [] at hWp hWe hsm hN
 have hMl:(L.map Cn).length=l.length:=by simp;omega
 have hmlen:=(Mz (L.map Cn)).1
 have hfz:frzVs [Rul.l p,.bw Q.length l.length] ⟨Q++[Je (L.map Cn),Hm L],[]⟩=([Rul.l p,Src.l (L.map Cn)],⟨Q++[.dead,Hm L],[]⟩):=by
  have hrow:=A0t (c:=Src.c) (z:=7) (fun _=>rfl) (L.map Cn)
  rw [hMl] at hrow hmlen
  unfold Je Src.l
  generalize (L.map Cn).flatMap Src.c=cl at *
  have hclt:(cl.map V.t).take (l.length*7)=cl.map V.t:=List.take_of_length_le (by simp;omega)
  simp only [frzVs,Bs,gz,List.getElem?_cons_zero,Ef,List.drop_zero,hclt,Yg,Option.bind_some,hrow,s0,List.set_cons_zero]
 refine Ke (A3g (Φ:=ColN (Q++[.dead,Hm L]) (w1.map Ie,w2)) (by rw [hfz];exact hN)) ?_
 rintro r S' ⟨B',ov,rfl,hBU,hk,rfl,ho⟩
 simp only [] at ho
 have hBU0:=hBU B'.length 0 (Nat.le_refl _)
 have hcase:(ov=.snil∧w1=[])∨(w2=0∧∃kb ks,ov=.bw kb w1.length∧B'[kb]?=some (.buf 75 5 (Ay w1 ks))∧PartsN (w1.map Ie) ks B'):=by
  by_cases h:w2=0
  ·rw [if_pos h] at ho
   rcases ho with ⟨e1,e2⟩|⟨kb,ks,e1,e2,e3⟩
   ·exact .inl ⟨e1,by simpa using e2⟩
   ·rw [List.length_map] at e1
    rw [N6] at e2
    exact .inr ⟨h,kb,ks,e1,e2,e3⟩
  ·rw [if_neg h] at ho
   exact .inl ⟨ho,hWe h⟩
 clear ho hN hv1 hs hown hsB gz g1 s0 s1 hfz
 (try simp -implicitDefEqProofs)
 rcases hcase with ⟨rfl,rfl⟩|⟨rfl,kb,ks,rfl,hkb,hpn⟩
 ·refine A7 (X:=Unit) (fun _=>True) (fun _=>[(15,.t (.sl [])),(16,vI w2),(17,.snil),(18,vI w2),(19,vI (0:Nat))]) (fun _=>⟨B',[]⟩) (fun _=>0) () trivial (by simp [okN,hBU0]) ?_
  rintro _ _ hbd
  clear hbd
  ((try simp at hsm);(try simp -implicitDefEqProofs);repeat' first|(with_reducible apply A0<;>first|(simp only [eras,era,A1];first|with_reducible assumption)|(simp -implicitDefEqProofs)))
 have hpl:=hpn.len
 rw [List.length_map] at hpl
 have hcl:=Ga hpl
 have h0:NI.Ok w1 ks kb 0 0 B':=⟨hBU,hkb,fun j q k h1 h2=>by
  have:=hpn.box j (Ie q) k (by rw [List.getElem?_map,h1];rfl) h2
  rw [this]
  rw [if_neg (by omega)]
  split<;>simp [Ie]⟩
 have hkbl:=A4 hkb
 have hinj : ∀(i j a b:Nat),ks[i]?=some a→ks[j]?=some b→i≠j→a≠b:=fun i j a b h1 h2 h3=>by
  have hp:=hpn.inc
  rw [List.pairwise_iff_getElem] at hp
  obtain⟨i1,i2⟩:=List.getElem?_eq_some_iff.1 h1
  obtain⟨j1,j2⟩:=List.getElem?_eq_some_iff.1 h2
  rcases Nat.lt_or_gt_of_ne h3 with h|h
  ·have:=hp i j i1 j1 h;omega
  ·have:=hp j i j1 i1 h;omega
 refine A7 (X:=NI) (fun X=>X.i≤w1.length∧NI.Ok w1 ks kb X.i 0 X.C) (fun X=>[(15,Posting.l w1),(16,vI 0),(17,.bw kb w1.length),(18,vI 0),(19,vI X.i)]) (fun X=>⟨X.C,[]⟩) (fun X=>w1.length-X.i) ⟨0,B'⟩ ⟨by simp,h0⟩ (by simp [okN,hBU0,hkbl]) ?_
 rintro ⟨i,C⟩ ⟨hi,hC⟩ hbd
 simp only [] at hi hC
 have hw9:w1.length≤maxLen:=by simpa using hbd 15 (w1.map Posting.c) rfl
 unfold maxLen at hw9
 clear hbd
 have hCl:=A4 hC.buf
 rcases Nat.lt_or_ge i w1.length with h|h
 ·have e3:IntKind.i64.wrap ((i:Int)+1)=(i:Int)+1:=wrap64 (by omega) (by omega)
  obtain⟨q,hq⟩:=Aa h
  obtain⟨k,hk2⟩:=Aa (show i<ks.length by omega)
  obtain⟨hqo,hq8⟩:=hWp q (List.mem_of_getElem? hq)
  have c4:=Ig hq hk2 4 (by omega)
  simp only [List.getElem?_cons_zero,List.getElem?_cons_succ] at c4
  have l5:i*5+4+1≤(Ay w1 ks).length:=by omega
  have hCb:=hC.buf
  have hC0:=hC.U C.length 0 (Nat.le_refl _)
  obtain⟨CS,hCS⟩ : ∃CS,CS=Ay w1 ks:=⟨_,rfl⟩
  rw [←hCS] at c4 l5 hCb
  (try simp -implicitDefEqProofs [h,hCb,c4,l5])
  refine A7 (X:=NI) (fun X=>X.i≤q.parts.length∧NI.Ok w1 ks kb i X.i X.C) (fun X=>[(15,Posting.l w1),(16,vI 0),(17,.bw kb w1.length),(18,vI 0),(19,vI i),(20,vI X.i)]) (fun X=>⟨X.C,[]⟩) (fun X=>q.parts.length-X.i) ⟨0,C⟩ ⟨by simp,hC⟩ (by simp [okN,hC0,hCl]) ?_
  rintro ⟨m,D⟩ ⟨hm,hD⟩ hbd
  simp only [] at hm hD
  clear hbd hCb hC0
  have e4:IntKind.i64.wrap ((m:Int)+1)=(m:Int)+1:=wrap64 (by omega) (by omega)
  have hDl:=A4 hD.buf
  have hDb:=hD.buf
  rw [←hCS] at hDb
  have hD0:=hD.U D.length 0 (Nat.le_refl _)
  rcases Nat.lt_or_ge m q.parts.length with g|g
  ·obtain⟨x,hx⟩:=Aa g
   have hDk:=hD.bx i q k hq hk2
   rw [if_neg (by omega),if_pos rfl] at hDk
   have hkl:=A4 hDk
   have hxa:=G3 (hqo.am x (List.mem_of_getElem? hx))
   have hgm:(q.parts.take m++(q.parts.drop m).map Di)[m]?=some (Di x):=by
    rw [List.getElem?_append_right (by simp;omega)]
    simp [show m-min m q.parts.length=0 by omega,hx]
   obtain⟨p0,p1⟩:=Of hgm
   have hpl9:=H2 (q.parts.take m++(q.parts.drop m).map Di)
   have hlq:(q.parts.take m++(q.parts.drop m).map Di).length=q.parts.length:=by simp;omega
   unfold Gg at hDk
   obtain⟨PS,hPS⟩ : ∃PS,PS=((q.parts.take m++(q.parts.drop m).map Di).flatMap Part.c).map V.t:=⟨_,rfl⟩
   have hPl:PS.length=q.parts.length*2:=by rw [hPS,List.length_map,hpl9,hlq]
   have hst:=A1a hx hPS
   rw [←hPS] at hDk p0 p1
   have m1:m*2+1+1≤PS.length:=by omega
   have hng:IntKind.i64.wrap (-(Di x).amt)=x.amt:=by unfold Di;simp only [];rw [wrap64 (by omega) (by omega)];omega
   have hng':IntKind.i64.wrap (0-(Di x).amt)=x.amt:=by rw [show (0:Int)-(Di x).amt = -(Di x).amt by omega];exact hng
   obtain⟨na,hna⟩ : ∃na,na=(Di x).amt:=⟨_,rfl⟩
   rw [←hna] at p1 hng hng'
   have hnext:NI.Ok w1 ks kb i (m+1) (D.set k (.buf 77 2 (PS.take (m*2+1)++vI x.amt::PS.drop (m*2+1+1)))):=by
    rw [hst]
    refine⟨fun n z hn=>A6.set (Mx n z _ _ _) k (hD.U n z (by simpa using hn)),?_,fun j q' k' h1 h2=>?_⟩
    ·rw [List.getElem?_set_ne (fun e=>by rw [e,hDb] at hDk;cases hDk)];exact hD.buf
    ·by_cases hj:j=i
     ·subst hj
      rw [hq] at h1
      rw [hk2] at h2
      cases h1
      cases h2
      rw [List.getElem?_set_self hkl,if_neg (by omega),if_pos rfl];rfl
     ·rw [List.getElem?_set_ne (hinj i j k k' hk2 h2 (Ne.symm hj)),hD.bx j q' k' h1 h2,if_neg hj,if_neg hj]
   have hn0:=hnext.U D.length 0 (by simp)
   have hD5:D[k]=.buf 77 2 PS:=by rw [List.getElem?_eq_getElem hkl] at hDk;exact Option.some.inj hDk
   (try simp -implicitDefEqProofs [h,hDb,c4,l5,g,hDk,p0,p1,m1,hng,hng',e4,hD5])
   exact⟨⟨m+1,_⟩,⟨by simp only [];omega,hnext⟩,by simp only [];omega,by simp [okN,hn0,hDl]⟩
  ·have:m=q.parts.length:=by omega
   subst this
   (try simp -implicitDefEqProofs [h,hDb,c4,l5,e3])
   exact⟨⟨i+1,D⟩,⟨by simp only [];omega,NI.next hq hD⟩,by simp only [];omega,by simp [okN,hD0,hDl]⟩
 ·have:i=w1.length:=by omega
  subst this
  have hsN:=A3i hC.U hC.buf ⟨hpl,fun j q k h1 h2=>by
   rw [hC.bx j q k h1 h2,if_pos (A4 h1)],hpn.inc⟩ (fun q hq=>by have:=(hWp q hq).2;omega)
  (try simp -implicitDefEqProofs)
  refine Ab hsN ?_
  (try simp -implicitDefEqProofs)
end Go.Proofs.YtmlpmdccfmmpoaaGreatDoor
