/- Chapter 34: the builder's add. -/
import Derived.Test.YtmlpmdccfmmpoaaGreatDoorPrg
import Derived.Test.YtmlpmdccfmmpoaaGreatDoorExp
import Derived.Test.YtmlpmdccfmmpoaaGreatDoorRul
section
set_option linter.unusedSimpArgs false
set_option linter.unusedVariables false
set_option maxHeartbeats 4000000
set_option maxRecDepth 8000
namespace Go.Proofs.YtmlpmdccfmmpoaaGreatDoor
open E

def Db (k m:Nat) (es:List Ins):Bx:=.cells [.own k 93 3 (es.map Ins.c),.mp m]
def Ko (B:List Bx) (K:List Nat):Prop:=∀n m,B.length≤n→K.length≤m→Aa n m B B
theorem Fz {n h:Nat} {k m:Nat} (es:List Ins) (hm:m<n) (hk:k<h):E.leB n h (Db k m es) (Db k m es):=by
 unfold Db
 simp [E.leB,A4,okNs,okN,hm,hk]
theorem Ko.set {B:List Bx} {K:List Nat} {b k m:Nat} (h:Ko B K) (es:List Ins) (hm:m<B.length) (hk:k<K.length) (j:Nat):Ko (B.set b (Db k m es)) (K.set k j):=fun n h' hn hh=>by
 rw [List.length_set] at hn hh
 exact Aa.setR (Fz es (by omega) (by omega)) b (h n h' hn hh)
theorem Ko.more {B:List Bx} {K:List Nat} (h:Ko B K) (l:List Bx) (hl : ∀n m,B.length+l.length≤n→K.length≤m→Aa n m l l):Ko (B++l) K:=fun n m hn hm=>by
 rw [List.length_append] at hn
 exact (Aa.app' (h n m (by omega) hm)).2 (hl n m hn hm)
theorem A0e (b k m:Nat) (es:List Ins) (op x y:Int) (B:List Bx) (K:List Nat) (hB:B[b]?=some (Db k m es)) (hK:K[k]?=some es.length) (hl:es.length≤1000000) (hm:m<B.length) (hok:Ko B K) :
  FnS Tryz.prog 92 [.ptr b 0,vI op,vI x,vI y] ⟨B,K⟩ (.tup []) ⟨B.set b (Db k m (es++[⟨op,x,y⟩])),K.set k (es.length+1)⟩:=by
 have hb:b<B.length:=(List.getElem?_eq_some_iff.1 hB).1
 have hk:k<K.length:=(List.getElem?_eq_some_iff.1 hK).1
 have hfin:Aa B.length K.length (B.set b (Db k m (es++[⟨op,x,y⟩]))) (B.set b (Db k m (es++[⟨op,x,y⟩]))):=Aa.setR (Fz _ hm hk) b (hok _ _ (Nat.le_refl _) (Nat.le_refl _))
 have hkk:K[k]=es.length:=by simpa [hk] using hK
 unfold Db at hB hfin ⊢
 have hBe:=hB
 rw [List.getElem?_eq_getElem hb] at hBe
 have hBe:=Option.some.inj hBe
 (refine FnS.of_code mix Tryz.call92 k_92 (by simp) (fun hB=>?_);(try simp at hB);(try simp -implicitDefEqProofs))
 ((try simp -implicitDefEqProofs [hB,hBe,hb,hk,hK,hkk]);repeat' first|((with_reducible first|apply A5|apply A6|apply A3)<;>(intro hc;have hc':=hc;(try simp at hc');simp -implicitDefEqProofs [hc,hc',hB,hBe,hb,hk,hK,hkk])))
 exact⟨⟨by unfold maxLen;omega,by omega⟩,by simpa [Ins.c] using hfin,At.refl _⟩
abbrev mpL (L:List (List UInt8×Int)):Bx:=.mp (mS vI L)
theorem A2u (M:List (List UInt8)) (L:List (List UInt8×Int)) (hL : ∀n,(B7 L n).getD 0=J7 M n) : ∀(x:Xp),x.prop=true→∀(b k m:Nat) (es:List Ins) (B:List Bx) (K:List Nat),B[b]?=some (Db k m es)→B[m]?=some (mpL L)→K[k]?=some es.length→
  es.length+x.cnt≤1000000→Ko B K→FnS Tryz.prog 91 [.ptr b 0,x.v] ⟨B,K⟩ (.tup []) ⟨B.set b (Db k m (es++x.codeX M)),K.set k (es.length+x.cnt)⟩:=by
 refine Xp.ind fun kd vl fr to nm xs ih hp b k m es B K hbx hM hK hlen hok=>?_
 rw [Xp.prop,Bool.and_eq_true] at hp
 obtain⟨hsh,hps⟩:=hp
 have hpm:=Xp.props_mem hps
 rw [Xp.cnt] at hlen ⊢
 rw [Xp.codeX,Xp.v,Xp.c_mk]
 have hb:b<B.length:=(List.getElem?_eq_some_iff.1 hbx).1
 have hk:k<K.length:=(List.getElem?_eq_some_iff.1 hK).1
 have hm:m<B.length:=(List.getElem?_eq_some_iff.1 hM).1
 have hbm:b≠m:=by rintro rfl;rw [hbx] at hM;simp [Db] at hM
 have hal:=Xp.cnts_len xs
 obtain⟨RES,hRES⟩ : ∃RES,RES=(⟨B.set b (Db k m (es++(Xp.codesX M xs++[Dx M kd vl fr to nm]))),K.set k (es.length+(1+Xp.cnts xs))⟩:St):=⟨_,rfl⟩
 rw [←hRES]
 have hRl:RES.boxes.length=B.length∧RES.toks.length=K.length:=by rw [hRES];simp
 (refine FnS.of_code mix Tryz.call91 k_91 (by simp) (fun hB=>?_);(try simp at hB);(try simp -implicitDefEqProofs))
 have gz0:=Mb B
 ((try simp -implicitDefEqProofs [gz0]);repeat' first|((with_reducible first|apply A5|apply A6|apply A3)<;>(intro hc;have hc':=hc;(try simp at hc');simp -implicitDefEqProofs [hc,hc',gz0])))
 refine Ac (X:=Nat×List Bx×List Nat) (fun X=>X.1≤xs.length∧X.2.1=B.set b (Db k m (es++Xp.codesX M (xs.take X.1)))∧X.2.2=K.set k (es.length+Xp.cnts (xs.take X.1)))
  (fun X=>[(0,.ptr b 0),(3,.ptr B.length 0),(8,Xp.l xs),(9,vI xs.length),(10,vI X.1)]) (fun X=>⟨X.2.1++[.cells [vI kd,vI vl,vI fr,vI to,vS nm,Xp.l xs]],X.2.2⟩) (fun X=>xs.length-X.1) (0,B,K) ⟨by simp,?h1,?h2⟩ ?hs ?_
 case h1=>simp only [List.take_zero,Xp.codesX,List.append_nil];exact (Qb hbx).symm
 case h2=>simp only [List.take_zero,Xp.cnts,Nat.add_zero];exact (Qb hK).symm
 case hs=>
  have hle:=fun l l' n m h h2=>Aa.app' (l:=l) (l':=l') (hok n m h h2)
  simp [hle,E.leB,A4,At.refl]
  omega
 rintro ⟨j,B1,K1⟩ ⟨hj,hB1,hK1⟩ hbd
 simp only [] at hj hB1 hK1
 clear hbd
 have hl1:B1.length=B.length:=by rw [hB1];simp
 have hk1:K1.length=K.length:=by rw [hK1];simp
 have b1:B1[b]?=some (Db k m (es++Xp.codesX M (xs.take j))):=by rw [hB1];simp [hb]
 have b2:B1[m]?=some (mpL L):=by rw [hB1,List.getElem?_set_ne hbm];exact hM
 have b3:K1[k]?=some (es++Xp.codesX M (xs.take j)).length:=by rw [hK1,List.length_append,Xp.codesX_len];simp [hk]
 have hok1:Ko B1 K1:=by rw [hB1,hK1];exact hok.set _ hm hk _
 have gz : ∀l,(B1++l)[B.length]?=l[0]?:=fun l=>by have:=Mb B1 l;rwa [hl1] at this
 have g1 : ∀l,(B1++l)[B.length+1]?=l[1]?:=fun l=>by have:=Ow B1 l;rwa [hl1] at this
 have gb : ∀l,(B1++l)[b]?=some (Db k m (es++Xp.codesX M (xs.take j))):=fun l=>by rw [List.getElem?_append_left (by omega)];exact b1
 have gm : ∀l,(B1++l)[m]?=some (mpL L):=fun l=>by rw [List.getElem?_append_left (by omega)];exact b2
 have sb : ∀l (v:Bx),(B1++l).set b v=B1.set b v++l:=fun l v=>List.set_append_left _ _ (by omega)
 have sz : ∀l (v:Bx),(B1++l).set (B.length+1) v=B1++l.set 1 v:=fun l v=>by rw [←hl1,List.set_append_right _ _ (by omega)];simp
 have hle:=fun l l' n m h h2=>Aa.app' (l:=l) (l':=l') (hok1 n m h h2)
 rcases Nat.lt_or_ge j xs.length with h|h
 ·have hx:xs[j]?=some xs[j]:=by simp [h]
  have e3:IntKind.i64.wrap ((j:Int)+1)=(j:Int)+1:=wrap64 (by omega) (by omega)
  have htk:=Ag hx
  have hc1:Xp.codesX M (xs.take (j+1))=Xp.codesX M (xs.take j)++xs[j].codeX M:=by rw [Xp.codesX_flat,Xp.codesX_flat,htk,List.flatMap_append];simp
  have hc2:Xp.cnts (xs.take (j+1))=Xp.cnts (xs.take j)+xs[j].cnt:=by rw [htk,Xp.cnts_append];simp [Xp.cnts]
  have hc3:Xp.cnts (xs.take (j+1))≤Xp.cnts xs:=by
   have:=Xp.cnts_append (xs.take (j+1)) (xs.drop (j+1))
   rw [List.take_append_drop] at this;omega
  have hrec:=ih xs[j] (List.getElem_mem h) (hpm _ (List.getElem_mem h)) b k m (es++Xp.codesX M (xs.take j)) (B1++[.cells [vI kd,vI vl,vI fr,vI to,vS nm,Xp.l xs],.cells (xs[j].c.map V.t)]) K1 (gb _) (gm _) b3 (by rw [List.length_append,Xp.codesX_len];omega)
   (by refine hok1.more _ (fun n m _ _=>?_);exact⟨⟨A4 _,rfl⟩,⟨A4 _,Ak (fun v hv=>by obtain⟨t,_,rfl⟩:=List.mem_map.1 hv;rfl)⟩,trivial⟩)
  have hlc:=Dv xs[j]
  have htc:=Cw xs[j]
  ((try simp -implicitDefEqProofs [h,e3,gz,g1,sz,hlc,htc]);repeat' first|((with_reducible first|apply A5|apply A6|apply A3)<;>(intro hc;have hc':=hc;(try simp at hc');simp -implicitDefEqProofs [hc,hc',h,e3,gz,g1,sz,hlc,htc])))
  refine A8 hrec ?_
  ((try simp -implicitDefEqProofs [e3,sb]);repeat' first|((with_reducible first|apply A5|apply A6|apply A3)<;>(intro hc;have hc':=hc;(try simp at hc');simp -implicitDefEqProofs [hc,hc',e3,sb])))
  have hokn:=hok1.set (b:=b) (m:=m) (k:=k) (es++(Xp.codesX M (xs.take j)++xs[j].codeX M)) (by omega) (by omega) (es.length+(Xp.codesX M (xs.take j)).length+xs[j].cnt)
  refine⟨j+1,B1.set b (Db k m (es++(Xp.codesX M (xs.take j)++xs[j].codeX M))),K1.set k (es.length+(Xp.codesX M (xs.take j)).length+xs[j].cnt),⟨by omega,?_,?_⟩,by omega,⟨by simp;omega,by simp;omega⟩,⟨?_,At.refl _⟩,by simp;omega,by simp;omega,by push_cast;rfl⟩
  ·rw [hB1,List.set_set,hc1]
  ·rw [hK1,List.set_set,hc2,Xp.codesX_len,Nat.add_assoc]
  ·exact (Aa.app' (hokn _ _ (by omega) (Nat.le_refl _))).2 ⟨⟨A4 _,rfl⟩,trivial⟩
 have:j=xs.length:=by omega
 subst this
 rw [List.take_length] at *
 have hkd:1≤kd∧kd≤22:=by
  have:=hsh
  unfold Hs kdB at this
  simp only [Bool.and_eq_true,decide_eq_true_eq] at this
  exact this.1.1
 obtain⟨tabc,htab⟩ : ∃tabc:List V,tabc=[vI 0,vI 0,vI 0,vI 5,vI 6,vI 7,vI 8,vI 10,vI 11,vI 12,vI 13,vI 14,vI 15,vI 16,vI 17,vI 18,vI 19,vI 20,vI 21,vI 22]:=⟨_,rfl⟩
 have hadd : ∀op x y,FnS Tryz.prog 92 [.ptr b 0,vI op,vI x,vI y] ⟨B1++[.cells [vI kd,vI vl,vI fr,vI to,vS nm,Xp.l xs],.cells tabc],K1⟩ (.tup [])
   ⟨B1.set b (Db k m (es++Xp.codesX M xs++[⟨op,x,y⟩]))++[.cells [vI kd,vI vl,vI fr,vI to,vS nm,Xp.l xs],.cells tabc],K1.set k (es.length+Xp.cnts xs+1)⟩:=fun op x y=>by
  have:=A0e b k m (es++Xp.codesX M xs) op x y (B1++[.cells [vI kd,vI vl,vI fr,vI to,vS nm,Xp.l xs],.cells tabc]) K1 (gb _) b3 (by rw [List.length_append,Xp.codesX_len];omega) (by simp;omega)
   (by refine hok1.more _ (fun n m _ _=>?_);exact⟨⟨A4 _,rfl⟩,⟨A4 _,by rw [htab];rfl⟩,trivial⟩)
  rw [sb,List.length_append,Xp.codesX_len] at this
  exact this
 have hfin : ∀op x y,Dx M kd vl fr to nm=⟨op,x,y⟩→B1.set b (Db k m (es++Xp.codesX M xs++[⟨op,x,y⟩]))=RES.boxes∧K1.set k (es.length+Xp.cnts xs+1)=RES.toks:=fun op x y h=>by
  rw [hRES]
  simp only []
  rw [hB1,hK1,List.set_set,List.set_set,h,List.append_assoc,show es.length+(1+Xp.cnts xs)=es.length+Xp.cnts xs+1 by omega]
  exact⟨rfl,rfl⟩
 have hokR:Ko RES.boxes RES.toks:=by rw [hRES];exact hok.set _ hm hk _
 have hleR : ∀l,Aa RES.boxes.length RES.toks.length (RES.boxes++l) RES.boxes:=fun l=>Aa.drop' l (hokR _ _ (Nat.le_refl _) (Nat.le_refl _))
 by_cases e1:kd=1
 ·subst e1
  obtain⟨q1,q2⟩:=hfin 1 vl 0 rfl
  have ha:=hadd 1 vl 0
  rw [q1,q2,htab] at ha
  ((try simp -implicitDefEqProofs [gz,g1,sz]);repeat' first|((with_reducible first|apply A5|apply A6|apply A3)<;>(intro hc;have hc':=hc;(try simp at hc');simp -implicitDefEqProofs [hc,hc',gz,g1,sz])))
  refine A8 ha ?_
  ((try simp -implicitDefEqProofs [hleR,At.refl]);repeat' first|((with_reducible first|apply A5|apply A6|apply A3)<;>(intro hc;have hc':=hc;(try simp at hc');simp -implicitDefEqProofs [hc,hc',hleR,At.refl])))
  omega
 by_cases e2:kd=2
 ·subst e2
  obtain⟨q1,q2⟩:=hfin 2 (J7 M nm) 0 rfl
  have ha:=hadd 2 (J7 M nm) 0
  rw [q1,q2,htab] at ha
  have hfm:=Fp vI nm L
  have hLn:=hL nm
  cases hag:B7 L nm with
  | none=>
   rw [hag] at hfm hLn
   simp only [Option.getD_none] at hLn
   rw [←hLn] at ha
   ((try simp -implicitDefEqProofs [gz,g1,sz,gb,gm,Db,hfm]);repeat' first|((with_reducible first|apply A5|apply A6|apply A3)<;>(intro hc;have hc':=hc;(try simp at hc');simp -implicitDefEqProofs [hc,hc',gz,g1,sz,gb,gm,Db,hfm])))
   refine A8 ha ?_
   ((try simp -implicitDefEqProofs [hleR,At.refl]);repeat' first|((with_reducible first|apply A5|apply A6|apply A3)<;>(intro hc;have hc':=hc;(try simp at hc');simp -implicitDefEqProofs [hc,hc',hleR,At.refl])))
   omega
  | some i=>
   rw [hag] at hfm hLn
   simp only [Option.getD_some] at hLn
   rw [←hLn] at ha
   ((try simp -implicitDefEqProofs [gz,g1,sz,gb,gm,Db,hfm]);repeat' first|((with_reducible first|apply A5|apply A6|apply A3)<;>(intro hc;have hc':=hc;(try simp at hc');simp -implicitDefEqProofs [hc,hc',gz,g1,sz,gb,gm,Db,hfm])))
   refine A8 ha ?_
   ((try simp -implicitDefEqProofs [hleR,At.refl]);repeat' first|((with_reducible first|apply A5|apply A6|apply A3)<;>(intro hc;have hc':=hc;(try simp at hc');simp -implicitDefEqProofs [hc,hc',hleR,At.refl])))
   omega
 by_cases e21:kd=21
 ·subst e21
  obtain⟨q1,q2⟩:=hfin 3 fr to rfl
  have ha:=hadd 3 fr to
  rw [q1,q2,htab] at ha
  ((try simp -implicitDefEqProofs [gz,g1,sz]);repeat' first|((with_reducible first|apply A5|apply A6|apply A3)<;>(intro hc;have hc':=hc;(try simp at hc');simp -implicitDefEqProofs [hc,hc',gz,g1,sz])))
  refine A8 ha ?_
  ((try simp -implicitDefEqProofs [hleR,At.refl]);repeat' first|((with_reducible first|apply A5|apply A6|apply A3)<;>(intro hc;have hc':=hc;(try simp at hc');simp -implicitDefEqProofs [hc,hc',hleR,At.refl])))
  omega
 by_cases e22:kd=22
 ·subst e22
  obtain⟨q1,q2⟩:=hfin 4 fr to rfl
  have ha:=hadd 4 fr to
  rw [q1,q2,htab] at ha
  ((try simp -implicitDefEqProofs [gz,g1,sz]);repeat' first|((with_reducible first|apply A5|apply A6|apply A3)<;>(intro hc;have hc':=hc;(try simp at hc');simp -implicitDefEqProofs [hc,hc',gz,g1,sz])))
  refine A8 ha ?_
  ((try simp -implicitDefEqProofs [hleR,At.refl]);repeat' first|((with_reducible first|apply A5|apply A6|apply A3)<;>(intro hc;have hc':=hc;(try simp at hc');simp -implicitDefEqProofs [hc,hc',hleR,At.refl])))
  omega
 by_cases e20:kd=20
 ·subst e20
  obtain⟨q1,q2⟩:=hfin 9 vl 0 rfl
  have ha:=hadd 9 vl 0
  rw [q1,q2,htab] at ha
  ((try simp -implicitDefEqProofs [gz,g1,sz]);repeat' first|((with_reducible first|apply A5|apply A6|apply A3)<;>(intro hc;have hc':=hc;(try simp at hc');simp -implicitDefEqProofs [hc,hc',gz,g1,sz])))
  refine A8 ha ?_
  ((try simp -implicitDefEqProofs [hleR,At.refl]);repeat' first|((with_reducible first|apply A5|apply A6|apply A3)<;>(intro hc;have hc':=hc;(try simp at hc');simp -implicitDefEqProofs [hc,hc',hleR,At.refl])))
  omega
 by_cases e3:kd=3
 ·subst e3
  obtain⟨q1,q2⟩:=hfin 5 0 0 rfl
  have ha:=hadd 5 0 0
  rw [q1,q2,htab] at ha
  ((try simp -implicitDefEqProofs [gz,g1,sz]);repeat' first|((with_reducible first|apply A5|apply A6|apply A3)<;>(intro hc;have hc':=hc;(try simp at hc');simp -implicitDefEqProofs [hc,hc',gz,g1,sz])))
  refine A8 ha ?_
  ((try simp -implicitDefEqProofs [hleR,At.refl]);repeat' first|((with_reducible first|apply A5|apply A6|apply A3)<;>(intro hc;have hc':=hc;(try simp at hc');simp -implicitDefEqProofs [hc,hc',hleR,At.refl])))
  omega
 by_cases e4:kd=4
 ·subst e4
  obtain⟨q1,q2⟩:=hfin 6 0 0 rfl
  have ha:=hadd 6 0 0
  rw [q1,q2,htab] at ha
  ((try simp -implicitDefEqProofs [gz,g1,sz]);repeat' first|((with_reducible first|apply A5|apply A6|apply A3)<;>(intro hc;have hc':=hc;(try simp at hc');simp -implicitDefEqProofs [hc,hc',gz,g1,sz])))
  refine A8 ha ?_
  ((try simp -implicitDefEqProofs [hleR,At.refl]);repeat' first|((with_reducible first|apply A5|apply A6|apply A3)<;>(intro hc;have hc':=hc;(try simp at hc');simp -implicitDefEqProofs [hc,hc',hleR,At.refl])))
  omega
 by_cases e5:kd=5
 ·subst e5
  obtain⟨q1,q2⟩:=hfin 7 0 0 rfl
  have ha:=hadd 7 0 0
  rw [q1,q2,htab] at ha
  ((try simp -implicitDefEqProofs [gz,g1,sz]);repeat' first|((with_reducible first|apply A5|apply A6|apply A3)<;>(intro hc;have hc':=hc;(try simp at hc');simp -implicitDefEqProofs [hc,hc',gz,g1,sz])))
  refine A8 ha ?_
  ((try simp -implicitDefEqProofs [hleR,At.refl]);repeat' first|((with_reducible first|apply A5|apply A6|apply A3)<;>(intro hc;have hc':=hc;(try simp at hc');simp -implicitDefEqProofs [hc,hc',hleR,At.refl])))
  omega
 by_cases e6:kd=6
 ·subst e6
  obtain⟨q1,q2⟩:=hfin 8 0 0 rfl
  have ha:=hadd 8 0 0
  rw [q1,q2,htab] at ha
  ((try simp -implicitDefEqProofs [gz,g1,sz]);repeat' first|((with_reducible first|apply A5|apply A6|apply A3)<;>(intro hc;have hc':=hc;(try simp at hc');simp -implicitDefEqProofs [hc,hc',gz,g1,sz])))
  refine A8 ha ?_
  ((try simp -implicitDefEqProofs [hleR,At.refl]);repeat' first|((with_reducible first|apply A5|apply A6|apply A3)<;>(intro hc;have hc':=hc;(try simp at hc');simp -implicitDefEqProofs [hc,hc',hleR,At.refl])))
  omega
 by_cases e7:kd=7
 ·subst e7
  obtain⟨q1,q2⟩:=hfin 10 0 0 rfl
  have ha:=hadd 10 0 0
  rw [q1,q2,htab] at ha
  ((try simp -implicitDefEqProofs [gz,g1,sz]);repeat' first|((with_reducible first|apply A5|apply A6|apply A3)<;>(intro hc;have hc':=hc;(try simp at hc');simp -implicitDefEqProofs [hc,hc',gz,g1,sz])))
  refine A8 ha ?_
  ((try simp -implicitDefEqProofs [hleR,At.refl]);repeat' first|((with_reducible first|apply A5|apply A6|apply A3)<;>(intro hc;have hc':=hc;(try simp at hc');simp -implicitDefEqProofs [hc,hc',hleR,At.refl])))
  omega
 by_cases e8:kd=8
 ·subst e8
  obtain⟨q1,q2⟩:=hfin 11 0 0 rfl
  have ha:=hadd 11 0 0
  rw [q1,q2,htab] at ha
  ((try simp -implicitDefEqProofs [gz,g1,sz]);repeat' first|((with_reducible first|apply A5|apply A6|apply A3)<;>(intro hc;have hc':=hc;(try simp at hc');simp -implicitDefEqProofs [hc,hc',gz,g1,sz])))
  refine A8 ha ?_
  ((try simp -implicitDefEqProofs [hleR,At.refl]);repeat' first|((with_reducible first|apply A5|apply A6|apply A3)<;>(intro hc;have hc':=hc;(try simp at hc');simp -implicitDefEqProofs [hc,hc',hleR,At.refl])))
  omega
 by_cases e9:kd=9
 ·subst e9
  obtain⟨q1,q2⟩:=hfin 12 0 0 rfl
  have ha:=hadd 12 0 0
  rw [q1,q2,htab] at ha
  ((try simp -implicitDefEqProofs [gz,g1,sz]);repeat' first|((with_reducible first|apply A5|apply A6|apply A3)<;>(intro hc;have hc':=hc;(try simp at hc');simp -implicitDefEqProofs [hc,hc',gz,g1,sz])))
  refine A8 ha ?_
  ((try simp -implicitDefEqProofs [hleR,At.refl]);repeat' first|((with_reducible first|apply A5|apply A6|apply A3)<;>(intro hc;have hc':=hc;(try simp at hc');simp -implicitDefEqProofs [hc,hc',hleR,At.refl])))
  omega
 by_cases e10:kd=10
 ·subst e10
  obtain⟨q1,q2⟩:=hfin 13 0 0 rfl
  have ha:=hadd 13 0 0
  rw [q1,q2,htab] at ha
  ((try simp -implicitDefEqProofs [gz,g1,sz]);repeat' first|((with_reducible first|apply A5|apply A6|apply A3)<;>(intro hc;have hc':=hc;(try simp at hc');simp -implicitDefEqProofs [hc,hc',gz,g1,sz])))
  refine A8 ha ?_
  ((try simp -implicitDefEqProofs [hleR,At.refl]);repeat' first|((with_reducible first|apply A5|apply A6|apply A3)<;>(intro hc;have hc':=hc;(try simp at hc');simp -implicitDefEqProofs [hc,hc',hleR,At.refl])))
  omega
 by_cases e11:kd=11
 ·subst e11
  obtain⟨q1,q2⟩:=hfin 14 0 0 rfl
  have ha:=hadd 14 0 0
  rw [q1,q2,htab] at ha
  ((try simp -implicitDefEqProofs [gz,g1,sz]);repeat' first|((with_reducible first|apply A5|apply A6|apply A3)<;>(intro hc;have hc':=hc;(try simp at hc');simp -implicitDefEqProofs [hc,hc',gz,g1,sz])))
  refine A8 ha ?_
  ((try simp -implicitDefEqProofs [hleR,At.refl]);repeat' first|((with_reducible first|apply A5|apply A6|apply A3)<;>(intro hc;have hc':=hc;(try simp at hc');simp -implicitDefEqProofs [hc,hc',hleR,At.refl])))
  omega
 by_cases e12:kd=12
 ·subst e12
  obtain⟨q1,q2⟩:=hfin 15 0 0 rfl
  have ha:=hadd 15 0 0
  rw [q1,q2,htab] at ha
  ((try simp -implicitDefEqProofs [gz,g1,sz]);repeat' first|((with_reducible first|apply A5|apply A6|apply A3)<;>(intro hc;have hc':=hc;(try simp at hc');simp -implicitDefEqProofs [hc,hc',gz,g1,sz])))
  refine A8 ha ?_
  ((try simp -implicitDefEqProofs [hleR,At.refl]);repeat' first|((with_reducible first|apply A5|apply A6|apply A3)<;>(intro hc;have hc':=hc;(try simp at hc');simp -implicitDefEqProofs [hc,hc',hleR,At.refl])))
  omega
 by_cases e13:kd=13
 ·subst e13
  obtain⟨q1,q2⟩:=hfin 16 0 0 rfl
  have ha:=hadd 16 0 0
  rw [q1,q2,htab] at ha
  ((try simp -implicitDefEqProofs [gz,g1,sz]);repeat' first|((with_reducible first|apply A5|apply A6|apply A3)<;>(intro hc;have hc':=hc;(try simp at hc');simp -implicitDefEqProofs [hc,hc',gz,g1,sz])))
  refine A8 ha ?_
  ((try simp -implicitDefEqProofs [hleR,At.refl]);repeat' first|((with_reducible first|apply A5|apply A6|apply A3)<;>(intro hc;have hc':=hc;(try simp at hc');simp -implicitDefEqProofs [hc,hc',hleR,At.refl])))
  omega
 by_cases e14:kd=14
 ·subst e14
  obtain⟨q1,q2⟩:=hfin 17 0 0 rfl
  have ha:=hadd 17 0 0
  rw [q1,q2,htab] at ha
  ((try simp -implicitDefEqProofs [gz,g1,sz]);repeat' first|((with_reducible first|apply A5|apply A6|apply A3)<;>(intro hc;have hc':=hc;(try simp at hc');simp -implicitDefEqProofs [hc,hc',gz,g1,sz])))
  refine A8 ha ?_
  ((try simp -implicitDefEqProofs [hleR,At.refl]);repeat' first|((with_reducible first|apply A5|apply A6|apply A3)<;>(intro hc;have hc':=hc;(try simp at hc');simp -implicitDefEqProofs [hc,hc',hleR,At.refl])))
  omega
 by_cases e15:kd=15
 ·subst e15
  obtain⟨q1,q2⟩:=hfin 18 0 0 rfl
  have ha:=hadd 18 0 0
  rw [q1,q2,htab] at ha
  ((try simp -implicitDefEqProofs [gz,g1,sz]);repeat' first|((with_reducible first|apply A5|apply A6|apply A3)<;>(intro hc;have hc':=hc;(try simp at hc');simp -implicitDefEqProofs [hc,hc',gz,g1,sz])))
  refine A8 ha ?_
  ((try simp -implicitDefEqProofs [hleR,At.refl]);repeat' first|((with_reducible first|apply A5|apply A6|apply A3)<;>(intro hc;have hc':=hc;(try simp at hc');simp -implicitDefEqProofs [hc,hc',hleR,At.refl])))
  omega
 by_cases e16:kd=16
 ·subst e16
  obtain⟨q1,q2⟩:=hfin 19 0 0 rfl
  have ha:=hadd 19 0 0
  rw [q1,q2,htab] at ha
  ((try simp -implicitDefEqProofs [gz,g1,sz]);repeat' first|((with_reducible first|apply A5|apply A6|apply A3)<;>(intro hc;have hc':=hc;(try simp at hc');simp -implicitDefEqProofs [hc,hc',gz,g1,sz])))
  refine A8 ha ?_
  ((try simp -implicitDefEqProofs [hleR,At.refl]);repeat' first|((with_reducible first|apply A5|apply A6|apply A3)<;>(intro hc;have hc':=hc;(try simp at hc');simp -implicitDefEqProofs [hc,hc',hleR,At.refl])))
  omega
 by_cases e17:kd=17
 ·subst e17
  obtain⟨q1,q2⟩:=hfin 20 0 0 rfl
  have ha:=hadd 20 0 0
  rw [q1,q2,htab] at ha
  ((try simp -implicitDefEqProofs [gz,g1,sz]);repeat' first|((with_reducible first|apply A5|apply A6|apply A3)<;>(intro hc;have hc':=hc;(try simp at hc');simp -implicitDefEqProofs [hc,hc',gz,g1,sz])))
  refine A8 ha ?_
  ((try simp -implicitDefEqProofs [hleR,At.refl]);repeat' first|((with_reducible first|apply A5|apply A6|apply A3)<;>(intro hc;have hc':=hc;(try simp at hc');simp -implicitDefEqProofs [hc,hc',hleR,At.refl])))
  omega
 by_cases e18:kd=18
 ·subst e18
  obtain⟨q1,q2⟩:=hfin 21 0 0 rfl
  have ha:=hadd 21 0 0
  rw [q1,q2,htab] at ha
  ((try simp -implicitDefEqProofs [gz,g1,sz]);repeat' first|((with_reducible first|apply A5|apply A6|apply A3)<;>(intro hc;have hc':=hc;(try simp at hc');simp -implicitDefEqProofs [hc,hc',gz,g1,sz])))
  refine A8 ha ?_
  ((try simp -implicitDefEqProofs [hleR,At.refl]);repeat' first|((with_reducible first|apply A5|apply A6|apply A3)<;>(intro hc;have hc':=hc;(try simp at hc');simp -implicitDefEqProofs [hc,hc',hleR,At.refl])))
  omega
 by_cases e19:kd=19
 ·subst e19
  obtain⟨q1,q2⟩:=hfin 22 0 0 rfl
  have ha:=hadd 22 0 0
  rw [q1,q2,htab] at ha
  ((try simp -implicitDefEqProofs [gz,g1,sz]);repeat' first|((with_reducible first|apply A5|apply A6|apply A3)<;>(intro hc;have hc':=hc;(try simp at hc');simp -implicitDefEqProofs [hc,hc',gz,g1,sz])))
  refine A8 ha ?_
  ((try simp -implicitDefEqProofs [hleR,At.refl]);repeat' first|((with_reducible first|apply A5|apply A6|apply A3)<;>(intro hc;have hc':=hc;(try simp at hc');simp -implicitDefEqProofs [hc,hc',hleR,At.refl])))
  omega
 exfalso;omega
end Go.Proofs.YtmlpmdccfmmpoaaGreatDoor
end

/- Chapter 34: compile.rule, Compile. -/
section
set_option linter.unusedSimpArgs false
set_option linter.unusedVariables false
set_option maxHeartbeats 4000000
set_option maxRecDepth 8000
namespace Go.Proofs.YtmlpmdccfmmpoaaGreatDoor
open E

def Me:Nat→List (List UInt8)→List (List UInt8×Int)
 | _,[]=>[]
 | i,s::l=>(s,(i:Int))::Me (i+1) l
theorem Mf : ∀(i:Nat) (l:List (List UInt8)),(Me i l).length=l.length
 | _,[]=>rfl
 | i,s::l=>by rw [Me,List.length_cons,Mf,List.length_cons]
theorem Ro {s:List UInt8} : ∀(l:List (List UInt8)) (i:Nat) (c:Int),s∉l→I2 s i l c=c
 | [],_,_,_=>rfl
 | z::l,i,c,h=>by
  rw [I2,if_neg (fun e=>h (by rw [e];simp)),Ro l _ _ (fun e=>h (by simp [e]))]
theorem Ns {s:List UInt8} : ∀(l:List (List UInt8)) (i:Nat),l.Nodup→(B7 (Me i l) s).getD 0=I2 s i l 0
 | [],i,_=>rfl
 | y::l,i,h=>by
  have h':=List.nodup_cons.1 h
  rw [Me,B7,I2]
  by_cases e:s=y
  ·subst e
   rw [if_pos rfl,if_pos rfl,Ro l _ _ h'.1];rfl
  ·rw [if_neg e,if_neg (Ne.symm e)]
   exact Ns l (i+1) h'.2
theorem Nt {s:List UInt8} : ∀(l:List (List UInt8)) (i:Nat),s∉l→Ce (Me i l) s ((i+l.length:Nat):Int)=Me i (l++[s])
 | [],i,_=>rfl
 | y::l,i,h=>by
  have h1 : ¬s=y:=fun e=>h (by rw [e];simp)
  have:=Nt l (i+1) (fun e=>h (List.mem_cons_of_mem _ e))
  rw [List.cons_append,Me,Me,Ce,if_neg h1,←this,List.length_cons,show i+(l.length+1)=i+1+l.length by omega]
def Jw (M:List (List UInt8)):List (List UInt8×Int):=Me 0 M
theorem Xn {M:List (List UInt8)} (h:M.Nodup) (s:List UInt8):(B7 (Jw M) s).getD 0=J7 M s:=Ns M 0 h
theorem Xo {M:List (List UInt8)} {s:List UInt8} (h:s∉M):Ce (Jw M) s (M.length:Int)=Jw (M++[s]):=by
 have:=Nt M 0 h
 rw [Nat.zero_add] at this
 exact this
theorem A0f {n m:Nat} (L:List (List UInt8×Int)):E.leB n m (mpL L) (mpL L):=⟨rfl,Ak (fun v hv=>by obtain⟨p,hp,rfl⟩:=List.mem_map.1 hv;obtain⟨q,_,rfl⟩:=List.mem_map.1 hp;rfl),Ak (fun v hv=>by obtain⟨p,hp,rfl⟩:=List.mem_map.1 hv;obtain⟨q,_,rfl⟩:=List.mem_map.1 hp;rfl)⟩
theorem Xq (ss:List Stm) (M:List (List UInt8)) (k:Nat):(Az M (ss.take k)).length≤ss.length+I3 ss:=by
 rw [I4]
 have h1:(ss.take k).length≤ss.length:=by simp;omega
 have h2:I3 (ss.take k)≤I3 ss:=by
  have:=List.take_append_drop k ss
  conv=>rhs;rw [←this]
  unfold I3
  rw [List.map_append,List.sum_append];omega
 omega
theorem A0g {ss:List Stm} {s:Stm} (h:s∈ss):s.ex.cnt≤I3 ss:=by
 induction ss with
 | nil=>cases h
 | cons y ss ih=>
  unfold I3 at ih ⊢
  rw [List.map_cons,List.sum_cons]
  rcases List.mem_cons.1 h with rfl|h
  ·omega
  ·have:=ih h;omega
theorem U2 {known:Int→Bool} {M:List (List UInt8)} {pair:Bool} {s:Stm} (h:D9 known (Cf M) pair s=0) (hk:s.kind=1):s.name∉M:=by
 intro hm
 unfold D9 at h
 split at h
 ·rename_i q;exact absurd h q
 split at h
 ·exact absurd h (by decide)
 rename_i h3
 rw [if_pos ⟨hk,by simpa [Cf] using hm⟩] at h
 exact absurd h (by decide)
theorem cX (k m:Nat) (e:List Ins):Ay (Db k m e)=some [.own k 93 3 (e.map Ins.c),.mp m]:=rfl
theorem A2v (known:Int→Bool) (r:Rul) (hb:D7 r=true) (he:Fy known r=0) (hlen:I3 r.stmts≤100000):A7 Tryz.prog 44 [r.v] (B5 r).v:=by
 obtain⟨nm,pair,ss,to⟩:=r
 unfold D7 at hb
 simp only [Bool.and_eq_true,decide_eq_true_eq,List.all_eq_true] at hb hlen
 obtain⟨⟨⟨_,hss⟩,hto⟩,hst⟩:=hb
 have h0:Bh known pair [] ss=0:=by
  unfold Fy at he
  simp only [] at he
  split at he
  ·rename_i q;exact absurd he q
  ·rename_i q;simpa using q
 have hrc:Rul.c ⟨nm,pair,ss,to⟩=[T.str nm,T.bool pair,T.sl (ss.map Stm.c),T.int .i64 to]:=rfl
 obtain⟨RES,hRES⟩ : ∃RES,RES=(B5 ⟨nm,pair,ss,to⟩).v:=⟨_,rfl⟩
 rw [←hRES]
 (refine A7.of_code mix Tryz.call44 k_44 (by simp) (fun hB=>?_);(try simp at hB);(try simp -implicitDefEqProofs))
 ((try simp -implicitDefEqProofs [hrc]);repeat' first|((with_reducible first|apply A5|apply A6|apply A3)<;>(intro hc;have hc':=hc;(try simp at hc');simp -implicitDefEqProofs [hc,hc',hrc])))
 refine Bb [(.cell 3 0,93,3)] (X:=Nat) (fun k=>k≤ss.length∧(Af (ss.take k)).Nodup∧Bh known pair (Af (ss.take k)) (ss.drop k)=0)
  (fun k=>[(1,.ptr 0 0),(2,.ptr 1 0),(3,.ptr 3 0),(10,Stm.l ss),(11,vI ss.length),(12,vI k)])
  (fun k=>⟨[.cells [vS nm,vB pair,Stm.l ss,vI to],.cells [vS [],vB false,.snil],mpL (Jw (Af (ss.take k))),Db 0 2 (Az [] (ss.take k))],[(Az [] (ss.take k)).length]⟩) (fun k=>ss.length-k) 0 ⟨by simp,by simp [Af],by simpa [Af] using h0⟩ ?_ ?_
 ·simp [Af,Jw,Me,Db,Az]
 rintro k ⟨hk,hnd,hi⟩ hbd
 clear hbd
 have hcl:=Xq ss [] k
 rcases Nat.lt_or_ge k ss.length with h|h
 ·have hx:ss[k]?=some ss[k]:=by simp [h]
  have e3:IntKind.i64.wrap ((k:Int)+1)=(k:Int)+1:=wrap64 (by omega) (by omega)
  rw [Ri hx] at hi
  have hse:D9 known (Cf (Af (ss.take k))) pair ss[k]=0:=by
   by_cases q:D9 known (Cf (Af (ss.take k))) pair ss[k]=0
   ·exact q
   ·rw [if_pos q] at hi;exact absurd hi q
  rw [if_neg (by simpa using hse)] at hi
  have hnn:=J5 hx
  have hcn:=Rk (M:=[]) hx
  rw [List.nil_append] at hcn
  obtain⟨hpx,hkd⟩:=V9 (hst _ (List.getElem_mem h))
  have hxc:=A0g (List.getElem_mem h)
  have hfr:=fun hk1=>U2 hse hk1
  have hlt:=Ab hx
  generalize hMM:Af (ss.take k)=M at *
  generalize hEE:Az [] (ss.take k)=es at *
  obtain⟨kd,acc,sn,x,hs⟩ : ∃kd acc sn x,ss[k]=⟨kd,acc,sn,x⟩:=⟨_,_,_,_,rfl⟩
  have hsk:(ss.map Stm.c)[k]?=some (.int .i64 kd::.int .i64 acc::.str sn::x.c):=by simp [h,hs,Stm.c]
  have hcc:Stm.c ⟨kd,acc,sn,x⟩=(.int .i64 kd::.int .i64 acc::.str sn::x.c):=rfl
  have hlc:=Dv x
  have htc:=Cw x
  rw [hs] at hpx hkd hxc hfr hi hnn hcn
  simp only [] at hpx hkd hxc hfr
  have hok : ∀(e2:List Ins) (j:Nat),Ko [.cells [vS nm,vB pair,Stm.l ss,vI to],.cells [vS [],vB false,.snil],mpL (Jw M),Db 0 2 e2,.cells (vI kd::vI acc::vS sn::x.c.map V.t)] [j]:=fun e2 j n m hn hm=>by
   simp only [List.length_cons,List.length_nil] at hn hm
   exact⟨⟨A4 _,rfl⟩,⟨A4 _,rfl⟩,A0f _,Fz _ (by omega) (by omega),⟨A4 _,Ak (fun v hv=>by
    rcases List.mem_cons.1 hv with rfl|hv
    ·rfl
    rcases List.mem_cons.1 hv with rfl|hv
    ·rfl
    rcases List.mem_cons.1 hv with rfl|hv
    ·rfl
    obtain⟨t,_,rfl⟩:=List.mem_map.1 hv;rfl)⟩,trivial⟩
  have hexp:=A2u M (Jw M) (fun n=>Xn hnd n) x hpx 3 0 2 es _ [es.length] rfl rfl rfl (by omega) (hok es es.length)
  have hadd:=fun (e2:List Ins) (op a b:Int) (hl:e2.length≤1000000)=>A0e 3 0 2 e2 op a b _ [e2.length] rfl rfl hl (by simp) (hok e2 e2.length)
  have hxl:(es++x.codeX M).length=es.length+x.cnt:=by rw [List.length_append,Xp.codeX_len]
  have hadd2:=fun op a b=>hadd (es++x.codeX M) op a b (by omega)
  simp only [List.set_cons_succ,List.set_cons_zero,hxl] at hexp hadd2
  have hmsl:(mS vI (Jw M)).length=M.length:=by simp [mS,Jw,Mf]
  rcases hkd with rfl|rfl|rfl
  ·have hN:Af [⟨1,acc,sn,x⟩]=[sn]:=rfl
   rw [hN] at hnn hi
   have hcn':Az [] (ss.take (k+1))=es++x.codeX M++[⟨23,M.length,0⟩]:=by rw [hcn,List.append_assoc];rfl
   have hsn:=hfr rfl
   have hnd':(M++[sn]).Nodup:=by
    rw [List.nodup_append]
    exact⟨hnd,by simp,fun a ha b hb e=>by simp at hb;subst hb;subst e;exact hsn ha⟩
   have hsm:=Lz vI sn (M.length:Int) (Jw M)
   rw [Xo hsn] at hsm
   have hml2:(mS vI (Jw (M++[sn]))).length≤maxLen:=by
    have:=Kf (ss.take (k+1))
    rw [hnn] at this
    simp [mS,Jw,Mf,maxLen] at this ⊢
    omega
   ((try simp -implicitDefEqProofs [h,hs,hsk,hcc,hlc,htc]);repeat' first|((with_reducible first|apply A5|apply A6|apply A3)<;>(intro hc;have hc':=hc;(try simp at hc');simp -implicitDefEqProofs [hc,hc',h,hs,hsk,hcc,hlc,htc])))
   refine A8 hexp ?_
   ((try simp -implicitDefEqProofs [h,hmsl,cX,mpL]);repeat' first|((with_reducible first|apply A5|apply A6|apply A3)<;>(intro hc;have hc':=hc;(try simp at hc');simp -implicitDefEqProofs [hc,hc',h,hmsl,cX,mpL])))
   refine A8 (hadd2 23 M.length 0) ?_
   ((try simp -implicitDefEqProofs [h,e3,cX,mpL,hmsl,hsm,hml2]);repeat' first|((with_reducible first|apply A5|apply A6|apply A3)<;>(intro hc;have hc':=hc;(try simp at hc');simp -implicitDefEqProofs [hc,hc',h,e3,cX,mpL,hmsl,hsm,hml2])))
   exact⟨by have:=hml2;simpa [mS] using this,k+1,⟨by omega,by rw [hnn];exact hnd',by rw [hnn];exact hi⟩,by omega,⟨⟨⟨by rw [hnn],Ak (fun v hv=>by obtain⟨p,_,rfl⟩:=List.mem_map.1 hv;rfl),Ak (fun v hv=>by obtain⟨p,_,rfl⟩:=List.mem_map.1 hv;rfl)⟩,by rw [hcn',List.append_assoc];exact Fz _ (by omega) (by omega)⟩,by rw [hcn',List.length_append,hxl];rfl⟩,by push_cast;rfl⟩
  ·have hN:Af [⟨2,acc,sn,x⟩]=[]:=rfl
   rw [hN] at hnn hi
   have hcn':Az [] (ss.take (k+1))=es++x.codeX M++[⟨24,0,0⟩]:=by rw [hcn,List.append_assoc];rfl
   rw [List.append_nil] at hnn hi
   have hnd':=hnd
   ((try simp -implicitDefEqProofs [h,hs,hsk,hcc,hlc,htc]);repeat' first|((with_reducible first|apply A5|apply A6|apply A3)<;>(intro hc;have hc':=hc;(try simp at hc');simp -implicitDefEqProofs [hc,hc',h,hs,hsk,hcc,hlc,htc])))
   refine A8 hexp ?_
   ((try simp -implicitDefEqProofs [h,hmsl,cX,mpL]);repeat' first|((with_reducible first|apply A5|apply A6|apply A3)<;>(intro hc;have hc':=hc;(try simp at hc');simp -implicitDefEqProofs [hc,hc',h,hmsl,cX,mpL])))
   refine A8 (hadd2 24 0 0) ?_
   ((try simp -implicitDefEqProofs [h,e3,cX,mpL]);repeat' first|((with_reducible first|apply A5|apply A6|apply A3)<;>(intro hc;have hc':=hc;(try simp at hc');simp -implicitDefEqProofs [hc,hc',h,e3,cX,mpL])))
   exact⟨k+1,⟨by omega,by rw [hnn];exact hnd',by rw [hnn];exact hi⟩,by omega,⟨⟨⟨by rw [hnn],Ak (fun v hv=>by obtain⟨p,_,rfl⟩:=List.mem_map.1 hv;rfl),Ak (fun v hv=>by obtain⟨p,_,rfl⟩:=List.mem_map.1 hv;rfl)⟩,by rw [hcn',List.append_assoc];exact Fz _ (by omega) (by omega)⟩,by rw [hcn',List.length_append,hxl];rfl⟩,by push_cast;rfl⟩
  ·have hN:Af [⟨3,acc,sn,x⟩]=[]:=rfl
   rw [hN] at hnn hi
   have hcn':Az [] (ss.take (k+1))=es++x.codeX M++[⟨25,acc,0⟩]:=by rw [hcn,List.append_assoc];rfl
   rw [List.append_nil] at hnn hi
   have hnd':=hnd
   ((try simp -implicitDefEqProofs [h,hs,hsk,hcc,hlc,htc]);repeat' first|((with_reducible first|apply A5|apply A6|apply A3)<;>(intro hc;have hc':=hc;(try simp at hc');simp -implicitDefEqProofs [hc,hc',h,hs,hsk,hcc,hlc,htc])))
   refine A8 hexp ?_
   ((try simp -implicitDefEqProofs [h,hmsl,cX,mpL]);repeat' first|((with_reducible first|apply A5|apply A6|apply A3)<;>(intro hc;have hc':=hc;(try simp at hc');simp -implicitDefEqProofs [hc,hc',h,hmsl,cX,mpL])))
   refine A8 (hadd2 25 acc 0) ?_
   ((try simp -implicitDefEqProofs [h,e3,cX,mpL]);repeat' first|((with_reducible first|apply A5|apply A6|apply A3)<;>(intro hc;have hc':=hc;(try simp at hc');simp -implicitDefEqProofs [hc,hc',h,e3,cX,mpL])))
   exact⟨k+1,⟨by omega,by rw [hnn];exact hnd',by rw [hnn];exact hi⟩,by omega,⟨⟨⟨by rw [hnn],Ak (fun v hv=>by obtain⟨p,_,rfl⟩:=List.mem_map.1 hv;rfl),Ak (fun v hv=>by obtain⟨p,_,rfl⟩:=List.mem_map.1 hv;rfl)⟩,by rw [hcn',List.append_assoc];exact Fz _ (by omega) (by omega)⟩,by rw [hcn',List.length_append,hxl];rfl⟩,by push_cast;rfl⟩
 ·have:k=ss.length:=by omega
  subst this
  rw [List.take_length] at *
  generalize hMM:Af ss=M at *
  generalize hEE:Az [] ss=es at *
  have hok:Ko [.cells [vS nm,vB pair,Stm.l ss,vI to],.cells [vS [],vB false,.snil],mpL (Jw M),Db 0 2 es] [es.length]:=fun n m hn hm=>by
   simp only [List.length_cons,List.length_nil] at hn hm
   exact⟨⟨A4 _,rfl⟩,⟨A4 _,rfl⟩,A0f _,Fz _ (by omega) (by omega),trivial⟩
  have hadd:=A0e 3 0 2 es 26 to 0 _ [es.length] rfl rfl (by omega) (by simp) hok
  simp only [List.set_cons_succ,List.set_cons_zero] at hadd
  have hR:RES=.agg [vS nm,vB pair,.t (.sl ((es++[(⟨26,to,0⟩:Ins)]).map Ins.c))]:=by
   rw [hRES]
   simp only [B5,hEE]
   rfl
  rw [hR]
  ((try simp -implicitDefEqProofs);repeat' first|((with_reducible first|apply A5|apply A6|apply A3)<;>(intro hc;have hc':=hc;(try simp at hc');simp -implicitDefEqProofs [hc,hc'])))
  refine A8 hadd ?_
  ((try simp -implicitDefEqProofs [cX]);repeat' first|((with_reducible first|apply A5|apply A6|apply A3)<;>(intro hc;have hc':=hc;(try simp at hc');simp -implicitDefEqProofs [hc,hc',cX])))
theorem Nu {known:Int→Bool} : ∀(p:List Rul) (M:List (List UInt8)) (i:Nat),(Ew known M i p).2=0→∀r∈p,Fy known r=0
 | [],M,i,_,r,hr=>by cases hr
 | y::p,M,i,h,r,hr=>by
  rw [Ew] at h
  split at h
  ·exact absurd h (by simp)
  split at h
  ·rename_i h1;exact absurd h h1
  ·rename_i h1
   rcases List.mem_cons.1 hr with rfl|hr
   ·simpa using h1
   ·exact Nu p _ _ h r hr
theorem A0h {p:List Rul} {l:List Account} (h:(G8 p l).2=0) : ∀r∈p,D7 r=true∧Fy (Be l) r=0:=by
 unfold G8 at h
 split at h
 ·rename_i q
  intro r hr
  have hv:=q.1
  unfold Kn at hv
  simp only [Bool.and_eq_true,List.all_eq_true] at hv
  exact⟨hv.1 r hr,Nu p [] 0 h r hr⟩
 ·exact absurd h (by simp)
theorem Xr (p:List Rul) (l:List Account) (hc : ∀r∈p,∀s∈r.stmts,s.ex.cnt≤1000) (hss : ∀r∈p,I3 r.stmts≤100000) (hp:p.length≤1000) (hl:l.length≤1000000) :
  A7 Tryz.prog 19 [Rul.l p,Account.l l] (.tup [.t (.sl ((A07 p l).1.map Code.c)),vI (A07 p l).2.1,vI (A07 p l).2.2]):=by
 have hchk:=P0 p l (fun r hr s hs=>by have:=hc r hr s hs;omega) hl
 unfold A07
 by_cases h0:(G8 p l).2=0
 case neg=>
  rw [if_neg h0]
  generalize G8 p l=q at *
  have h1:(q.2==0)=false:=by simpa using h0
  have h2:(q.2 != 0)=true:=by simpa using h0
  (refine A7.of_code mix Tryz.call19 k_19 (by simp) (fun hB=>?_);(try simp at hB);(try simp -implicitDefEqProofs))
  ((try simp at hchk);(try simp -implicitDefEqProofs [h0,h1,h2]);repeat' first|((with_reducible first|apply A5|apply A6|apply A3)<;>(intro hc;have hc':=hc;(try simp at hc');simp -implicitDefEqProofs [hc,hc',h0,h1,h2]))|(with_reducible apply A0<;>first|(simp only [eras,era,A1];first|with_reducible assumption)|(simp -implicitDefEqProofs [h0,h1,h2])))
 rw [if_pos h0]
 have hall:=A0h h0
 rw [h0] at hchk
 obtain⟨L,hL⟩ : ∃L,L=(p.map B5).map Code.c:=⟨_,rfl⟩
 have hLl:L.length=p.length:=by rw [hL];simp
 simp only []
 rw [←hL]
 (refine A7.of_code mix Tryz.call19 k_19 (by simp) (fun hB=>?_);(try simp at hB);(try simp -implicitDefEqProofs))
 ((try simp at hchk);(try simp -implicitDefEqProofs);repeat' first|((with_reducible first|apply A5|apply A6|apply A3)<;>(intro hc;have hc':=hc;(try simp at hc');simp -implicitDefEqProofs [hc,hc']))|(with_reducible apply A0<;>first|(simp only [eras,era,A1];first|with_reducible assumption)|(simp -implicitDefEqProofs)))
 refine Bb [(.slot 9,85,3)] (X:=Nat) (fun k=>k≤p.length) (fun k=>[(9,.own 0 85 3 (L.take k)),(22,Rul.l p),(23,vI p.length),(24,vI k)])
  (fun k=>⟨[],[k]⟩) (fun k=>p.length-k) 0 (by simp) (by simp) ?_
 rintro k hk hbd
 clear hbd
 rcases Nat.lt_or_ge k p.length with h|h
 ·have hx:p[k]?=some p[k]:=by simp [h]
  have e3:IntKind.i64.wrap ((k:Int)+1)=(k:Int)+1:=wrap64 (by omega) (by omega)
  obtain⟨q1,q2⟩:=hall p[k] (List.getElem_mem h)
  have hrule:=A2v (Be l) p[k] q1 q2 (hss _ (List.getElem_mem h))
  have hrv:L.take (k+1)=L.take k++[(B5 p[k]).c]:=Ag (by rw [hL];simp [h])
  have hmin:min k L.length=k:=by omega
  obtain⟨nm,pr,ss,to,hr⟩ : ∃nm pr ss to,p[k]=⟨nm,pr,ss,to⟩:=⟨_,_,_,_,rfl⟩
  have hrk:(p.map Rul.c)[k]?=some [.str nm,.bool pr,.sl (ss.map Stm.c),.int .i64 to]:=by simp [h,hr,Rul.c]
  have hcc:p[k].c=[.str nm,.bool pr,.sl (ss.map Stm.c),.int .i64 to]:=by rw [hr];rfl
  have hcd:(B5 p[k]).c=[.str (B5 p[k]).name,.bool (B5 p[k]).pair,.sl ((B5 p[k]).ins.map Ins.c)]:=rfl
  rw [Rul.v,hcc] at hrule
  generalize B5 p[k]=cd at *
  obtain⟨cn,cp,ci⟩:=cd
  simp only [List.map] at hrule
  ((try simp at hrule);(try simp -implicitDefEqProofs [h,hrk,hcc,e3,hmin]);repeat' first|((with_reducible first|apply A5|apply A6|apply A3)<;>(intro hc;have hc':=hc;(try simp at hc');simp -implicitDefEqProofs [hc,hc',h,hrk,hcc,e3,hmin]))|(with_reducible apply A0<;>first|(simp only [eras,era,A1];first|with_reducible assumption)|(simp -implicitDefEqProofs [h,hrk,hcc,e3,hmin])))
  exact⟨⟨by unfold maxLen;omega,by omega⟩,k+1,by omega,by omega,rfl,by rw [hrv];exact leA.refl _,by push_cast;rfl⟩
 ·have:k=p.length:=by omega
  subst this
  have ht:L.take p.length=L:=List.take_of_length_le (by omega)
  ((try simp -implicitDefEqProofs [ht]);repeat' first|((with_reducible first|apply A5|apply A6|apply A3)<;>(intro hc;have hc':=hc;(try simp at hc');simp -implicitDefEqProofs [hc,hc',ht])))
end Go.Proofs.YtmlpmdccfmmpoaaGreatDoor
end
