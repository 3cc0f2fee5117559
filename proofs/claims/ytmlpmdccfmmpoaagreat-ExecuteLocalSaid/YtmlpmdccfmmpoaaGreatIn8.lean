/- Integers of any length: the reference's differences and products of limbs. -/
import Derived.Test.YtmlpmdccfmmpoaaGreatIn2
import Derived.Test.YtmlpmdccfmmpoaaGreatIn4
set_option linter.unusedSimpArgs false
set_option linter.unusedVariables false
set_option maxHeartbeats 2000000
set_option maxRecDepth 8000
namespace Go.Proofs.YtmlpmdccfmmpoaaGreat
open E

namespace E
theorem Mm {α:Type} {l:List α} {j:Nat} (h:j<l.length) (a b:α):l.getD j a=l.getD j b:=by simp [List.getD_eq_getElem?_getD,h]
theorem FnS.frz {P:Program} {f:Nat} {vs:List V} {S:St} {r:V} (h:A7 P f (eras (frzVs vs S).1) r):FnS P f vs S r (frzVs vs S).2:=by
 have hc:=h.call (frzVs vs S).2
 refine⟨hc.1,fun g w us hI hus hrel=>?_⟩
 obtain⟨h1,h0,g1,h2,h3,h4⟩:=frzVs_sound vs (fun j=>us.getD j undef) hI (fun j hj=>by rw [Mm hj .junk .und];exact hrel j hj)
 refine (hc.2 g1 w us h2.inv (by rw [hus,h3]) (fun j hj=>?_)).mono ?_
 ·rw [h1,Mm hj .und .junk];exact h4 j (by rw [h3] at hj;exact hj)
 ·rintro e w' ⟨u,g',he,hr,hm⟩
  exact⟨u,g',he,hr,h2.trans hm⟩
theorem Gw {P:Program} {f:Nat} {vs:List V} {S:St} {K R:V→St→Prop} {r:V} (h:A7 P f (eras (frzVs vs S).1) r) (k:K r (frzVs vs S).2):Ea P false f vs S K R:=Ab (FnS.frz h) k
end E
theorem X0 (x y:Nat) (hxl:(A4 b4 x).length≤1000) (hyx:y≤x):A7 Tryz.prog 124 [.t (lT .i64 (A4 b4 x)),.t (lT .i64 (A4 b4 y))] (.t (lT .i64 (A4 b4 (x-y)))):=by
 have hx:=Ak Bc x
 have hy:=Ak Bc y
 have hlx:=Aj Bc x
 have hly:=Aj Bc y
 have hle:=Dj Bc hyx
 have htr : ∀o:List Nat,Lim b4 o→lvl b4 o=x-y→A7 Tryz.prog 87 [.t (.sl (lE .i64 o))] (.t (.sl (lE .i64 (A4 b4 (x-y))))):=fun o h1 h2=>by
  have:=F3 h1
  rw [h2] at this
  exact this
 unfold lT
 generalize A4 b4 (x-y)=R at *
 generalize A4 b4 x=a at *
 generalize A4 b4 y=b at *
 (refine A7.of_code mix Tryz.call124 k_124 (by simp) (fun hB=>?_);(try simp at hB);(try simp -implicitDefEqProofs))
 refine Bl [(.slot 5,3,1)] (X:=List Nat×Nat) (fun X=>Lim b4 X.1∧X.2≤1∧X.1.length≤a.length∧lvl b4 X.1+lvl b4 (b.take X.1.length)=lvl b4 (a.take X.1.length)+X.2*b4 ^ X.1.length)
  (fun X=>[(0,.t (.sl (lE .i64 a))),(1,.t (.sl (lE .i64 b))),(5,.own 0 3 1 (lE .i64 X.1)),(6,vI X.2),(7,vI X.1.length)]) (fun X=>⟨[],[X.1.length]⟩) (fun X=>a.length-X.1.length) ([],0) ⟨(fun x hx=>by simp at hx),by simp,by simp,by simp [lvl]⟩ ?hs ?_
 case hs=>simp [Cg]
 rintro ⟨o,r⟩ ⟨ho,hr,hol,he⟩ hbd
 simp only [] at ho hr hol he
 clear hbd
 have e3:IntKind.i64.wrap ((o.length:Int)+1)=(o.length:Int)+1:=wrap64 (by omega) (by omega)
 rcases Nat.lt_or_ge o.length a.length with h1|h1
 ·obtain⟨u,hu⟩:=Aa h1
  have hub:=hx.at hu
  have g1:=Bi (k:=.i64) hu
  have g2:=B8 (k:=.i64) hu
  have step : ∀v d q:Nat,d+r+v=u+q*b4→d<b4→q≤1→lvl b4 (b.take (o.length+1))=lvl b4 (b.take o.length)+b4 ^ o.length*v→
    Lim b4 (o++[d])∧q≤1∧(o++[d]).length≤a.length∧lvl b4 (o++[d])+lvl b4 (b.take (o++[d]).length)=lvl b4 (a.take (o++[d]).length)+q*b4 ^ (o++[d]).length:=fun v d q h2 h3 h4 h5=>by
   have hl1:(o++[d]).length=o.length+1:=by simp
   refine⟨ho.app (Lim.one h3),h4,by omega,?_⟩
   rw [hl1,h5,B3 hu]
   exact Ru rfl he h2
  have w1:IntKind.i64.wrap ((u:Int)-(r:Int))=(u:Int)-(r:Int):=wrap64 (by omega) (by unfold b4 at hub;omega)
  have go : ∀v:Nat,v<b4→((o.length<b.length∧b[o.length]?=some v)∨(¬o.length<b.length∧v=0))→lvl b4 (b.take (o.length+1))=lvl b4 (b.take o.length)+b4 ^ o.length*v:=fun v hv h=>by
   rcases h with ⟨_,h⟩|⟨h,rfl⟩
   ·exact B3 h
   ·rw [List.take_of_length_le (by omega),List.take_of_length_le (by omega)];simp
  unfold b4 at hub
  rcases Nat.lt_or_ge o.length b.length with h2|h2
  ·obtain⟨v,hv⟩:=Aa h2
   have hvb:=hy.at hv
   have eb:=go v hvb (.inl ⟨h2,hv⟩)
   unfold b4 at hvb
   have g3:=Bi (k:=.i64) hv
   have g4:=B8 (k:=.i64) hv
   have w2:IntKind.i64.wrap ((u:Int)-(r:Int)-(v:Int))=(u:Int)-(r:Int)-(v:Int):=wrap64 (by omega) (by omega)
   by_cases hn:(u:Int)-(r:Int)-(v:Int)<0
   ·obtain⟨d,hd⟩ : ∃d:Nat,(u:Int)-(r:Int)-(v:Int)+10000=(d:Int):=⟨((u:Int)-(r:Int)-(v:Int)+10000).toNat,by omega⟩
    have w3:IntKind.i64.wrap (d:Int)=(d:Int):=D6 (by omega)
    have st:=step v d 1 (by unfold b4;omega) (by unfold b4;omega) (by omega) eb
    (try simp -implicitDefEqProofs [h1,h2,g1,g2,g3,g4,w1,w2,hn,hd,w3,e3,maxLen])
    all_goals exact⟨⟨by omega,by omega⟩,o++[d],1,st,by simp;omega,by simp,by rw [Ek];exact .inl (.inl rfl),rfl,by simp⟩
   ·obtain⟨d,hd⟩ : ∃d:Nat,(u:Int)-(r:Int)-(v:Int)=(d:Int):=⟨((u:Int)-(r:Int)-(v:Int)).toNat,by omega⟩
    have st:=step v d 0 (by unfold b4;omega) (by unfold b4;omega) (by omega) eb
    have w2:=w2.trans hd
    have hn' : ¬(d:Int)<0:=by omega
    (try simp -implicitDefEqProofs [h1,h2,g1,g2,g3,g4,w1,w2,hn',e3,maxLen])
    all_goals exact⟨⟨by omega,by omega⟩,o++[d],0,st,by simp;omega,by simp,by rw [Ek];exact .inl (.inl rfl),rfl,by simp⟩
  ·have h2' : ¬o.length<b.length:=by omega
   have eb:=go 0 S6 (.inr ⟨h2',rfl⟩)
   by_cases hn:(u:Int)-(r:Int)<0
   ·obtain⟨d,hd⟩ : ∃d:Nat,(u:Int)-(r:Int)+10000=(d:Int):=⟨((u:Int)-(r:Int)+10000).toNat,by omega⟩
    have w3:IntKind.i64.wrap (d:Int)=(d:Int):=D6 (by omega)
    have st:=step 0 d 1 (by unfold b4;omega) (by unfold b4;omega) (by omega) eb
    (try simp -implicitDefEqProofs [h1,h2',g1,g2,w1,hn,hd,w3,e3,maxLen])
    all_goals exact⟨⟨by omega,by omega⟩,o++[d],1,st,by simp;omega,by simp,by rw [Ek];exact .inl (.inl rfl),rfl,by simp⟩
   ·obtain⟨d,hd⟩ : ∃d:Nat,(u:Int)-(r:Int)=(d:Int):=⟨((u:Int)-(r:Int)).toNat,by omega⟩
    have st:=step 0 d 0 (by unfold b4;omega) (by unfold b4;omega) (by omega) eb
    have w1:=w1.trans hd
    have hn' : ¬(d:Int)<0:=by omega
    (try simp -implicitDefEqProofs [h1,h2',g1,g2,w1,hn',e3,maxLen])
    all_goals exact⟨⟨by omega,by omega⟩,o++[d],0,st,by simp;omega,by simp,by rw [Ek];exact .inl (.inl rfl),rfl,by simp⟩
 ·have hoa:o.length=a.length:=by omega
  rw [hoa,List.take_of_length_le (Nat.le_refl _),List.take_of_length_le hle,hlx,hly] at he
  have hr0:r=0:=by
   rcases (by omega:r=0∨r=1) with h|h
   ·exact h
   ·have:=Gq ho
    rw [hoa] at this
    subst h;omega
  subst hr0
  have ht:=htr o ho (by omega)
  have h1' : ¬o.length<a.length:=by omega
  ((try simp at ht);(try simp -implicitDefEqProofs [h1']);repeat' first|(with_reducible apply A0<;>first|(simp only [eras,era,A1];first|with_reducible assumption)|(simp -implicitDefEqProofs [h1'])))
theorem X1 (x y:Nat) (hxl:(A4 b4 x).length≤1000) (hyl:(A4 b4 y).length≤1000):A7 Tryz.prog 123 [.t (lT .i64 (A4 b4 x)),.t (lT .i64 (A4 b4 y))] (.t (lT .i64 (A4 b4 (x*y)))):=by
 have hx:=Ak Bc x
 have hy:=Ak Bc y
 have hlx:=Aj Bc x
 have hly:=Aj Bc y
 have htr : ∀o:List Nat,Lim b4 o→lvl b4 o=x*y→A7 Tryz.prog 87 [.t (.sl (lE .i64 o))] (.t (.sl (lE .i64 (A4 b4 (x*y))))):=fun o h1 h2=>by
  have:=F3 h1
  rw [h2] at this
  exact this
 unfold lT
 generalize A4 b4 (x*y)=R at *
 generalize A4 b4 x=a at *
 generalize A4 b4 y=b at *
 have e9:IntKind.i64.wrap ((a.length:Int)+(b.length:Int))=((a.length+b.length:Nat):Int):=by rw [←Int.natCast_add];exact D6 (by omega)
 obtain⟨n,hn⟩ : ∃n,n=a.length+b.length:=⟨_,rfl⟩
 rw [←hn] at e9
 have n1:(n:Int)≤maxLen:=by unfold maxLen;omega
 have n1':n≤maxLen:=by unfold maxLen;omega
 have n2:(n:Int)*8≤140737488355328:=by omega
 (refine A7.of_code mix Tryz.call123 k_123 (by simp) (fun hB=>?_);(try simp at hB);(try simp -implicitDefEqProofs))
 (try simp -implicitDefEqProofs [e9,n1,n1',n2])
 refine Ac (X:=Nat×List Nat) (fun X=>X.1≤a.length∧X.2.length=n∧Lim b4 X.2∧lvl b4 X.2=lvl b4 (a.take X.1)*lvl b4 b∧∀j,X.1+b.length≤j→j<n→X.2[j]?=some 0)
  (fun X=>[(0,.t (.sl (lE .i64 a))),(1,.t (.sl (lE .i64 b))),(5,.bw 0 n),(6,vI X.1)]) (fun X=>⟨[.buf 3 1 (bE .i64 X.2)],[]⟩) (fun X=>a.length-X.1) (0,List.replicate n 0) ?h0 ?hs ?_
 case h0=>exact⟨by simp,by simp,Lim.zeros S6 n,by rw [Gp];simp [lvl],fun j _ h=>by rw [List.getElem?_replicate,if_pos h]⟩
 case hs=>
  simp [Aw,bE,List.map_replicate]
  first|done|exact O4 fun v hv=>⟨_,(List.mem_replicate.1 hv).2⟩
 rintro ⟨i,o0⟩ ⟨hi,hol,hoL,hov,hoz⟩ hbd
 simp only [] at hi hol hoL hov hoz
 clear hbd
 rcases Nat.lt_or_ge i a.length with h|h
 ·obtain⟨d,hd⟩:=Aa h
  have hdb:=hx.at hd
  have g1:=Bi (k:=.i64) hd
  have g2:=B8 (k:=.i64) hd
  have e3:IntKind.i64.wrap ((i:Int)+1)=(i:Int)+1:=wrap64 (by omega) (by omega)
  (try simp -implicitDefEqProofs [h,g1,g2,e3])
  refine Ac (X:=Nat×List Nat×Nat) (fun X=>X.1≤b.length∧X.2.1.length=n∧Lim b4 X.2.1∧X.2.2<b4∧lvl b4 X.2.1+X.2.2*b4 ^ (i+X.1)=lvl b4 o0+b4 ^ i*(d*lvl b4 (b.take X.1))∧∀j,i+b.length≤j→j<n→X.2.1[j]?=some 0)
   (fun X=>[(0,.t (.sl (lE .i64 a))),(1,.t (.sl (lE .i64 b))),(5,.bw 0 n),(6,vI i),(7,vI X.2.2),(8,vI X.1)]) (fun X=>⟨[.buf 3 1 (bE .i64 X.2.1)],[]⟩) (fun X=>b.length-X.1) (0,o0,0) ?h1 ?hs1 ?_
  case h1=>exact⟨by simp,hol,hoL,S6,by simp [lvl],hoz⟩
  case hs1=>simp [Aw]
  rintro ⟨k,o,c⟩ ⟨hk,ho,hL,hc,he,hz⟩ hbd
  simp only [] at hk ho hL hc he hz
  clear hbd
  rcases Nat.lt_or_ge k b.length with h2|h2
  ·obtain⟨y',hy'⟩:=Aa h2
   obtain⟨u,hu⟩:=Aa (show i+k<o.length by omega)
   have hub:=hL.at hu
   have hyb:=hy.at hy'
   have st:=M9 (a:=a) Bc hdb hy' hu hc hL hy he
   have g3:=Bi (k:=.i64) hy'
   have g4:=B8 (k:=.i64) hy'
   have g5:=Gr (k:=.i64) hu
   have g6:=Ga (k:=.i64) hu
   unfold b4 at hub hyb hdb hc
   have hpr:d*y'≤9999*9999:=Nat.mul_le_mul (by omega) (by omega)
   obtain⟨P,hP⟩ : ∃P,P=d*y':=⟨_,rfl⟩
   rw [←hP] at st hpr
   obtain⟨N,hN⟩ : ∃N,N=P+u+c:=⟨_,rfl⟩
   rw [←hN] at st
   obtain⟨q,hq⟩ : ∃q,q=N / b4:=⟨_,rfl⟩
   obtain⟨r,hr⟩ : ∃r,r=N % b4:=⟨_,rfl⟩
   rw [←hq,←hr] at st
   have v3:IntKind.i64.wrap ((d:Int)*(y':Int))=(P:Int):=by rw [hP];exact D6 (x:=d*y') (by omega)
   have v5:IntKind.i64.wrap ((u:Int)+(P:Int))=(u:Int)+(P:Int):=D6 (x:=u+P) (by omega)
   have v6:IntKind.i64.wrap ((u:Int)+(P:Int)+(c:Int))=(N:Int):=by rw [hN,show P+u+c=u+P+c by omega];exact D6 (x:=u+P+c) (by omega)
   have q1:(N:Int).tdiv 10000=(q:Int):=by rw [hq];rfl
   have q2:IntKind.i64.wrap (q:Int)=(q:Int):=D6 (by rw [hq];unfold b4;omega)
   have r1:(N:Int).tmod 10000=(r:Int):=by rw [hr];rfl
   have r2:IntKind.i64.wrap (r:Int)=(r:Int):=D6 (by rw [hr];unfold b4;omega)
   have e4:IntKind.i64.wrap ((i:Int)+(k:Int))=(i:Int)+(k:Int):=D6 (x:=i+k) (by omega)
   have e5:IntKind.i64.wrap ((k:Int)+1)=(k:Int)+1:=wrap64 (by omega) (by omega)
   have i1:((i:Int)+(k:Int)).toNat=i+k:=by omega
   have i2:(i:Int)+(k:Int)<n:=by omega
   have i3:(0:Int)≤(i:Int)+(k:Int):=by omega
   have i4:i+k+1≤n:=by omega
   have hp:=Cl (k:=.i64) r (show i+k<o.length by omega)
   (try simp -implicitDefEqProofs [h,h2,g1,g2,g3,g4,g5,g6,v3,v5,v6,q1,q2,r1,r2,e4,e5,i1,i2,i3,i4,hp,ho])
   refine⟨k+1,o.set (i+k) r,q,⟨by omega,by simp [ho],st.1,st.2.1,st.2.2,fun j h1 h2=>?_⟩,by omega,?_⟩
   ·rw [List.getElem?_set_ne (by omega)];exact hz j h1 h2
   ·simp [Aw]
  ·have hkb:k=b.length:=by omega
   subst hkb
   have e4:IntKind.i64.wrap ((i:Int)+(b.length:Int))=((i+b.length:Nat):Int):=D6 (x:=i+b.length) (by omega)
   obtain⟨p,hp⟩ : ∃p,p=i+b.length:=⟨_,rfl⟩
   rw [←hp] at e4 he hz
   have hpz:=hz p (Nat.le_refl _) (by omega)
   have hb1:b.take b.length=b:=List.take_of_length_le (Nat.le_refl _)
   rw [hb1,hly] at he
   have hset:=Hq (B:=b4) (v:=c) hpz
   have hdone:(o.set p c).length=n∧Lim b4 (o.set p c)∧lvl b4 (o.set p c)=lvl b4 (a.take (i+1))*y∧∀j,i+1+b.length≤j→j<n→(o.set p c)[j]?=some 0:=by
    refine⟨by simp [ho],hL.set hc _,?_,fun j h1 h2=>?_⟩
    ·rw [B3 hd,Nat.add_mul]
     rw [hly] at hov
     have e1:b4 ^ i*d*y=b4 ^ i*(d*y):=Nat.mul_assoc _ _ _
     have e2:c*b4 ^ p=b4 ^ p*c:=Nat.mul_comm _ _
     omega
    ·rw [List.getElem?_set_ne (by omega)];exact hz j (by omega) h2
   rw [hly]
   have i2:p<n:=by omega
   have i4:p+1≤n:=by omega
   have hpp:=Cl (k:=.i64) c (show p<o.length by omega)
   (try simp -implicitDefEqProofs [e4,e3,i2,i4,hpp,ho])
   exact⟨i+1,o.set p c,⟨by omega,hdone⟩,by omega,by simp [Aw]⟩
 ·have hia:i=a.length:=by omega
  subst hia
  rw [List.take_of_length_le (Nat.le_refl _),hlx,hly] at hov
  have ht:=htr o0 hoL hov
  have hrow:=Ci .i64 o0
  rw [hol] at hrow
  have hbt:(bE .i64 o0).take n=bE .i64 o0:=List.take_of_length_le (by simp;omega)
  (try simp -implicitDefEqProofs)
  refine Gw (r:=.t (.sl (lE .i64 R))) ?_ ?_
  ·simp [frzVs,Bo,Dc,hbt,hrow,eras,era]
   exact ht
  ·(try simp -implicitDefEqProofs [hbt,hrow,Bo,frzVs,Dc])
end Go.Proofs.YtmlpmdccfmmpoaaGreat
