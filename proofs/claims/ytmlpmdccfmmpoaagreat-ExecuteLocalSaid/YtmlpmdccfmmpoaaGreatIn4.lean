/- Integers of any length: products of limbs. -/
import Derived.Test.YtmlpmdccfmmpoaaGreatIn3
set_option linter.unusedSimpArgs false
set_option linter.unusedVariables false
set_option maxHeartbeats 2000000
set_option maxRecDepth 8000
namespace Go.Proofs.YtmlpmdccfmmpoaaGreat
open E

theorem M9 {B i k x y u c:Nat} {a b o o0:List Nat} (hB:2≤B) (hx:x<B) (hy:b[k]?=some y) (hu:o[i+k]?=some u) (hc:c<B) (hL:Lim B o) (hb:Lim B b)
  (e:lvl B o+c*B ^ (i+k)=lvl B o0+B ^ i*(x*lvl B (b.take k))) :
  Lim B (o.set (i+k) ((x*y+u+c) % B))∧(x*y+u+c) / B<B∧lvl B (o.set (i+k) ((x*y+u+c) % B))+(x*y+u+c) / B*B ^ (i+(k+1))=lvl B o0+B ^ i*(x*lvl B (b.take (k+1))):=by
 have hyb:=hb.at hy
 have hub:=hL.at hu
 refine⟨hL.set (Nat.mod_lt _ (by omega)) _,?_,?_⟩
 ·rw [Nat.div_lt_iff_lt_mul (by omega)]
  have h1:x*y≤(B-1)*(B-1):=Nat.mul_le_mul (by omega) (by omega)
  obtain⟨D,rfl⟩ : ∃D,B=D+1:=⟨B-1,by omega⟩
  simp only [Nat.add_sub_cancel] at h1
  have h2:(D+1)*(D+1)=D*D+D+D+1:=by rw [Nat.add_mul,Nat.mul_add];omega
  omega
 ·have h1:=Rt (p:=i+k) (m:=x*y) hu e
  rw [show i+(k+1)=i+k+1 by omega,h1,B3 hy,Nat.mul_add,Nat.mul_add,Nat.pow_add]
  have e2:B ^ i*(x*(B ^ k*y))=B ^ i*B ^ k*(x*y):=by
   rw [Nat.mul_assoc,Nat.mul_left_comm x]
  omega
theorem Ui (x y:Nat) (hxl:(A4 b9 x).length≤1000) (hyl:(A4 b9 y).length≤1000):A7 Tryz.prog 120 [.t (lT .u32 (A4 b9 x)),.t (lT .u32 (A4 b9 y))] (.t (lT .u32 (Qk b9 x y))):=by
 have hx:=Ak Bj x
 have hy:=Ak Bj y
 have hlx:=Aj Bj x
 have hly:=Aj Bj y
 have hfin : ∀o:List Nat,Lim b9 o→o.length=(A4 b9 x).length+(A4 b9 y).length→lvl b9 o=x*y→Qk b9 x y=o:=fun o h1 h2 h3=>(Kn Kq h1 h2 h3).symm
 unfold lT
 generalize Qk b9 x y=R at *
 generalize A4 b9 x=a at *
 generalize A4 b9 y=b at *
 have e9:IntKind.i64.wrap ((a.length:Int)+(b.length:Int))=((a.length+b.length:Nat):Int):=by rw [←Int.natCast_add];exact D6 (by omega)
 obtain⟨n,hn⟩ : ∃n,n=a.length+b.length:=⟨_,rfl⟩
 rw [←hn] at e9 hfin
 have n1:(n:Int)≤maxLen:=by unfold maxLen;omega
 have n2:(n:Int)*4≤140737488355328:=by omega
 (refine A7.of_code mix Tryz.call120 k_120 (by simp) (fun hB=>?_);(try simp at hB);(try simp -implicitDefEqProofs))
 ((try simp -implicitDefEqProofs [e9,n1,n2]);repeat' first|((with_reducible first|apply Af|apply Ag|apply A8)<;>(intro hc;have hc':=hc;(try simp at hc');simp -implicitDefEqProofs [hc,hc',e9,n1,n2])))
 refine Ac (X:=Nat×List Nat) (fun X=>X.1≤a.length∧X.2.length=n∧Lim b9 X.2∧lvl b9 X.2=lvl b9 (a.take X.1)*lvl b9 b∧∀j,X.1+b.length≤j→j<n→X.2[j]?=some 0)
  (fun X=>[(1,.t (.sl (lE .u32 b))),(5,.bw 0 n),(20,.t (.sl (lE .u32 a))),(21,vI a.length),(22,vI X.1)]) (fun X=>⟨[.buf 137 1 (bE .u32 X.2)],[]⟩) (fun X=>a.length-X.1) (0,List.replicate n 0) ?h0 ?hs ?_
 case h0=>exact⟨by simp,by simp,Lim.zeros Kq n,by rw [Gp];simp [lvl],fun j _ h=>by rw [List.getElem?_replicate,if_pos h]⟩
 case hs=>
  have:=Kr .u32 n
  simp only [bE,List.map_replicate] at this
  simp [Aw,bE,List.map_replicate]
  first|done|exact O4 fun v hv=>⟨_,(List.mem_replicate.1 hv).2⟩
 rintro ⟨i,o0⟩ ⟨hi,hol,hoL,hov,hoz⟩ hbd
 simp only [] at hi hol hoL hov hoz
 clear hbd
 rcases Nat.lt_or_ge i a.length with h|h
 ·obtain⟨d,hd⟩:=Aa h
  have hdb:=hx.at hd
  have g1:=Bi (k:=.u32) hd
  have g2:=B8 (k:=.u32) hd
  have e3:IntKind.i64.wrap ((i:Int)+1)=(i:Int)+1:=wrap64 (by omega) (by omega)
  ((try simp -implicitDefEqProofs [h,g1,g2,e3]);repeat' first|((with_reducible first|apply Af|apply Ag|apply A8)<;>(intro hc;have hc':=hc;(try simp at hc');simp -implicitDefEqProofs [hc,hc',h,g1,g2,e3])))
  refine Ac (X:=Nat×List Nat×Nat) (fun X=>X.1≤b.length∧X.2.1.length=n∧Lim b9 X.2.1∧X.2.2<b9∧lvl b9 X.2.1+X.2.2*b9 ^ (i+X.1)=lvl b9 o0+b9 ^ i*(d*lvl b9 (b.take X.1))∧∀j,i+b.length≤j→j<n→X.2.1[j]?=some 0)
   (fun X=>[(1,.t (.sl (lE .u32 b))),(5,.bw 0 n),(6,vI i),(7,.t (.int .u32 d)),(8,.t (.int .u64 X.2.2)),(20,.t (.sl (lE .u32 a))),(21,vI a.length),(22,vI i),(27,.t (.sl (lE .u32 b))),(28,vI b.length),(29,vI X.1)]) (fun X=>⟨[.buf 137 1 (bE .u32 X.2.1)],[]⟩) (fun X=>b.length-X.1) (0,o0,0) ?h1 ?hs1 ?_
  case h1=>exact⟨by simp,hol,hoL,Kq,by simp [lvl],hoz⟩
  case hs1=>simp [Aw]
  rintro ⟨k,o,c⟩ ⟨hk,ho,hL,hc,he,hz⟩ hbd
  simp only [] at hk ho hL hc he hz
  clear hbd
  rcases Nat.lt_or_ge k b.length with h2|h2
  ·obtain⟨y',hy'⟩:=Aa h2
   obtain⟨u,hu⟩:=Aa (show i+k<o.length by omega)
   have hub:=hL.at hu
   have hyb:=hy.at hy'
   have st:=M9 (a:=a) Bj hdb hy' hu hc hL hy he
   have g3:=Bi (k:=.u32) hy'
   have g4:=B8 (k:=.u32) hy'
   have g5:=Gr (k:=.u32) hu
   have g6:=Ga (k:=.u32) hu
   unfold b9 at hub hyb hdb hc
   have hpr:d*y'≤999999999*999999999:=Nat.mul_le_mul (by omega) (by omega)
   obtain⟨P,hP⟩ : ∃P,P=d*y':=⟨_,rfl⟩
   rw [←hP] at st hpr
   obtain⟨N,hN⟩ : ∃N,N=P+u+c:=⟨_,rfl⟩
   rw [←hN] at st
   obtain⟨q,hq⟩ : ∃q,q=N / b9:=⟨_,rfl⟩
   obtain⟨r,hr⟩ : ∃r,r=N % b9:=⟨_,rfl⟩
   rw [←hq,←hr] at st
   have v1:IntKind.u64.wrap (d:Int)=(d:Int):=Dw (by omega)
   have v2:IntKind.u64.wrap (y':Int)=(y':Int):=Dw (by omega)
   have v3:IntKind.u64.wrap ((d:Int)*(y':Int))=(P:Int):=by rw [hP];exact Dw (x:=d*y') (by omega)
   have v4:IntKind.u64.wrap (u:Int)=(u:Int):=Dw (by omega)
   have v5:IntKind.u64.wrap ((P:Int)+(u:Int))=(P:Int)+(u:Int):=Dw (x:=P+u) (by omega)
   have v6:IntKind.u64.wrap ((P:Int)+(u:Int)+(c:Int))=(N:Int):=by rw [hN];exact Dw (x:=P+u+c) (by omega)
   have q1:(N:Int).tdiv 1000000000=(q:Int):=by rw [hq];rfl
   have q2:IntKind.u64.wrap (q:Int)=(q:Int):=Dw (by rw [hq];unfold b9;omega)
   have r1:(N:Int).tmod 1000000000=(r:Int):=by rw [hr];rfl
   have r2:IntKind.u64.wrap (r:Int)=(r:Int):=Dw (by rw [hr];unfold b9;omega)
   have r3:IntKind.u32.wrap (r:Int)=(r:Int):=E7 (by rw [hr];unfold b9;omega)
   have e4:IntKind.i64.wrap ((i:Int)+(k:Int))=(i:Int)+(k:Int):=D6 (x:=i+k) (by omega)
   have e5:IntKind.i64.wrap ((k:Int)+1)=(k:Int)+1:=wrap64 (by omega) (by omega)
   have i1:((i:Int)+(k:Int)).toNat=i+k:=by omega
   have i2:(i:Int)+(k:Int)<n:=by omega
   have i3:(0:Int)≤(i:Int)+(k:Int):=by omega
   have i4:i+k+1≤n:=by omega
   have hp:=Cl (k:=.u32) r (show i+k<o.length by omega)
   ((try simp -implicitDefEqProofs [h2,g3,g4,g5,g6,v1,v2,v3,v4,v5,v6,q1,q2,r1,r2,r3,e4,e5,i1,i2,i3,i4,hp,ho]);repeat' first|((with_reducible first|apply Af|apply Ag|apply A8)<;>(intro hc;have hc':=hc;(try simp at hc');simp -implicitDefEqProofs [hc,hc',h2,g3,g4,g5,g6,v1,v2,v3,v4,v5,v6,q1,q2,r1,r2,r3,e4,e5,i1,i2,i3,i4,hp,ho])))
   refine⟨k+1,o.set (i+k) r,q,⟨by omega,by simp [ho],st.1,st.2.1,st.2.2,fun j h1 h2=>?_⟩,by omega,?_⟩
   ·rw [List.getElem?_set_ne (by omega)];exact hz j h1 h2
   ·simp [Aw]
  ·have hkb:k=b.length:=by omega
   subst hkb
   have e4:IntKind.i64.wrap ((i:Int)+(b.length:Int))=((i+b.length:Nat):Int):=D6 (x:=i+b.length) (by omega)
   obtain⟨p,hp⟩ : ∃p,p=i+b.length:=⟨_,rfl⟩
   rw [←hp] at e4 he hz
   have hpz:=hz p (Nat.le_refl _) (by omega)
   have hb1:b.take b.length=b:=List.take_of_length_le (Nat.le_refl _)
   rw [hb1,hly] at he
   have hset:=Hq (B:=b9) (v:=c) hpz
   have hsame:c=0→o.set p c=o:=fun h0=>by
    apply List.ext_getElem?
    intro j
    by_cases hj:p=j
    ·subst hj;rw [List.getElem?_set_self (by omega),hpz,h0]
    ·rw [List.getElem?_set_ne hj]
   have hdone:(o.set p c).length=n∧Lim b9 (o.set p c)∧lvl b9 (o.set p c)=lvl b9 (a.take (i+1))*y∧∀j,i+1+b.length≤j→j<n→(o.set p c)[j]?=some 0:=by
    refine⟨by simp [ho],hL.set hc _,?_,fun j h1 h2=>?_⟩
    ·rw [B3 hd,Nat.add_mul]
     rw [hly] at hov
     have e1:b9 ^ i*d*y=b9 ^ i*(d*y):=Nat.mul_assoc _ _ _
     have e2:c*b9 ^ p=b9 ^ p*c:=Nat.mul_comm _ _
     omega
    ·rw [List.getElem?_set_ne (by omega)];exact hz j (by omega) h2
   rw [hly]
   ((try simp -implicitDefEqProofs [e4]);repeat' first|((with_reducible first|apply Af|apply Ag|apply A8)<;>(intro hc;have hc':=hc;(try simp at hc');simp -implicitDefEqProofs [hc,hc',e4])))
   refine Ac (X:=List Nat×Nat×Nat) (fun X=>X=(o,c,p)∨X=(o.set p c,0,p+1)) (fun X=>[(1,.t (.sl (lE .u32 b))),(5,.bw 0 n),(8,.t (.int .u64 X.2.1)),(12,vI X.2.2),(20,.t (.sl (lE .u32 a))),(21,vI a.length),(22,vI i)]) (fun X=>⟨[.buf 137 1 (bE .u32 X.1)],[]⟩) (fun X=>X.2.1) (o,c,p) (.inl rfl) ?hs2 ?_
   case hs2=>simp [Aw]
   have out:(o.set p c).length=n∧Lim b9 (o.set p c)∧lvl b9 (o.set p c)=lvl b9 (a.take (i+1))*y∧∀j,i+1+b.length≤j→j<n→(o.set p c)[j]?=some 0:=hdone
   rintro X hX hbd
   clear hbd
   unfold b9 at hc
   rcases hX with rfl|rfl
   ·by_cases c0:c=0
    ·rw [hsame c0] at out
     subst c0
     ((try simp -implicitDefEqProofs [e3]);repeat' first|((with_reducible first|apply Af|apply Ag|apply A8)<;>(intro hc;have hc':=hc;(try simp at hc');simp -implicitDefEqProofs [hc,hc',e3])))
     exact⟨i+1,o,⟨by omega,out⟩,by omega,by simp [Aw]⟩
    ·have c1:0<c:=by omega
     have g5:=Gr (k:=.u32) hpz
     have g6:=Ga (k:=.u32) hpz
     have v1:IntKind.u64.wrap (c:Int)=(c:Int):=Dw (by omega)
     have v2:IntKind.u32.wrap (c:Int)=(c:Int):=E7 (by omega)
     have q1:(c:Int).tdiv 1000000000=0:=by rw [Int.tdiv_eq_zero_of_lt]<;>omega
     have r1:(c:Int).tmod 1000000000=(c:Int):=by rw [Int.tmod_eq_of_lt]<;>omega
     have u0:IntKind.u64.wrap 0=0:=by decide
     have e5:IntKind.i64.wrap ((p:Int)+1)=(p:Int)+1:=wrap64 (by omega) (by omega)
     have i2:p<n:=by omega
     have i4:p+1≤n:=by omega
     have hpp:=Cl (k:=.u32) c (show p<o.length by omega)
     ((try simp -implicitDefEqProofs [c1,g5,g6,v1,v2,q1,r1,u0,e5,i2,i4,hpp,ho]);repeat' first|((with_reducible first|apply Af|apply Ag|apply A8)<;>(intro hc;have hc':=hc;(try simp at hc');simp -implicitDefEqProofs [hc,hc',c1,g5,g6,v1,v2,q1,r1,u0,e5,i2,i4,hpp,ho])))
     exact Aw _ _ _ _
   ·((try simp -implicitDefEqProofs [e3]);repeat' first|((with_reducible first|apply Af|apply Ag|apply A8)<;>(intro hc;have hc':=hc;(try simp at hc');simp -implicitDefEqProofs [hc,hc',e3])))
    exact⟨i+1,o.set p c,⟨by omega,out⟩,by omega,by simp [Aw]⟩
 ·have hia:i=a.length:=by omega
  subst hia
  rw [List.take_of_length_le (Nat.le_refl _),hlx,hly] at hov
  rw [hfin o0 hoL hol hov]
  have hrow:=Ci .u32 o0
  rw [hol] at hrow
  have hbt:(bE .u32 o0).take n=bE .u32 o0:=List.take_of_length_le (by simp;omega)
  ((try simp -implicitDefEqProofs [hbt,hrow,Bo]);repeat' first|((with_reducible first|apply Af|apply Ag|apply A8)<;>(intro hc;have hc':=hc;(try simp at hc');simp -implicitDefEqProofs [hc,hc',hbt,hrow,Bo])))
end Go.Proofs.YtmlpmdccfmmpoaaGreat
