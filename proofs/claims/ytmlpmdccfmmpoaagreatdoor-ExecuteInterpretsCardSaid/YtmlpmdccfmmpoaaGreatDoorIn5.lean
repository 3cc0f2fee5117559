/- Integers of any length: quotients by one limb, greatest common divisors; products and sums of integers. -/
import Derived.Test.YtmlpmdccfmmpoaaGreatDoorIn3
set_option linter.unusedSimpArgs false
set_option linter.unusedVariables false
set_option maxHeartbeats 2000000
set_option maxRecDepth 8000
namespace Go.Proofs.YtmlpmdccfmmpoaaGreatDoor
open E
theorem Qy {B i k x y u c:Nat} {a b o o0:List Nat} (hB:2≤B) (hx:x<B) (hy:b[k]?=some y) (hu:o[i+k]?=some u) (hc:c<B) (hL:Lim B o) (hb:Lim B b)
  (e:lvl B o+c*B ^ (i+k)=lvl B o0+B ^ i*(x*lvl B (b.take k))) :
  Lim B (o.set (i+k) ((x*y+u+c) % B))∧(x*y+u+c) / B<B∧lvl B (o.set (i+k) ((x*y+u+c) % B))+(x*y+u+c) / B*B ^ (i+(k+1))=lvl B o0+B ^ i*(x*lvl B (b.take (k+1))):=by
 have hyb:=hb.at hy
 have hub:=hL.at hu
 refine⟨hL.set (Nat.mod_lt _ (by omega)) _,?_,?_⟩
 ·rw [Nat.div_lt_iff_lt_mul (by omega)]
  have h1:x*y≤(B-1)*(B-1):=Nat.mul_le_mul (by omega) (by omega)
  obtain⟨D,rfl⟩ : ∃D,B=D+1:=⟨B-1,by omega⟩
  simp only [Nat.add_sub_cancel] at h1
  have h2:(D+1)*(D+1)=D*D+D+D+1:=by rw [Nat.add_mul,Nat.mul_add];omega
  omega
 ·have h1:=Yw (p:=i+k) (m:=x*y) hu e
  rw [show i+(k+1)=i+k+1 by omega,h1,As hy,Nat.mul_add,Nat.mul_add,Nat.pow_add]
  have e2:B ^ i*(x*(B ^ k*y))=B ^ i*B ^ k*(x*y):=by
   rw [Nat.mul_assoc,Nat.mul_left_comm x]
  omega
theorem A2a (x y:Nat) (hxl:(Aa b9 x).length≤1000) (hyl:(Aa b9 y).length≤1000):A4 Tryz.prog 210 [.t (lT .u32 (Aa b9 x)),.t (lT .u32 (Aa b9 y))] (.t (lT .u32 (Wy b9 x y))):=by
 have hx:=Ap Ck x
 have hy:=Ap Ck y
 have hlx:=An Ck x
 have hly:=An Ck y
 have hfin : ∀o:List Nat,Lim b9 o→o.length=(Aa b9 x).length+(Aa b9 y).length→lvl b9 o=x*y→Wy b9 x y=o:=fun o h1 h2 h3=>(Lz Or h1 h2 h3).symm
 unfold lT
 generalize Wy b9 x y=R at *
 generalize Aa b9 x=a at *
 generalize Aa b9 y=b at *
 have e9:IntKind.i64.wrap ((a.length:Int)+(b.length:Int))=((a.length+b.length:Nat):Int):=by rw [←Int.natCast_add];exact E6 (by omega)
 obtain⟨n,hn⟩ : ∃n,n=a.length+b.length:=⟨_,rfl⟩
 rw [←hn] at e9 hfin
 have n1:(n:Int)≤maxLen:=by unfold maxLen;omega
 have n2:(n:Int)*4≤140737488355328:=by omega
 (refine A4.of_code mix Tryz.call210 k_210 (by simp) (fun hB=>?_);(try simp at hB);(try simp -implicitDefEqProofs))
 ((try simp -implicitDefEqProofs [e9,n1,n2]);repeat' first|((with_reducible first|apply A7|apply A8|apply A3)<;>(intro hc;have hc':=hc;(try simp at hc');simp -implicitDefEqProofs [hc,hc',e9,n1,n2])))
 refine A9 (X:=Nat×List Nat) (fun X=>X.1≤a.length∧X.2.length=n∧Lim b9 X.2∧lvl b9 X.2=lvl b9 (a.take X.1)*lvl b9 b∧∀j,X.1+b.length≤j→j<n→X.2[j]?=some 0)
  (fun X=>[(1,.t (.sl (lE .u32 b))),(5,.bw 0 n),(20,.t (.sl (lE .u32 a))),(21,vI a.length),(22,vI X.1)]) (fun X=>⟨[.buf 215 1 (bE .u32 X.2)],[]⟩) (fun X=>a.length-X.1) (0,List.replicate n 0) ?h0 ?hs ?_
 case h0=>exact⟨by simp,by simp,Lim.zeros Or n,by rw [Ju];simp [lvl],fun j _ h=>by rw [List.getElem?_replicate,if_pos h]⟩
 case hs=>
  have:=Ot .u32 n
  simp only [bE,List.map_replicate] at this
  simp [B6,bE,List.map_replicate]
  first|done|exact Tt fun v hv=>⟨_,(List.mem_replicate.1 hv).2⟩
 rintro ⟨i,o0⟩ ⟨hi,hol,hoL,hov,hoz⟩ hbd
 simp only [] at hi hol hoL hov hoz
 clear hbd
 rcases Nat.lt_or_ge i a.length with h|h
 ·obtain⟨d,hd⟩:=Ad h
  have hdb:=hx.at hd
  have g1:=Bm (k:=.u32) hd
  have g2:=B8 (k:=.u32) hd
  have e3:IntKind.i64.wrap ((i:Int)+1)=(i:Int)+1:=wrap64 (by omega) (by omega)
  ((try simp -implicitDefEqProofs [h,g1,g2,e3]);repeat' first|((with_reducible first|apply A7|apply A8|apply A3)<;>(intro hc;have hc':=hc;(try simp at hc');simp -implicitDefEqProofs [hc,hc',h,g1,g2,e3])))
  refine A9 (X:=Nat×List Nat×Nat) (fun X=>X.1≤b.length∧X.2.1.length=n∧Lim b9 X.2.1∧X.2.2<b9∧lvl b9 X.2.1+X.2.2*b9 ^ (i+X.1)=lvl b9 o0+b9 ^ i*(d*lvl b9 (b.take X.1))∧∀j,i+b.length≤j→j<n→X.2.1[j]?=some 0)
   (fun X=>[(1,.t (.sl (lE .u32 b))),(5,.bw 0 n),(6,vI i),(7,.t (.int .u32 d)),(8,.t (.int .u64 X.2.2)),(20,.t (.sl (lE .u32 a))),(21,vI a.length),(22,vI i),(27,.t (.sl (lE .u32 b))),(28,vI b.length),(29,vI X.1)]) (fun X=>⟨[.buf 215 1 (bE .u32 X.2.1)],[]⟩) (fun X=>b.length-X.1) (0,o0,0) ?h1 ?hs1 ?_
  case h1=>exact⟨by simp,hol,hoL,Or,by simp [lvl],hoz⟩
  case hs1=>simp [B6]
  rintro ⟨k,o,c⟩ ⟨hk,ho,hL,hc,he,hz⟩ hbd
  simp only [] at hk ho hL hc he hz
  clear hbd
  rcases Nat.lt_or_ge k b.length with h2|h2
  ·obtain⟨y',hy'⟩:=Ad h2
   obtain⟨u,hu⟩:=Ad (show i+k<o.length by omega)
   have hub:=hL.at hu
   have hyb:=hy.at hy'
   have st:=Qy (a:=a) Ck hdb hy' hu hc hL hy he
   have g3:=Bm (k:=.u32) hy'
   have g4:=B8 (k:=.u32) hy'
   have g5:=Jw (k:=.u32) hu
   have g6:=J8 (k:=.u32) hu
   unfold b9 at hub hyb hdb hc
   have hpr:d*y'≤999999999*999999999:=Nat.mul_le_mul (by omega) (by omega)
   obtain⟨P,hP⟩ : ∃P,P=d*y':=⟨_,rfl⟩
   rw [←hP] at st hpr
   obtain⟨N,hN⟩ : ∃N,N=P+u+c:=⟨_,rfl⟩
   rw [←hN] at st
   obtain⟨q,hq⟩ : ∃q,q=N / b9:=⟨_,rfl⟩
   obtain⟨r,hr⟩ : ∃r,r=N % b9:=⟨_,rfl⟩
   rw [←hq,←hr] at st
   have v1:IntKind.u64.wrap (d:Int)=(d:Int):=Fo (by omega)
   have v2:IntKind.u64.wrap (y':Int)=(y':Int):=Fo (by omega)
   have v3:IntKind.u64.wrap ((d:Int)*(y':Int))=(P:Int):=by rw [hP];exact Fo (x:=d*y') (by omega)
   have v4:IntKind.u64.wrap (u:Int)=(u:Int):=Fo (by omega)
   have v5:IntKind.u64.wrap ((P:Int)+(u:Int))=(P:Int)+(u:Int):=Fo (x:=P+u) (by omega)
   have v6:IntKind.u64.wrap ((P:Int)+(u:Int)+(c:Int))=(N:Int):=by rw [hN];exact Fo (x:=P+u+c) (by omega)
   have q1:(N:Int).tdiv 1000000000=(q:Int):=by rw [hq];rfl
   have q2:IntKind.u64.wrap (q:Int)=(q:Int):=Fo (by rw [hq];unfold b9;omega)
   have r1:(N:Int).tmod 1000000000=(r:Int):=by rw [hr];rfl
   have r2:IntKind.u64.wrap (r:Int)=(r:Int):=Fo (by rw [hr];unfold b9;omega)
   have r3:IntKind.u32.wrap (r:Int)=(r:Int):=G0 (by rw [hr];unfold b9;omega)
   have e4:IntKind.i64.wrap ((i:Int)+(k:Int))=(i:Int)+(k:Int):=E6 (x:=i+k) (by omega)
   have e5:IntKind.i64.wrap ((k:Int)+1)=(k:Int)+1:=wrap64 (by omega) (by omega)
   have i1:((i:Int)+(k:Int)).toNat=i+k:=by omega
   have i2:(i:Int)+(k:Int)<n:=by omega
   have i3:(0:Int)≤(i:Int)+(k:Int):=by omega
   have i4:i+k+1≤n:=by omega
   have hp:=Du (k:=.u32) r (show i+k<o.length by omega)
   ((try simp -implicitDefEqProofs [h2,g3,g4,g5,g6,v1,v2,v3,v4,v5,v6,q1,q2,r1,r2,r3,e4,e5,i1,i2,i3,i4,hp,ho]);repeat' first|((with_reducible first|apply A7|apply A8|apply A3)<;>(intro hc;have hc':=hc;(try simp at hc');simp -implicitDefEqProofs [hc,hc',h2,g3,g4,g5,g6,v1,v2,v3,v4,v5,v6,q1,q2,r1,r2,r3,e4,e5,i1,i2,i3,i4,hp,ho])))
   refine⟨k+1,o.set (i+k) r,q,⟨by omega,by simp [ho],st.1,st.2.1,st.2.2,fun j h1 h2=>?_⟩,by omega,?_⟩
   ·rw [List.getElem?_set_ne (by omega)];exact hz j h1 h2
   ·simp [B6]
  ·have hkb:k=b.length:=by omega
   subst hkb
   have e4:IntKind.i64.wrap ((i:Int)+(b.length:Int))=((i+b.length:Nat):Int):=E6 (x:=i+b.length) (by omega)
   obtain⟨p,hp⟩ : ∃p,p=i+b.length:=⟨_,rfl⟩
   rw [←hp] at e4 he hz
   have hpz:=hz p (Nat.le_refl _) (by omega)
   have hb1:b.take b.length=b:=List.take_of_length_le (Nat.le_refl _)
   rw [hb1,hly] at he
   have hset:=L3 (B:=b9) (v:=c) hpz
   have hsame:c=0→o.set p c=o:=fun h0=>by
    apply List.ext_getElem?
    intro j
    by_cases hj:p=j
    ·subst hj;rw [List.getElem?_set_self (by omega),hpz,h0]
    ·rw [List.getElem?_set_ne hj]
   have hdone:(o.set p c).length=n∧Lim b9 (o.set p c)∧lvl b9 (o.set p c)=lvl b9 (a.take (i+1))*y∧∀j,i+1+b.length≤j→j<n→(o.set p c)[j]?=some 0:=by
    refine⟨by simp [ho],hL.set hc _,?_,fun j h1 h2=>?_⟩
    ·rw [As hd,Nat.add_mul]
     rw [hly] at hov
     have e1:b9 ^ i*d*y=b9 ^ i*(d*y):=Nat.mul_assoc _ _ _
     have e2:c*b9 ^ p=b9 ^ p*c:=Nat.mul_comm _ _
     omega
    ·rw [List.getElem?_set_ne (by omega)];exact hz j (by omega) h2
   rw [hly]
   ((try simp -implicitDefEqProofs [e4]);repeat' first|((with_reducible first|apply A7|apply A8|apply A3)<;>(intro hc;have hc':=hc;(try simp at hc');simp -implicitDefEqProofs [hc,hc',e4])))
   refine A9 (X:=List Nat×Nat×Nat) (fun X=>X=(o,c,p)∨X=(o.set p c,0,p+1)) (fun X=>[(1,.t (.sl (lE .u32 b))),(5,.bw 0 n),(8,.t (.int .u64 X.2.1)),(12,vI X.2.2),(20,.t (.sl (lE .u32 a))),(21,vI a.length),(22,vI i)]) (fun X=>⟨[.buf 215 1 (bE .u32 X.1)],[]⟩) (fun X=>X.2.1) (o,c,p) (.inl rfl) ?hs2 ?_
   case hs2=>simp [B6]
   have out:(o.set p c).length=n∧Lim b9 (o.set p c)∧lvl b9 (o.set p c)=lvl b9 (a.take (i+1))*y∧∀j,i+1+b.length≤j→j<n→(o.set p c)[j]?=some 0:=hdone
   rintro X hX hbd
   clear hbd
   unfold b9 at hc
   rcases hX with rfl|rfl
   ·by_cases c0:c=0
    ·rw [hsame c0] at out
     subst c0
     ((try simp -implicitDefEqProofs [e3]);repeat' first|((with_reducible first|apply A7|apply A8|apply A3)<;>(intro hc;have hc':=hc;(try simp at hc');simp -implicitDefEqProofs [hc,hc',e3])))
     exact⟨i+1,o,⟨by omega,out⟩,by omega,by simp [B6]⟩
    ·have c1:0<c:=by omega
     have g5:=Jw (k:=.u32) hpz
     have g6:=J8 (k:=.u32) hpz
     have v1:IntKind.u64.wrap (c:Int)=(c:Int):=Fo (by omega)
     have v2:IntKind.u32.wrap (c:Int)=(c:Int):=G0 (by omega)
     have q1:(c:Int).tdiv 1000000000=0:=by rw [Int.tdiv_eq_zero_of_lt]<;>omega
     have r1:(c:Int).tmod 1000000000=(c:Int):=by rw [Int.tmod_eq_of_lt]<;>omega
     have u0:IntKind.u64.wrap 0=0:=by decide
     have e5:IntKind.i64.wrap ((p:Int)+1)=(p:Int)+1:=wrap64 (by omega) (by omega)
     have i2:p<n:=by omega
     have i4:p+1≤n:=by omega
     have hpp:=Du (k:=.u32) c (show p<o.length by omega)
     ((try simp -implicitDefEqProofs [c1,g5,g6,v1,v2,q1,r1,u0,e5,i2,i4,hpp,ho]);repeat' first|((with_reducible first|apply A7|apply A8|apply A3)<;>(intro hc;have hc':=hc;(try simp at hc');simp -implicitDefEqProofs [hc,hc',c1,g5,g6,v1,v2,q1,r1,u0,e5,i2,i4,hpp,ho])))
     exact B6 _ _ _ _
   ·((try simp -implicitDefEqProofs [e3]);repeat' first|((with_reducible first|apply A7|apply A8|apply A3)<;>(intro hc;have hc':=hc;(try simp at hc');simp -implicitDefEqProofs [hc,hc',e3])))
    exact⟨i+1,o.set p c,⟨by omega,out⟩,by omega,by simp [B6]⟩
 ·have hia:i=a.length:=by omega
  subst hia
  rw [List.take_of_length_le (Nat.le_refl _),hlx,hly] at hov
  rw [hfin o0 hoL hol hov]
  have hrow:=Dp .u32 o0
  rw [hol] at hrow
  have hbt:(bE .u32 o0).take n=bE .u32 o0:=List.take_of_length_le (by simp;omega)
  ((try simp -implicitDefEqProofs [hbt,hrow,Br]);repeat' first|((with_reducible first|apply A7|apply A8|apply A3)<;>(intro hc;have hc':=hc;(try simp at hc');simp -implicitDefEqProofs [hc,hc',hbt,hrow,Br])))
theorem A2b (x d:Nat) (hxl:(Aa b9 x).length≤1000) (hd0:0<d) (hdb:d<b9):A4 Tryz.prog 209 [.t (lT .u32 (Aa b9 x)),.t (.int .u32 d)] (.tup [.t (lT .u32 (Tp b9 x d)),.t (lT .u32 [x % d])]):=by
 have hx:=Ap Ck x
 have hlx:=An Ck x
 have hfin : ∀o:List Nat,Lim b9 o→o.length=(Aa b9 x).length→lvl b9 o=x / d→Tp b9 x d=o:=fun o h1 h2 h3=>(Lz Or h1 h2 h3).symm
 unfold lT
 generalize Tp b9 x d=R at *
 generalize Aa b9 x=a at *
 have n1:a.length≤maxLen:=by unfold maxLen;omega
 have n2:(a.length:Int)*4≤140737488355328:=by omega
 have hdb':=hdb
 unfold b9 at hdb'
 have v8:IntKind.u64.wrap (d:Int)=(d:Int):=Fo (by omega)
 have dne:(d:Int)≠0:=by omega
 have dn : ¬d=0:=by omega
 (refine A4.of_code mix Tryz.call209 k_209 (by simp) (fun hB=>?_);(try simp at hB);(try simp -implicitDefEqProofs))
 (try simp -implicitDefEqProofs [n1,n2])
 refine A9 (X:=Nat×List Nat×Nat) (fun X=>X.1≤a.length∧X.2.1.length=a.length∧Lim b9 X.2.1∧lvl b9 (X.2.1.drop X.1)=lvl b9 (a.drop X.1) / d∧X.2.2=lvl b9 (a.drop X.1) % d)
  (fun X=>[(0,.t (.sl (lE .u32 a))),(1,.t (.int .u32 d)),(6,.bw 0 a.length),(7,.t (.int .u64 X.2.2)),(8,vI ((X.1:Int)-1))]) (fun X=>⟨[.buf 215 1 (bE .u32 X.2.1)],[]⟩) (fun X=>X.1) (a.length,List.replicate a.length 0,0) ?h0 ?hs ?_
 case h0=>exact⟨Nat.le_refl _,by simp,Lim.zeros Or _,by rw [List.drop_of_length_le (by simp),List.drop_of_length_le (Nat.le_refl _)];simp [lvl],by rw [List.drop_of_length_le (Nat.le_refl _)];simp [lvl]⟩
 case hs=>
  have e3:IntKind.i64.wrap ((a.length:Int)-1)=(a.length:Int)-1:=wrap64 (by omega) (by omega)
  simp [B6,bE,List.map_replicate,e3]
  first|done|exact Tt fun v hv=>⟨_,(List.mem_replicate.1 hv).2⟩
 rintro ⟨k,o,r⟩ ⟨hk,ho,hL,hv,hr⟩ hbd
 simp only [] at hk ho hL hv hr
 clear hbd
 rcases Nat.eq_zero_or_pos k with k0|k0
 ·subst k0
  rw [List.drop_zero,List.drop_zero,hlx] at hv
  rw [List.drop_zero,hlx] at hr
  rw [hfin o hL ho hv,←hr]
  have hrow:=Dp .u32 o
  rw [ho] at hrow
  have hbt:(bE .u32 o).take a.length=bE .u32 o:=List.take_of_length_le (by simp;omega)
  have hrb:r<d:=by rw [hr];exact Nat.mod_lt _ hd0
  have v9:IntKind.u32.wrap (r:Int)=(r:Int):=G0 (by omega)
  (try simp -implicitDefEqProofs [hbt,hrow,Br,v9,M4])
 ·obtain⟨i,rfl⟩ : ∃i,k=i+1:=⟨k-1,by omega⟩
  obtain⟨u,hu⟩:=Ad (show i<a.length by omega)
  have hub:=hx.at hu
  have hrb:r<d:=by rw [hr];exact Nat.mod_lt _ hd0
  have hA:=(Nat.div_add_mod (lvl b9 (a.drop (i+1))) d).symm
  have st:=M3 (B:=b9) (x:=u) hd0 hrb (A:=lvl b9 (a.drop (i+1))) (Q:=lvl b9 (a.drop (i+1)) / d) (by rw [hr];exact hA)
  have hdl:=To hd0 hrb hub
  have hdn:=D9 (B:=b9) hu
  rw [←hdn] at st
  obtain⟨N,hN⟩ : ∃N,N=r*b9+u:=⟨_,rfl⟩
  rw [←hN] at st hdl
  obtain⟨q,hq⟩ : ∃q,q=N / d:=⟨_,rfl⟩
  obtain⟨r',hr'⟩ : ∃r',r'=N % d:=⟨_,rfl⟩
  rw [←hq] at hdl
  rw [←hq,←hr',←hv] at st
  have hNb:N<18446744073709551616:=by rw [hN];unfold b9 at hub ⊢;omega
  have g1:=Bm (k:=.u32) hu
  have g2:=B8 (k:=.u32) hu
  have v1:IntKind.u64.wrap ((r:Int)*1000000000)=((r*b9:Nat):Int):=Fo (x:=r*b9) (by unfold b9;omega)
  have v2:IntKind.u64.wrap (u:Int)=(u:Int):=Fo (by unfold b9 at hub;omega)
  have v3:IntKind.u64.wrap ((r:Int)*(b9:Int)+(u:Int))=(N:Int):=by rw [hN];exact Fo (x:=r*b9+u) (by omega)
  have q1:(N:Int).tdiv (d:Int)=(q:Int):=by rw [hq];rfl
  have q2:IntKind.u64.wrap (q:Int)=(q:Int):=Fo (by unfold b9 at hdl;omega)
  have q3:IntKind.u32.wrap (q:Int)=(q:Int):=G0 (by unfold b9 at hdl;omega)
  have r1:(N:Int).tmod (d:Int)=(r':Int):=by rw [hr'];rfl
  have hrb':r'<d:=by rw [hr'];exact Nat.mod_lt _ hd0
  have r2:IntKind.u64.wrap (r':Int)=(r':Int):=Fo (by omega)
  have e3:IntKind.i64.wrap ((i:Int)-1)=(i:Int)-1:=wrap64 (by omega) (by omega)
  have hp:=Du (k:=.u32) q (show i<o.length by omega)
  have i4:i<a.length:=by omega
  have i5:i+1≤a.length:=by omega
  (try simp -implicitDefEqProofs [g1,g2,v1,v2,v3,v8,dne,dn,q1,q2,q3,r1,r2,e3,hp,i4,i5,ho])
  refine⟨i,o.set i q,r',⟨by omega,by simp [ho],hL.set hdl _,?_,st.2.symm⟩,by omega,?_⟩
  ·rw [Db (by omega),lvl,st.1]
  ·simp [B6]
theorem A2c {x d:Nat} (h : ¬x<d):Om b9 x d=Tp b9 x d:=by unfold Om;rw [if_neg h]
theorem A2d {x d:Nat} (h : ¬x<d):On b9 x d=[x % d]:=by unfold On;rw [if_neg h]
theorem Qz (x d:Nat) (hxl:(Aa b9 x).length≤1000) (hd0:0<d) (hdb:d<b9):A4 Tryz.prog 174 [.t (lT .u32 (Aa b9 x)),.t (lT .u32 (Aa b9 d))] (.tup [.t (lT .u32 (Om b9 x d)),.t (lT .u32 (On b9 x d))]):=by
 have hc:=Ts x d
 have hs:=A2b x d hxl hd0 hdb
 have h1:=I6 (B:=b9) hd0 hdb
 by_cases h:x<d
 ·have e1:D4 x d = -1:=by unfold D4;rw [if_pos h]
  rw [e1] at hc
  unfold Om On
  rw [if_pos h,if_pos h]
  unfold lT at *
  (refine A4.of_code mix Tryz.call174 k_174 (by simp) (fun hB=>?_);(try simp at hB);(try simp -implicitDefEqProofs))
  ((try simp at hc);(try simp -implicitDefEqProofs [Dh]);repeat' first|(with_reducible apply A0<;>first|(simp only [eras,era,A1];first|with_reducible assumption)|(simp -implicitDefEqProofs [Dh])))
 ·have e1 : ¬D4 x d<0:=by unfold D4;rw [if_neg h];split<;>omega
  rw [A2c h,A2d h]
  unfold lT at *
  rw [h1,M4] at hc ⊢
  simp only [M4] at hs ⊢
  (refine A4.of_code mix Tryz.call174 k_174 (by simp) (fun hB=>?_);(try simp at hB);(try simp -implicitDefEqProofs))
  ((try simp at hc hs);(try simp -implicitDefEqProofs [e1,M4]);repeat' first|(with_reducible apply A0<;>first|(simp only [eras,era,A1];first|with_reducible assumption)|(simp -implicitDefEqProofs [e1,M4])))
theorem A7m (x y:Int) (hxl:(Aa b9 x.natAbs).length≤1000) (hy:y.natAbs<b9):A4 Tryz.prog 142 [iV b9 .u32 x,iV b9 .u32 y] (iV b9 .u32 (Nat.gcd x.natAbs y.natAbs:Nat)):=by
 have hsg : ∀n:Nat,A4 Tryz.prog 176 [vB false,.t (.sl (lE .u32 (Aa b9 n)))] (.agg [.t (.bool false),.t (.sl (lE .u32 (Aa b9 n)))]):=fun n=>by
  have:=Fm false (Ap Ck n)
  rw [An Ck] at this
  have e:Cl false n=(n:Int):=rfl
  rw [e] at this
  unfold iV iC lT at this
  have e2:decide ((n:Int)<0)=false:=by simp
  simp only [e2,Int.natAbs_natCast,List.map_cons,List.map_nil] at this
  exact this
 have e0:decide (((Nat.gcd x.natAbs y.natAbs:Nat):Int)<0)=false:=by simp
 unfold iV iC lT
 rw [e0,Int.natAbs_natCast]
 (refine A4.of_code mix Tryz.call142 k_142 (by simp) (fun hB=>?_);(try simp at hB);(try simp -implicitDefEqProofs))
 refine A9 (X:=Nat×Nat) (fun X=>Nat.gcd X.1 X.2=Nat.gcd x.natAbs y.natAbs∧X.2<b9∧(Aa b9 X.1).length≤1000) (fun X=>[(4,.ptr 2 0),(5,.t (.sl (lE .u32 (Aa b9 X.1)))),(6,.t (.sl (lE .u32 (Aa b9 X.2))))]) (fun X=>⟨[.cells [.t (.bool (decide (x<0))),.t (.sl (lE .u32 (Aa b9 x.natAbs)))],.cells [.t (.bool (decide (y<0))),.t (.sl (lE .u32 (Aa b9 y.natAbs)))],.cells [.t (.bool false),.snil]],[]⟩) (fun X=>X.2) (x.natAbs,y.natAbs) ⟨rfl,hy,hxl⟩ ?hs ?_
 case hs=>simp
 rintro ⟨a,b⟩ ⟨hg,hb,hal⟩ hbd
 simp only [] at hg hb hal
 clear hbd
 rcases Nat.eq_zero_or_pos b with b0|b0
 ·subst b0
  rw [Nat.gcd_zero_right] at hg
  have hs:=hsg a
  rw [←hg]
  ((try simp at hs);(try simp -implicitDefEqProofs [Az,Dh]);repeat' first|(with_reducible apply A0<;>first|(simp only [eras,era,A1];first|with_reducible assumption)|(simp -implicitDefEqProofs [Az,Dh])))
 ·have hdv:=Qz a b hal b0 hb
  have htr:=Z4 (Qu (B:=b9) (a:=a) Ck b0 hb)
  rw [Qt Ck] at htr
  unfold lT at hdv htr
  have hlt:=Nat.mod_lt a b0
  have hlp:0<(Aa b9 b).length:=Do Ck (by omega)
  ((try simp at hdv htr);(try simp -implicitDefEqProofs [hlp]);repeat' first|(with_reducible apply A0<;>first|(simp only [eras,era,A1];first|with_reducible assumption)|(simp -implicitDefEqProofs [hlp])))
  refine⟨b,a % b,⟨?_,by omega,?_⟩,hlt,rfl,rfl⟩
  ·rw [←hg,Nat.gcd_comm b,←Nat.gcd_rec,Nat.gcd_comm]
  ·rw [I6 b0 hb];simp
theorem R0 (x y:Int):Cl (decide (x<0) != decide (y<0)) (x.natAbs*y.natAbs)=x*y:=by
 rw [←Int.natAbs_mul]
 unfold Cl
 by_cases h1:x<0<;>by_cases h2:y<0<;>simp only [h1,h2,decide_true,decide_false,bne_self_eq_false,Bool.false_eq_true,if_false,if_true,Bool.bne_true,Bool.not_true,Bool.not_false,Bool.bne_false]
 ·have:=Int.mul_nonneg_of_nonpos_of_nonpos (show x≤0 by omega) (show y≤0 by omega);omega
 ·have:=Int.mul_nonpos_of_nonpos_of_nonneg (show x≤0 by omega) (show 0≤y by omega);omega
 ·have:=Int.mul_nonpos_of_nonneg_of_nonpos (show 0≤x by omega) (show y≤0 by omega);omega
 ·have:=Int.mul_nonneg (show 0≤x by omega) (show 0≤y by omega);omega
theorem V9 (x y:Int) (hxl:(Aa b9 x.natAbs).length≤1000) (hyl:(Aa b9 y.natAbs).length≤1000):A4 Tryz.prog 181 [iV b9 .u32 x,iV b9 .u32 y] (iV b9 .u32 (x*y)):=by
 have ht:=A2a x.natAbs y.natAbs hxl hyl
 have hs:=fun neg=>Fm (l:=Wy b9 x.natAbs y.natAbs) neg (Ol Or _ _)
 have hm:=R0 x y
 rw [Yz Ck] at hs
 unfold iV iC lT at *
 generalize decide (x<0)=nx at *
 generalize decide (y<0)=ny at *
 have hs:=hs (nx != ny)
 rw [hm] at hs
 have e:(nx != ny)=(!nx==ny):=by cases nx<;>cases ny<;>rfl
 rw [e] at hs
 (refine A4.of_code mix Tryz.call181 k_181 (by simp) (fun hB=>?_);(try simp at hB);(try simp -implicitDefEqProofs))
 ((try simp at ht hs);(try simp -implicitDefEqProofs);repeat' first|(with_reducible apply A0<;>first|(simp only [eras,era,A1];first|with_reducible assumption)|(simp -implicitDefEqProofs)))
theorem A5e (x y:Int) (hxl:(Aa b9 x.natAbs).length≤1000) (hyl:(Aa b9 y.natAbs).length≤1000) (hsg:decide (x<0)=decide (y<0)):A4 Tryz.prog 180 [iV b9 .u32 x,iV b9 .u32 y] (iV b9 .u32 (x+y)):=by
 have ht:=A5d x.natAbs y.natAbs hxl hyl
 have hs:=Fm (l:=Hp b9 x.natAbs y.natAbs) (decide (x<0)) (Qr Or _ _)
 have hm:Cl (decide (x<0)) (x.natAbs+y.natAbs)=x+y:=by
  unfold Cl
  by_cases h1:x<0
  ·have h2:y<0:=by simpa [h1] using hsg
   simp [h1];omega
  ·have h2 : ¬y<0:=by simpa [h1] using hsg
   simp [h1];omega
 rw [Qs Ck,hm] at hs
 unfold iV iC lT at *
 rw [←hsg]
 generalize decide (x<0)=nx at *
 (refine A4.of_code mix Tryz.call180 k_180 (by simp) (fun hB=>?_);(try simp at hB);(try simp -implicitDefEqProofs))
 ((try simp at ht hs);(try simp -implicitDefEqProofs);repeat' first|(with_reducible apply A0<;>first|(simp only [eras,era,A1];first|with_reducible assumption)|(simp -implicitDefEqProofs)))
theorem R1 (x y:Int):Cl (decide (x<0) != decide (y<0)) (x.natAbs / y.natAbs)=x.tdiv y:=by
 have e:x.natAbs / y.natAbs=(x.tdiv y).natAbs:=(Int.natAbs_tdiv x y).symm
 rw [e]
 unfold Cl
 by_cases h1:x<0<;>by_cases h2:y<0<;>simp only [h1,h2,decide_true,decide_false,bne_self_eq_false,Bool.false_eq_true,if_false,if_true,Bool.bne_true,Bool.not_true,Bool.not_false,Bool.bne_false]
 ·have:0≤x.tdiv y:=by
   have:=Int.tdiv_nonneg (show 0≤-x by omega) (show 0≤-y by omega)
   rwa [Int.neg_tdiv,Int.tdiv_neg,Int.neg_neg] at this
  omega
 ·have:=Int.tdiv_nonneg (show 0≤-x by omega) (show 0≤y by omega)
  rw [Int.neg_tdiv] at this;omega
 ·have:=Int.tdiv_nonneg (show 0≤x by omega) (show 0≤-y by omega)
  rw [Int.tdiv_neg] at this;omega
 ·have:=Int.tdiv_nonneg (show 0≤x by omega) (show 0≤y by omega);omega
theorem R2 (x y:Int):Cl (decide (x<0)) (x.natAbs % y.natAbs)=x.tmod y:=by
 have e:x.natAbs % y.natAbs=(x.tmod y).natAbs:=(Int.natAbs_tmod x y).symm
 rw [e]
 unfold Cl
 by_cases h1:x<0
 ·have:x.tmod y≤0:=by
   have:=Int.tmod_nonneg y (show 0≤-x by omega)
   rw [Int.neg_tmod] at this;omega
  rw [if_pos (by simpa using h1)];omega
 ·have:=Int.tmod_nonneg y (show 0≤x by omega)
  rw [if_neg (by simpa using h1)];omega
theorem M6 (x y:Int) (hxl:(Aa b9 x.natAbs).length≤1000) (hy0:y≠0) (hyb:y.natAbs<b9):A4 Tryz.prog 144 [iV b9 .u32 x,iV b9 .u32 y] (.tup [iV b9 .u32 (x.tdiv y),iV b9 .u32 (x.tmod y),.t (.int .i64 0)]):=by
 have hy0':0<y.natAbs:=by omega
 have hd:=Qz x.natAbs y.natAbs hxl hy0' hyb
 have s1:=I8 y
 have s0:(sgn y==0)=false:=by unfold sgn;split<;>(try split)<;>simp<;>omega
 have hs1:=Fm (l:=Om b9 x.natAbs y.natAbs) (decide (x<0) != decide (y<0)) (Z2 Or _ _)
 have hs2:=Fm (l:=On b9 x.natAbs y.natAbs) (decide (x<0)) (Qu Ck hy0' hyb)
 rw [Z1 Ck,R1] at hs1
 rw [Qt Ck,R2] at hs2
 unfold iV iC lT at *
 generalize decide (x<0)=nx at *
 generalize decide (y<0)=ny at *
 have e:(nx != ny)=(!nx==ny):=by cases nx<;>cases ny<;>rfl
 rw [e] at hs1
 (refine A4.of_code mix Tryz.call144 k_144 (by simp) (fun hB=>?_);(try simp at hB);(try simp -implicitDefEqProofs))
 ((try simp at hd s1 hs1 hs2);(try simp -implicitDefEqProofs [s0]);repeat' first|(with_reducible apply A0<;>first|(simp only [eras,era,A1];first|with_reducible assumption)|(simp -implicitDefEqProofs [s0])))
theorem A2e (z:Int) (h1 : -9223372036854775808≤z) (h2:z≤9223372036854775807):A4 Tryz.prog 151 [iV b9 .u32 z] (.tup [vI z,vB true]):=by
 have o1:=Z6 (n:=-9223372036854775808) (by omega) (by omega)
 have o2:=Z6 (n:=9223372036854775807) (by omega) (by omega)
 have c1:=Z7 z (-9223372036854775808)
 have c2:=Z7 z 9223372036854775807
 have d1 : ¬Wz z (-9223372036854775808)<0:=by unfold Wz;rw [if_neg (by omega)];split<;>omega
 have d2 : ¬0<Wz z 9223372036854775807:=by unfold Wz;split;omega;rw [if_neg (by omega)];omega
 have hlx:=An Ck z.natAbs
 have hx:=Ap Ck z.natAbs
 have hxl:=Cu (B:=b9) (n:=z.natAbs) (k:=3) Ck (by unfold b9;omega)
 unfold iV iC lT at *
 (refine A4.of_code mix Tryz.call151 k_151 (by simp) (fun hB=>?_);(try simp at hB);(try simp -implicitDefEqProofs))
 ((try simp at o1 o2 c1 c2);(try simp -implicitDefEqProofs [d1,d2]);repeat' first|(with_reducible apply A0<;>first|(simp only [eras,era,A1];first|with_reducible assumption)|(simp -implicitDefEqProofs [d1,d2])))
 obtain⟨nz,hnz⟩ : ∃b,b=decide (z<0):=⟨_,rfl⟩
 rw [←hnz]
 generalize Aa b9 z.natAbs=a at *
 refine A9 (X:=Nat) (fun k=>k≤a.length) (fun k=>[(1,.ptr 0 0),(4,.t (.int .u64 (lvl b9 (a.drop k)))),(5,vI ((k:Int)-1))]) (fun _=>⟨[.cells [.t (.bool nz),.t (.sl (lE .u32 a))]],[]⟩) (fun k=>k) a.length (Nat.le_refl _) ?hs ?_
 case hs=>
  have e3:IntKind.i64.wrap ((a.length:Int)-1)=(a.length:Int)-1:=wrap64 (by omega) (by omega)
  simp [e3,lvl]
 rintro k hk hbd
 clear hbd
 rcases Nat.eq_zero_or_pos k with k0|k0
 ·subst k0
  rw [List.drop_zero,hlx]
  cases nz
  ·have hz : ¬z<0:=by simpa using hnz.symm
   have e1:IntKind.i64.wrap ((z.natAbs:Nat):Int)=z:=by rw [wrap64 (by omega) (by omega)];omega
   (try simp -implicitDefEqProofs [e1])
  ·have hz:z<0:=by simpa using hnz.symm
   have e1:IntKind.i64.wrap (IntKind.u64.wrap (-((z.natAbs:Nat):Int)))=z:=by
    rw [show -((z.natAbs:Nat):Int)=z by omega,IntKind.wrap_u64,IntKind.wrap_i64];omega
   (try simp -implicitDefEqProofs [e1])
 ·obtain⟨i,rfl⟩ : ∃i,k=i+1:=⟨k-1,by omega⟩
  obtain⟨u,hu⟩:=Ad (show i<a.length by omega)
  have hdn:=D9 (B:=b9) hu
  have hsp:=Ek b9 a (k:=i) (by omega)
  have hpw:=Nat.pow_pos (n:=i) Or
  have hle:lvl b9 (a.drop i)≤z.natAbs:=by
   rw [hlx] at hsp
   have:=Nat.le_mul_of_pos_left (lvl b9 (a.drop i)) hpw
   omega
  obtain⟨A,hA⟩ : ∃A,A=lvl b9 (a.drop (i+1)):=⟨_,rfl⟩
  obtain⟨A',hA'⟩ : ∃A',A'=lvl b9 (a.drop i):=⟨_,rfl⟩
  rw [←hA,←hA'] at hdn
  rw [←hA'] at hle
  have g1:=Bm (k:=.u32) hu
  have g2:=B8 (k:=.u32) hu
  have v1:IntKind.u64.wrap ((A:Int)*1000000000)=(A:Int)*1000000000:=Fo (x:=A*1000000000) (by unfold b9 at hdn;omega)
  have v2:IntKind.u64.wrap (u:Int)=(u:Int):=Fo (by omega)
  have v3:IntKind.u64.wrap ((A:Int)*1000000000+(u:Int))=(A':Int):=by
   have e:=Fo (x:=A*1000000000+u) (by unfold b9 at hdn;omega)
   rw [Int.natCast_add,Int.natCast_mul] at e
   refine Eq.trans e ?_
   unfold b9 at hdn;omega
  have e3:IntKind.i64.wrap ((i:Int)-1)=(i:Int)-1:=wrap64 (by omega) (by omega)
  have i4:i<a.length:=by omega
  rw [←hA]
  (try simp -implicitDefEqProofs [g1,g2,v1,v2,v3,e3,i4])
  exact⟨i,by omega,by omega,by rw [←hA'],rfl⟩
end Go.Proofs.YtmlpmdccfmmpoaaGreatDoor
