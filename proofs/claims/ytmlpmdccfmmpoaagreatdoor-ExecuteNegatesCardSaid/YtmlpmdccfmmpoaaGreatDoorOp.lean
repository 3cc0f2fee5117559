/- Walks of chapter 34: amounts, products, operations. -/
import Derived.Test.YtmlpmdccfmmpoaaGreatDoorIn4
import Derived.Test.YtmlpmdccfmmpoaaGreatDoorCodeB
import Derived.Test.YtmlpmdccfmmpoaaGreatDoorApi
set_option linter.unusedSimpArgs false
set_option linter.unusedVariables false
set_option maxHeartbeats 2000000
set_option maxRecDepth 8000
namespace Go.Proofs.YtmlpmdccfmmpoaaGreatDoor
open E
theorem A2i (x d:Nat) (hxl:(A9 b9 x).length≤1000) (hd0:0<d) (hdb:d<b9):A8 Tryz.prog 209 [.t (lT .u32 (A9 b9 x)),.t (.int .u32 d)] (.tup [.t (lT .u32 (U2 b9 x d)),.t (lT .u32 [x % d])]):=by
 have hx:=Ar C8 x
 have hlx:=An C8 x
 have hfin : ∀o:List Nat,Lim b9 o→o.length=(A9 b9 x).length→lvl b9 o=x / d→U2 b9 x d=o:=fun o h1 h2 h3=>(P0 P3 h1 h2 h3).symm
 unfold lT
 generalize U2 b9 x d=R at *
 generalize A9 b9 x=a at *
 have n1:a.length≤maxLen:=by unfold maxLen;omega
 have n2:(a.length:Int)*4≤140737488355328:=by omega
 have hdb':=hdb
 unfold b9 at hdb'
 have v8:IntKind.u64.wrap (d:Int)=(d:Int):=Fq (by omega)
 have dne:(d:Int)≠0:=by omega
 have dn : ¬d=0:=by omega
 (refine A8.of_code mix Tryz.call209 k_209 (by simp) (fun hB=>?_);(try simp at hB);(try simp -implicitDefEqProofs))
 (try simp -implicitDefEqProofs [n1,n2])
 refine A7 (X:=Nat×List Nat×Nat) (fun X=>X.1≤a.length∧X.2.1.length=a.length∧Lim b9 X.2.1∧lvl b9 (X.2.1.drop X.1)=lvl b9 (a.drop X.1) / d∧X.2.2=lvl b9 (a.drop X.1) % d)
  (fun X=>[(0,.t (.sl (lE .u32 a))),(1,.t (.int .u32 d)),(6,.bw 0 a.length),(7,.t (.int .u64 X.2.2)),(8,vI ((X.1:Int)-1))]) (fun X=>⟨[.buf 215 1 (bE .u32 X.2.1)],[]⟩) (fun X=>X.1) (a.length,List.replicate a.length 0,0) ?h0 ?hs ?_
 case h0=>exact⟨Nat.le_refl _,by simp,Lim.zeros P3 _,by rw [List.drop_of_length_le (by simp),List.drop_of_length_le (Nat.le_refl _)];simp [lvl],by rw [List.drop_of_length_le (Nat.le_refl _)];simp [lvl]⟩
 case hs=>
  have e3:IntKind.i64.wrap ((a.length:Int)-1)=(a.length:Int)-1:=wrap64 (by omega) (by omega)
  simp [B9,bE,List.map_replicate,e3]
  first|done|exact U5 fun v hv=>⟨_,(List.mem_replicate.1 hv).2⟩
 rintro ⟨k,o,r⟩ ⟨hk,ho,hL,hv,hr⟩ hbd
 simp only [] at hk ho hL hv hr
 clear hbd
 rcases Nat.eq_zero_or_pos k with k0|k0
 ·subst k0
  rw [List.drop_zero,List.drop_zero,hlx] at hv
  rw [List.drop_zero,hlx] at hr
  rw [hfin o hL ho hv,←hr]
  have hrow:=D6 .u32 o
  rw [ho] at hrow
  have hbt:(bE .u32 o).take a.length=bE .u32 o:=List.take_of_length_le (by simp;omega)
  have hrb:r<d:=by rw [hr];exact Nat.mod_lt _ hd0
  have v9:IntKind.u32.wrap (r:Int)=(r:Int):=G1 (by omega)
  (try simp -implicitDefEqProofs [hbt,hrow,Bs,v9,Ma])
 ·obtain⟨i,rfl⟩ : ∃i,k=i+1:=⟨k-1,by omega⟩
  obtain⟨u,hu⟩:=Aa (show i<a.length by omega)
  have hub:=hx.at hu
  have hrb:r<d:=by rw [hr];exact Nat.mod_lt _ hd0
  have hA:=(Nat.div_add_mod (lvl b9 (a.drop (i+1))) d).symm
  have st:=M9 (B:=b9) (x:=u) hd0 hrb (A:=lvl b9 (a.drop (i+1))) (Q:=lvl b9 (a.drop (i+1)) / d) (by rw [hr];exact hA)
  have hdl:=U1 hd0 hrb hub
  have hdn:=Dj (B:=b9) hu
  rw [←hdn] at st
  obtain⟨N,hN⟩ : ∃N,N=r*b9+u:=⟨_,rfl⟩
  rw [←hN] at st hdl
  obtain⟨q,hq⟩ : ∃q,q=N / d:=⟨_,rfl⟩
  obtain⟨r',hr'⟩ : ∃r',r'=N % d:=⟨_,rfl⟩
  rw [←hq] at hdl
  rw [←hq,←hr',←hv] at st
  have hNb:N<18446744073709551616:=by rw [hN];unfold b9 at hub ⊢;omega
  have g1:=C7 (k:=.u32) hu
  have g2:=Bo (k:=.u32) hu
  have v1:IntKind.u64.wrap ((r:Int)*1000000000)=((r*b9:Nat):Int):=Fq (x:=r*b9) (by unfold b9;omega)
  have v2:IntKind.u64.wrap (u:Int)=(u:Int):=Fq (by unfold b9 at hub;omega)
  have v3:IntKind.u64.wrap ((r:Int)*(b9:Int)+(u:Int))=(N:Int):=by rw [hN];exact Fq (x:=r*b9+u) (by omega)
  have q1:(N:Int).tdiv (d:Int)=(q:Int):=by rw [hq];rfl
  have q2:IntKind.u64.wrap (q:Int)=(q:Int):=Fq (by unfold b9 at hdl;omega)
  have q3:IntKind.u32.wrap (q:Int)=(q:Int):=G1 (by unfold b9 at hdl;omega)
  have r1:(N:Int).tmod (d:Int)=(r':Int):=by rw [hr'];rfl
  have hrb':r'<d:=by rw [hr'];exact Nat.mod_lt _ hd0
  have r2:IntKind.u64.wrap (r':Int)=(r':Int):=Fq (by omega)
  have e3:IntKind.i64.wrap ((i:Int)-1)=(i:Int)-1:=wrap64 (by omega) (by omega)
  have hp:=De (k:=.u32) q (show i<o.length by omega)
  have i4:i<a.length:=by omega
  have i5:i+1≤a.length:=by omega
  (try simp -implicitDefEqProofs [g1,g2,v1,v2,v3,v8,dne,dn,q1,q2,q3,r1,r2,e3,hp,i4,i5,ho])
  refine⟨i,o.set i q,r',⟨by omega,by simp [ho],hL.set hdl _,?_,st.2.symm⟩,by omega,?_⟩
  ·rw [Cr (by omega),lvl,st.1]
  ·simp [B9]
theorem A2j {x d:Nat} (h : ¬x<d):P1 b9 x d=U2 b9 x d:=by unfold P1;rw [if_neg h]
theorem A2k {x d:Nat} (h : ¬x<d):P2 b9 x d=[x % d]:=by unfold P2;rw [if_neg h]
theorem Ra (x d:Nat) (hxl:(A9 b9 x).length≤1000) (hd0:0<d) (hdb:d<b9):A8 Tryz.prog 174 [.t (lT .u32 (A9 b9 x)),.t (lT .u32 (A9 b9 d))] (.tup [.t (lT .u32 (P1 b9 x d)),.t (lT .u32 (P2 b9 x d))]):=by
 have hc:=U4 x d
 have hs:=A2i x d hxl hd0 hdb
 have h1:=I6 (B:=b9) hd0 hdb
 by_cases h:x<d
 ·have e1:Cq x d = -1:=by unfold Cq;rw [if_pos h]
  rw [e1] at hc
  unfold P1 P2
  rw [if_pos h,if_pos h]
  unfold lT at *
  (refine A8.of_code mix Tryz.call174 k_174 (by simp) (fun hB=>?_);(try simp at hB);(try simp -implicitDefEqProofs))
  ((try simp at hc);(try simp -implicitDefEqProofs [D4]);repeat' first|(with_reducible apply A0<;>first|(simp only [eras,era,A1];first|with_reducible assumption)|(simp -implicitDefEqProofs [D4])))
 ·have e1 : ¬Cq x d<0:=by unfold Cq;rw [if_neg h];split<;>omega
  rw [A2j h,A2k h]
  unfold lT at *
  rw [h1,Ma] at hc ⊢
  simp only [Ma] at hs ⊢
  (refine A8.of_code mix Tryz.call174 k_174 (by simp) (fun hB=>?_);(try simp at hB);(try simp -implicitDefEqProofs))
  ((try simp at hc hs);(try simp -implicitDefEqProofs [e1,Ma]);repeat' first|(with_reducible apply A0<;>first|(simp only [eras,era,A1];first|with_reducible assumption)|(simp -implicitDefEqProofs [e1,Ma])))
theorem A7g (x y:Int) (hxl:(A9 b9 x.natAbs).length≤1000) (hy:y.natAbs<b9):A8 Tryz.prog 142 [iV b9 .u32 x,iV b9 .u32 y] (iV b9 .u32 (Nat.gcd x.natAbs y.natAbs:Nat)):=by
 have hsg : ∀n:Nat,A8 Tryz.prog 176 [vB false,.t (.sl (lE .u32 (A9 b9 n)))] (.agg [.t (.bool false),.t (.sl (lE .u32 (A9 b9 n)))]):=fun n=>by
  have:=Fp false (Ar C8 n)
  rw [An C8] at this
  have e:Fo false n=(n:Int):=rfl
  rw [e] at this
  unfold iV iC lT at this
  have e2:decide ((n:Int)<0)=false:=by simp
  simp only [e2,Int.natAbs_natCast,List.map_cons,List.map_nil] at this
  exact this
 have e0:decide (((Nat.gcd x.natAbs y.natAbs:Nat):Int)<0)=false:=by simp
 unfold iV iC lT
 rw [e0,Int.natAbs_natCast]
 (refine A8.of_code mix Tryz.call142 k_142 (by simp) (fun hB=>?_);(try simp at hB);(try simp -implicitDefEqProofs))
 refine A7 (X:=Nat×Nat) (fun X=>Nat.gcd X.1 X.2=Nat.gcd x.natAbs y.natAbs∧X.2<b9∧(A9 b9 X.1).length≤1000) (fun X=>[(4,.ptr 2 0),(5,.t (.sl (lE .u32 (A9 b9 X.1)))),(6,.t (.sl (lE .u32 (A9 b9 X.2))))]) (fun X=>⟨[.cells [.t (.bool (decide (x<0))),.t (.sl (lE .u32 (A9 b9 x.natAbs)))],.cells [.t (.bool (decide (y<0))),.t (.sl (lE .u32 (A9 b9 y.natAbs)))],.cells [.t (.bool false),.snil]],[]⟩) (fun X=>X.2) (x.natAbs,y.natAbs) ⟨rfl,hy,hxl⟩ ?hs ?_
 case hs=>simp
 rintro ⟨a,b⟩ ⟨hg,hb,hal⟩ hbd
 simp only [] at hg hb hal
 clear hbd
 rcases Nat.eq_zero_or_pos b with b0|b0
 ·subst b0
  rw [Nat.gcd_zero_right] at hg
  have hs:=hsg a
  rw [←hg]
  ((try simp at hs);(try simp -implicitDefEqProofs [B1,D4]);repeat' first|(with_reducible apply A0<;>first|(simp only [eras,era,A1];first|with_reducible assumption)|(simp -implicitDefEqProofs [B1,D4])))
 ·have hdv:=Ra a b hal b0 hb
  have htr:=Zm (R3 (B:=b9) (a:=a) C8 b0 hb)
  rw [R2 C8] at htr
  unfold lT at hdv htr
  have hlt:=Nat.mod_lt a b0
  have hlp:0<(A9 b9 b).length:=D5 C8 (by omega)
  ((try simp at hdv htr);(try simp -implicitDefEqProofs [hlp]);repeat' first|(with_reducible apply A0<;>first|(simp only [eras,era,A1];first|with_reducible assumption)|(simp -implicitDefEqProofs [hlp])))
  refine⟨b,a % b,⟨?_,by omega,?_⟩,hlt,rfl,rfl⟩
  ·rw [←hg,Nat.gcd_comm b,←Nat.gcd_rec,Nat.gcd_comm]
  ·rw [I6 b0 hb];simp
theorem Zs (x y:Int):Fo (decide (x<0) != decide (y<0)) (x.natAbs*y.natAbs)=x*y:=by
 rw [←Int.natAbs_mul]
 unfold Fo
 by_cases h1:x<0<;>by_cases h2:y<0<;>simp only [h1,h2,decide_true,decide_false,bne_self_eq_false,Bool.false_eq_true,if_false,if_true,Bool.bne_true,Bool.not_true,Bool.not_false,Bool.bne_false]
 ·have:=Int.mul_nonneg_of_nonpos_of_nonpos (show x≤0 by omega) (show y≤0 by omega);omega
 ·have:=Int.mul_nonpos_of_nonpos_of_nonneg (show x≤0 by omega) (show 0≤y by omega);omega
 ·have:=Int.mul_nonpos_of_nonneg_of_nonpos (show 0≤x by omega) (show y≤0 by omega);omega
 ·have:=Int.mul_nonneg (show 0≤x by omega) (show 0≤y by omega);omega
theorem Vj (x y:Int) (hxl:(A9 b9 x.natAbs).length≤1000) (hyl:(A9 b9 y.natAbs).length≤1000):A8 Tryz.prog 181 [iV b9 .u32 x,iV b9 .u32 y] (iV b9 .u32 (x*y)):=by
 have ht:=A2h x.natAbs y.natAbs hxl hyl
 have hs:=fun neg=>Fp (l:=X4 b9 x.natAbs y.natAbs) neg (Oz P3 _ _)
 have hm:=Zs x y
 rw [Zf C8] at hs
 unfold iV iC lT at *
 generalize decide (x<0)=nx at *
 generalize decide (y<0)=ny at *
 have hs:=hs (nx != ny)
 rw [hm] at hs
 have e:(nx != ny)=(!nx==ny):=by cases nx<;>cases ny<;>rfl
 rw [e] at hs
 (refine A8.of_code mix Tryz.call181 k_181 (by simp) (fun hB=>?_);(try simp at hB);(try simp -implicitDefEqProofs))
 ((try simp at ht hs);(try simp -implicitDefEqProofs);repeat' first|(with_reducible apply A0<;>first|(simp only [eras,era,A1];first|with_reducible assumption)|(simp -implicitDefEqProofs)))
theorem A5g (x y:Int) (hxl:(A9 b9 x.natAbs).length≤1000) (hyl:(A9 b9 y.natAbs).length≤1000) (hsg:decide (x<0)=decide (y<0)):A8 Tryz.prog 180 [iV b9 .u32 x,iV b9 .u32 y] (iV b9 .u32 (x+y)):=by
 have ht:=A5f x.natAbs y.natAbs hxl hyl
 have hs:=Fp (l:=Na b9 x.natAbs y.natAbs) (decide (x<0)) (Zd P3 _ _)
 have hm:Fo (decide (x<0)) (x.natAbs+y.natAbs)=x+y:=by
  unfold Fo
  by_cases h1:x<0
  ·have h2:y<0:=by simpa [h1] using hsg
   simp [h1];omega
  ·have h2 : ¬y<0:=by simpa [h1] using hsg
   simp [h1];omega
 rw [Ze C8,hm] at hs
 unfold iV iC lT at *
 rw [←hsg]
 generalize decide (x<0)=nx at *
 (refine A8.of_code mix Tryz.call180 k_180 (by simp) (fun hB=>?_);(try simp at hB);(try simp -implicitDefEqProofs))
 ((try simp at ht hs);(try simp -implicitDefEqProofs);repeat' first|(with_reducible apply A0<;>first|(simp only [eras,era,A1];first|with_reducible assumption)|(simp -implicitDefEqProofs)))
theorem Rb (x y:Int):Fo (decide (x<0) != decide (y<0)) (x.natAbs / y.natAbs)=x.tdiv y:=by
 have e:x.natAbs / y.natAbs=(x.tdiv y).natAbs:=(Int.natAbs_tdiv x y).symm
 rw [e]
 unfold Fo
 by_cases h1:x<0<;>by_cases h2:y<0<;>simp only [h1,h2,decide_true,decide_false,bne_self_eq_false,Bool.false_eq_true,if_false,if_true,Bool.bne_true,Bool.not_true,Bool.not_false,Bool.bne_false]
 ·have:0≤x.tdiv y:=by
   have:=Int.tdiv_nonneg (show 0≤-x by omega) (show 0≤-y by omega)
   rwa [Int.neg_tdiv,Int.tdiv_neg,Int.neg_neg] at this
  omega
 ·have:=Int.tdiv_nonneg (show 0≤-x by omega) (show 0≤y by omega)
  rw [Int.neg_tdiv] at this;omega
 ·have:=Int.tdiv_nonneg (show 0≤x by omega) (show 0≤-y by omega)
  rw [Int.tdiv_neg] at this;omega
 ·have:=Int.tdiv_nonneg (show 0≤x by omega) (show 0≤y by omega);omega
theorem Rc (x y:Int):Fo (decide (x<0)) (x.natAbs % y.natAbs)=x.tmod y:=by
 have e:x.natAbs % y.natAbs=(x.tmod y).natAbs:=(Int.natAbs_tmod x y).symm
 rw [e]
 unfold Fo
 by_cases h1:x<0
 ·have:x.tmod y≤0:=by
   have:=Int.tmod_nonneg y (show 0≤-x by omega)
   rw [Int.neg_tmod] at this;omega
  rw [if_pos (by simpa using h1)];omega
 ·have:=Int.tmod_nonneg y (show 0≤x by omega)
  rw [if_neg (by simpa using h1)];omega
theorem Mb (x y:Int) (hxl:(A9 b9 x.natAbs).length≤1000) (hy0:y≠0) (hyb:y.natAbs<b9):A8 Tryz.prog 144 [iV b9 .u32 x,iV b9 .u32 y] (.tup [iV b9 .u32 (x.tdiv y),iV b9 .u32 (x.tmod y),.t (.int .i64 0)]):=by
 have hy0':0<y.natAbs:=by omega
 have hd:=Ra x.natAbs y.natAbs hxl hy0' hyb
 have s1:=I7 y
 have s0:(sgn y==0)=false:=by unfold sgn;split<;>(try split)<;>simp<;>omega
 have hs1:=Fp (l:=P1 b9 x.natAbs y.natAbs) (decide (x<0) != decide (y<0)) (Zi P3 _ _)
 have hs2:=Fp (l:=P2 b9 x.natAbs y.natAbs) (decide (x<0)) (R3 C8 hy0' hyb)
 rw [Zh C8,Rb] at hs1
 rw [R2 C8,Rc] at hs2
 unfold iV iC lT at *
 generalize decide (x<0)=nx at *
 generalize decide (y<0)=ny at *
 have e:(nx != ny)=(!nx==ny):=by cases nx<;>cases ny<;>rfl
 rw [e] at hs1
 (refine A8.of_code mix Tryz.call144 k_144 (by simp) (fun hB=>?_);(try simp at hB);(try simp -implicitDefEqProofs))
 ((try simp at hd s1 hs1 hs2);(try simp -implicitDefEqProofs [s0]);repeat' first|(with_reducible apply A0<;>first|(simp only [eras,era,A1];first|with_reducible assumption)|(simp -implicitDefEqProofs [s0])))
theorem A2l (z:Int) (h1 : -9223372036854775808≤z) (h2:z≤9223372036854775807):A8 Tryz.prog 151 [iV b9 .u32 z] (.tup [vI z,vB true]):=by
 have o1:=Zn (n:=-9223372036854775808) (by omega) (by omega)
 have o2:=Zn (n:=9223372036854775807) (by omega) (by omega)
 have c1:=Zo z (-9223372036854775808)
 have c2:=Zo z 9223372036854775807
 have d1 : ¬X6 z (-9223372036854775808)<0:=by unfold X6;rw [if_neg (by omega)];split<;>omega
 have d2 : ¬0<X6 z 9223372036854775807:=by unfold X6;split;omega;rw [if_neg (by omega)];omega
 have hlx:=An C8 z.natAbs
 have hx:=Ar C8 z.natAbs
 have hxl:=D3 (B:=b9) (n:=z.natAbs) (k:=3) C8 (by unfold b9;omega)
 unfold iV iC lT at *
 (refine A8.of_code mix Tryz.call151 k_151 (by simp) (fun hB=>?_);(try simp at hB);(try simp -implicitDefEqProofs))
 ((try simp at o1 o2 c1 c2);(try simp -implicitDefEqProofs [d1,d2]);repeat' first|(with_reducible apply A0<;>first|(simp only [eras,era,A1];first|with_reducible assumption)|(simp -implicitDefEqProofs [d1,d2])))
 obtain⟨nz,hnz⟩ : ∃b,b=decide (z<0):=⟨_,rfl⟩
 rw [←hnz]
 generalize A9 b9 z.natAbs=a at *
 refine A7 (X:=Nat) (fun k=>k≤a.length) (fun k=>[(1,.ptr 0 0),(4,.t (.int .u64 (lvl b9 (a.drop k)))),(5,vI ((k:Int)-1))]) (fun _=>⟨[.cells [.t (.bool nz),.t (.sl (lE .u32 a))]],[]⟩) (fun k=>k) a.length (Nat.le_refl _) ?hs ?_
 case hs=>
  have e3:IntKind.i64.wrap ((a.length:Int)-1)=(a.length:Int)-1:=wrap64 (by omega) (by omega)
  simp [e3,lvl]
 rintro k hk hbd
 clear hbd
 rcases Nat.eq_zero_or_pos k with k0|k0
 ·subst k0
  rw [List.drop_zero,hlx]
  cases nz
  ·have hz : ¬z<0:=by simpa using hnz.symm
   have e1:IntKind.i64.wrap ((z.natAbs:Nat):Int)=z:=by rw [wrap64 (by omega) (by omega)];omega
   (try simp -implicitDefEqProofs [e1])
  ·have hz:z<0:=by simpa using hnz.symm
   have e1:IntKind.i64.wrap (IntKind.u64.wrap (-((z.natAbs:Nat):Int)))=z:=by
    rw [show -((z.natAbs:Nat):Int)=z by omega,IntKind.wrap_u64,IntKind.wrap_i64];omega
   (try simp -implicitDefEqProofs [e1])
 ·obtain⟨i,rfl⟩ : ∃i,k=i+1:=⟨k-1,by omega⟩
  obtain⟨u,hu⟩:=Aa (show i<a.length by omega)
  have hdn:=Dj (B:=b9) hu
  have hsp:=Fm b9 a (k:=i) (by omega)
  have hpw:=Nat.pow_pos (n:=i) P3
  have hle:lvl b9 (a.drop i)≤z.natAbs:=by
   rw [hlx] at hsp
   have:=Nat.le_mul_of_pos_left (lvl b9 (a.drop i)) hpw
   omega
  obtain⟨A,hA⟩ : ∃A,A=lvl b9 (a.drop (i+1)):=⟨_,rfl⟩
  obtain⟨A',hA'⟩ : ∃A',A'=lvl b9 (a.drop i):=⟨_,rfl⟩
  rw [←hA,←hA'] at hdn
  rw [←hA'] at hle
  have g1:=C7 (k:=.u32) hu
  have g2:=Bo (k:=.u32) hu
  have v1:IntKind.u64.wrap ((A:Int)*1000000000)=(A:Int)*1000000000:=Fq (x:=A*1000000000) (by unfold b9 at hdn;omega)
  have v2:IntKind.u64.wrap (u:Int)=(u:Int):=Fq (by omega)
  have v3:IntKind.u64.wrap ((A:Int)*1000000000+(u:Int))=(A':Int):=by
   have e:=Fq (x:=A*1000000000+u) (by unfold b9 at hdn;omega)
   rw [Int.natCast_add,Int.natCast_mul] at e
   refine Eq.trans e ?_
   unfold b9 at hdn;omega
  have e3:IntKind.i64.wrap ((i:Int)-1)=(i:Int)-1:=wrap64 (by omega) (by omega)
  have i4:i<a.length:=by omega
  rw [←hA]
  (try simp -implicitDefEqProofs [g1,g2,v1,v2,v3,e3,i4])
  exact⟨i,by omega,by omega,by rw [←hA'],rfl⟩
end Go.Proofs.YtmlpmdccfmmpoaaGreatDoor
section
section
set_option linter.unusedSimpArgs false
set_option linter.unusedVariables false
set_option maxHeartbeats 1000000
set_option maxRecDepth 8000
namespace Go.Proofs.YtmlpmdccfmmpoaaGreatDoor
open E

def Ah (n:Int):Bool:=decide (-1000000000000≤n)&&decide (n≤1000000000000)
def tru (b:Bool):Int:=if b then 1 else 0
def Db (n:Int):Int×Bool:=if Ah n=true then (n,true) else (0,false)
def Mc (x:Int):Int:=max x (IntKind.i64.wrap (-x))
def qW (x:Int):Int:=IntKind.i64.wrap (Int.tdiv 1000000000000 (Mc x))
def Zt (x y:Int):Int×Bool:=if x=0 then (0,true) else if y=0 then (0,true) else if qW x<Mc y then (0,false) else (IntKind.i64.wrap (x*y),true)
def A2m (x y:Int):Int×Bool:=if x=0 then Db (IntKind.i64.wrap (x*y)) else if qW x<Mc y then (0,false) else Db (IntKind.i64.wrap (x*y))
def A5h (x a:Int):Int:=IntKind.i64.wrap ((IntKind.i64.wrap (IntKind.i64.wrap (2*Mc x)+a)).tdiv (IntKind.i64.wrap (2*a)))
def opG (mul:Int→Int→Int×Bool) (op a x y:Int):Int×Bool:=
 if Ah x=true then if Ah y=true then
  if op=5 then Db (IntKind.i64.wrap (-x)) else if op=6 then Db (Mc x) else if op=8 then Db (tru (x==0))
  else if op=9 then if a<1 then (0,false) else if Ah a=true then Db (if x<0 then IntKind.i64.wrap (-(A5h x a)) else A5h x a) else (0,false)
  else if op=10 then Db (IntKind.i64.wrap (x+y)) else if op=11 then Db (IntKind.i64.wrap (x-y)) else if op=12 then mul x y
  else if op=13 then Db (min x y) else if op=14 then Db (max x y)
  else if op=15 then Db (tru (x != 0&&y != 0)) else if op=16 then Db (tru (x != 0||y != 0))
  else if op=17 then Db (tru (decide (x<y))) else if op=18 then Db (tru (decide (x≤y))) else if op=19 then Db (tru (x==y))
  else if op=20 then Db (tru (x != y)) else if op=21 then Db (tru (decide (y≤x))) else if op=22 then Db (tru (decide (y<x)))
  else (0,false)
 else (0,false) else (0,false)
abbrev opC:=opG Zt
abbrev opR:=opG A2m
def vO (r:Int×Bool):V:=.tup [vI r.1,vB r.2]

theorem Gd (n:Int):A8 Tryz.prog 104 [vI n] (vB (Ah n)):=by
 unfold Ah
 (refine A8.of_code mix Tryz.call104 k_104 (by simp) (fun hB=>?_);(try simp at hB);(try simp -implicitDefEqProofs))
 ((try simp -implicitDefEqProofs);repeat' first|((with_reducible first|apply Ac|apply Ad|apply A5)<;>(intro hc;have hc':=hc;(try simp at hc');simp -implicitDefEqProofs [hc,hc'])))
theorem A3w (b:Bool):A8 Tryz.prog 105 [vB b] (vI (tru b)):=by
 cases b<;>unfold tru
 ·(refine A8.of_code mix Tryz.call105 k_105 (by simp) (fun hB=>?_);(try simp at hB);(try simp -implicitDefEqProofs))
  (try simp -implicitDefEqProofs)
 ·(refine A8.of_code mix Tryz.call105 k_105 (by simp) (fun hB=>?_);(try simp at hB);(try simp -implicitDefEqProofs))
  (try simp -implicitDefEqProofs)
theorem U6 {x:Int} (h:Ah x=true) : -1000000000000≤x∧x≤1000000000000:=by simpa [Ah] using h
theorem La {x:Int} (h:Ah x=true):Mc x=max x (-x):=by
 have:=U6 h
 unfold Mc
 rw [wrap64 (by omega) (by omega)]

theorem Zu (x y:Int) (hx:Ah x=true):A8 Tryz.prog 106 [vI x,vI y] (vO (Zt x y)):=by
 have h0:x≠0→¬Mc x=0:=by rw [La hx];omega
 unfold Zt qW
 unfold Mc at *
 (refine A8.of_code mix Tryz.call106 k_106 (by simp) (fun hB=>?_);(try simp at hB);(try simp -implicitDefEqProofs))
 ((try simp -implicitDefEqProofs [vO]);repeat' first|((with_reducible first|apply Ac|apply Ad|apply A5)<;>(intro hc;have hc':=hc;(try simp at hc');simp -implicitDefEqProofs [hc,hc',vO])))
 all_goals (refine⟨h0 (by assumption),?_⟩;((try simp -implicitDefEqProofs [vO]);repeat' first|((with_reducible first|apply Ac|apply Ad|apply A5)<;>(intro hc;have hc':=hc;(try simp at hc');simp -implicitDefEqProofs [hc,hc',vO]))))
 all_goals grind

theorem X7 (op a x y:Int):A8 Tryz.prog 52 [vI op,vI a,vI x,vI y] (vO (opC op a x y)):=by
 unfold opC opG Db
 cases hx:Ah x
 ·(refine A8.of_code mix Tryz.call52 k_52 (by simp) (fun hB=>?_);(try simp at hB);(try simp -implicitDefEqProofs [vO]))
  ((try simp -implicitDefEqProofs [vO,hx]);repeat' first|(with_reducible apply A0<;>first|(simp only [eras,era,A1];first|with_reducible exact (Gd _)|simpa using (Gd _))|(simp -implicitDefEqProofs [vO,hx])))
 cases hy:Ah y
 ·(refine A8.of_code mix Tryz.call52 k_52 (by simp) (fun hB=>?_);(try simp at hB);(try simp -implicitDefEqProofs [vO]))
  ((try simp -implicitDefEqProofs [vO,hx,hy]);repeat' first|(with_reducible apply A0<;>first|(simp only [eras,era,A1];first|with_reducible exact (Gd _)|simpa using (Gd _))|(simp -implicitDefEqProofs [vO,hx,hy])))
 unfold A5h Mc
 (refine A8.of_code mix Tryz.call52 k_52 (by simp) (fun hB=>?_);(try simp at hB);(try simp -implicitDefEqProofs [vO]))
 ((try simp -implicitDefEqProofs [vO,hx,hy]);repeat' first|((with_reducible first|apply Ac|apply Ad|apply A5)<;>(intro hc;have hc':=hc;(try simp at hc');simp -implicitDefEqProofs [hc,hc',vO,hx,hy]))|(with_reducible apply A0<;>first|(simp only [eras,era,A1];first|with_reducible exact (Gd _)|with_reducible exact (A3w _)|with_reducible exact (Zu _ _ hx)|simpa using (Gd _)|simpa using (A3w _)|simpa using (Zu _ _ hx))|(simp -implicitDefEqProofs [vO,hx,hy])))
 all_goals
  have g1 : ¬a<1:=by omega
  have g2:Ah a=true:=by assumption
  refine⟨by have:=U6 g2;rw [wrap64 (by omega) (by omega)];omega,?_⟩
  rcases Int.lt_or_le x 0 with g3|g3
  ·((try simp -implicitDefEqProofs [vO,hx,hy,g1,g2,g3]);repeat' first|((with_reducible first|apply Ac|apply Ad|apply A5)<;>(intro hc;have hc':=hc;(try simp at hc');simp -implicitDefEqProofs [hc,hc',vO,hx,hy,g1,g2,g3]))|(with_reducible apply A0<;>first|(simp only [eras,era,A1];first|with_reducible exact (Gd _)|simpa using (Gd _))|(simp -implicitDefEqProofs [vO,hx,hy,g1,g2,g3])))
  ·have g4 : ¬x<0:=by omega
   ((try simp -implicitDefEqProofs [vO,hx,hy,g1,g2,g4]);repeat' first|((with_reducible first|apply Ac|apply Ad|apply A5)<;>(intro hc;have hc':=hc;(try simp at hc');simp -implicitDefEqProofs [hc,hc',vO,hx,hy,g1,g2,g4]))|(with_reducible apply A0<;>first|(simp only [eras,era,A1];first|with_reducible exact (Gd _)|simpa using (Gd _))|(simp -implicitDefEqProofs [vO,hx,hy,g1,g2,g4])))

end Go.Proofs.YtmlpmdccfmmpoaaGreatDoor
end

/- Chapter 34: the table of operations. -/
section
set_option linter.unusedSimpArgs false
set_option linter.unusedVariables false
set_option maxHeartbeats 2000000
set_option maxRecDepth 20000
namespace Go.Proofs.YtmlpmdccfmmpoaaGreatDoor
open E

def Zv:List (List UInt8×Int×Int×Int):=[
 ([],0,0,0),
 ([112,117,115,104],0,1,1),
 ([108,111,97,100],0,1,1),
 ([98,97,108,97,110,99,101],0,1,2),
 ([112,97,114,116,110,101,114],0,1,2),
 ([110,101,103],1,1,0),
 ([97,98,115],1,1,0),
 ([115,104,97,114,101],1,1,0),
 ([110,111,116],1,1,0),
 ([112,101,114],1,1,1),
 ([97,100,100],2,1,0),
 ([115,117,98],2,1,0),
 ([109,117,108],2,1,0),
 ([109,105,110],2,1,0),
 ([109,97,120],2,1,0),
 ([97,110,100],2,1,0),
 ([111,114],2,1,0),
 ([108,101,115,115],2,1,0),
 ([108,101,115,115,101,113,117,97,108],2,1,0),
 ([101,113,117,97,108],2,1,0),
 ([110,111,116,101,113,117,97,108],2,1,0),
 ([103,114,101,97,116,101,114,101,113,117,97,108],2,1,0),
 ([103,114,101,97,116,101,114],2,1,0),
 ([115,116,111,114,101],1,0,1),
 ([114,101,113,117,105,114,101],1,0,0),
 ([112,111,115,116],1,0,1),
 ([116,111],0,0,1)]
def A7h (r:List UInt8×Int×Int×Int):List T:=[.str r.1,tI r.2.1,tI r.2.2.1,tI r.2.2.2]
def P5:List T:=Zv.flatMap A7h

theorem A7i:A8 Tryz.prog 49 [] (.agg (P5.map .t)):=by
 (refine A8.of_code mix Tryz.call49 k_49 (by simp) (fun hB=>?_);(try simp at hB);(try simp -implicitDefEqProofs))
 (try simp -implicitDefEqProofs [P5,Zv,A7h])
end Go.Proofs.YtmlpmdccfmmpoaaGreatDoor
end

/- Chapter 34: the plain law of the operations. -/
section
set_option linter.unusedSimpArgs false
set_option linter.unusedVariables false
namespace Go.Proofs.YtmlpmdccfmmpoaaGreatDoor
open E

theorem A7j {x:Int} (hx:Ah x=true) (h0:x≠0):qW x=1000000000000 / max x (-x)∧0≤1000000000000 / max x (-x)∧1000000000000 / max x (-x)≤1000000000000:=by
 have h:=U6 hx
 have hm:0<max x (-x):=by omega
 have h1:0≤1000000000000 / max x (-x):=Int.ediv_nonneg (by decide) (by omega)
 have h2:1000000000000 / max x (-x)≤1000000000000:=Int.ediv_le_self _ (by decide)
 refine⟨?_,h1,h2⟩
 unfold qW
 rw [La hx,Int.tdiv_eq_ediv_of_nonneg (by decide),wrap64 (by omega) (by omega)]

theorem Zw {x y:Int} (h0:x≠0) (h:max y (-y)≤1000000000000 / max x (-x)) : -1000000000000≤x*y∧x*y≤1000000000000:=by
 have hm:0<max x (-x):=by omega
 have h1:max y (-y)*max x (-x)≤1000000000000:=Int.le_trans (Int.mul_le_mul_of_nonneg_right h (by omega)) (Int.ediv_mul_le _ (by omega))
 have h2:x*y≤max y (-y)*max x (-x)∧-(x*y)≤max y (-y)*max x (-x):=by
  rcases (by omega:0≤x∨x<0) with hx|hx<;>rcases (by omega:0≤y∨y<0) with hy|hy
  ·rw [show max y (-y)=y from by omega,show max x (-x)=x from by omega,Int.mul_comm y x]
   have:=Int.mul_nonneg hx hy
   omega
  ·rw [show max y (-y) = -y from by omega,show max x (-x)=x from by omega,Int.neg_mul,Int.mul_comm y x]
   have:=Int.mul_nonneg hx (show 0≤-y from by omega)
   rw [Int.mul_neg] at this
   omega
  ·rw [show max y (-y)=y from by omega,show max x (-x) = -x from by omega,Int.mul_neg,Int.mul_comm y x]
   have:=Int.mul_nonneg (show 0≤-x from by omega) hy
   rw [Int.neg_mul] at this
   omega
  ·rw [show max y (-y) = -y from by omega,show max x (-x) = -x from by omega,Int.neg_mul_neg,Int.mul_comm y x]
   have:=Int.mul_nonneg (show 0≤-x from by omega) (show 0≤-y from by omega)
   rw [Int.neg_mul_neg] at this
   omega
 omega

theorem A5i {x:Int} (h1 : -1000000000000≤x) (h2:x≤1000000000000):Ah x=true:=by simp [Ah,h1,h2]
theorem O1:Db 0=(0,true):=by decide

theorem A2n {x y:Int} (hx:Ah x=true) (hy:Ah y=true):Zt x y=A2m x y:=by
 unfold Zt A2m
 by_cases h0:x=0
 ·subst h0
  rw [if_pos rfl,if_pos rfl,Int.zero_mul,wrap64 (by decide) (by decide),O1]
 rw [if_neg h0,if_neg h0]
 obtain⟨hq,hq1,hq2⟩:=A7j hx h0
 by_cases h1:y=0
 ·subst h1
  rw [if_pos rfl,if_neg (by rw [La (by decide),hq];omega),Int.mul_zero,wrap64 (by decide) (by decide),O1]
 rw [if_neg h1]
 by_cases h2:qW x<Mc y
 ·rw [if_pos h2,if_pos h2]
 ·rw [if_neg h2,if_neg h2]
  rw [hq,La hy] at h2
  have:=Zw h0 (by omega:max y (-y)≤_)
  rw [wrap64 (by omega) (by omega)]
  unfold Db
  rw [if_pos (A5i this.1 this.2)]

theorem A7k (op a x y:Int):opC op a x y=opR op a x y:=by
 unfold opC opR opG
 by_cases hx:Ah x=true
 ·rw [if_pos hx,if_pos hx]
  by_cases hy:Ah y=true
  ·rw [if_pos hy,if_pos hy,A2n hx hy]
  ·rw [if_neg hy,if_neg hy]
 ·rw [if_neg hx,if_neg hx]
end Go.Proofs.YtmlpmdccfmmpoaaGreatDoor
end
end
