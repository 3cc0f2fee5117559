/- Integers of any length: quotients by one limb, greatest common divisors; products and sums of integers. -/
import Derived.Test.YtmlpmdccfmmpoaaGreatIn4
set_option linter.unusedSimpArgs false
set_option linter.unusedVariables false
set_option maxHeartbeats 2000000
set_option maxRecDepth 8000
namespace Go.Proofs.YtmlpmdccfmmpoaaGreat
open E

theorem Uj (x d:Nat) (hxl:(A4 b9 x).length≤1000) (hd0:0<d) (hdb:d<b9):A7 Tryz.prog 119 [.t (lT .u32 (A4 b9 x)),.t (.int .u32 d)] (.tup [.t (lT .u32 (O1 b9 x d)),.t (lT .u32 [x % d])]):=by
 have hx:=Ak Bj x
 have hlx:=Aj Bj x
 have hfin : ∀o:List Nat,Lim b9 o→o.length=(A4 b9 x).length→lvl b9 o=x / d→O1 b9 x d=o:=fun o h1 h2 h3=>(Kn Kq h1 h2 h3).symm
 unfold lT
 generalize O1 b9 x d=R at *
 generalize A4 b9 x=a at *
 have n1:a.length≤maxLen:=by unfold maxLen;omega
 have n2:(a.length:Int)*4≤140737488355328:=by omega
 have hdb':=hdb
 unfold b9 at hdb'
 have v8:IntKind.u64.wrap (d:Int)=(d:Int):=Dw (by omega)
 have dne:(d:Int)≠0:=by omega
 have dn : ¬d=0:=by omega
 (refine A7.of_code mix Tryz.call119 k_119 (by simp) (fun hB=>?_);(try simp at hB);(try simp -implicitDefEqProofs))
 (try simp -implicitDefEqProofs [n1,n2])
 refine Ac (X:=Nat×List Nat×Nat) (fun X=>X.1≤a.length∧X.2.1.length=a.length∧Lim b9 X.2.1∧lvl b9 (X.2.1.drop X.1)=lvl b9 (a.drop X.1) / d∧X.2.2=lvl b9 (a.drop X.1) % d)
  (fun X=>[(0,.t (.sl (lE .u32 a))),(1,.t (.int .u32 d)),(6,.bw 0 a.length),(7,.t (.int .u64 X.2.2)),(8,vI ((X.1:Int)-1))]) (fun X=>⟨[.buf 137 1 (bE .u32 X.2.1)],[]⟩) (fun X=>X.1) (a.length,List.replicate a.length 0,0) ?h0 ?hs ?_
 case h0=>exact⟨Nat.le_refl _,by simp,Lim.zeros Kq _,by rw [List.drop_of_length_le (by simp),List.drop_of_length_le (Nat.le_refl _)];simp [lvl],by rw [List.drop_of_length_le (Nat.le_refl _)];simp [lvl]⟩
 case hs=>
  have e3:IntKind.i64.wrap ((a.length:Int)-1)=(a.length:Int)-1:=wrap64 (by omega) (by omega)
  simp [Aw,bE,List.map_replicate,e3]
  first|done|exact O4 fun v hv=>⟨_,(List.mem_replicate.1 hv).2⟩
 rintro ⟨k,o,r⟩ ⟨hk,ho,hL,hv,hr⟩ hbd
 simp only [] at hk ho hL hv hr
 clear hbd
 rcases Nat.eq_zero_or_pos k with k0|k0
 ·subst k0
  rw [List.drop_zero,List.drop_zero,hlx] at hv
  rw [List.drop_zero,hlx] at hr
  rw [hfin o hL ho hv,←hr]
  have hrow:=Ci .u32 o
  rw [ho] at hrow
  have hbt:(bE .u32 o).take a.length=bE .u32 o:=List.take_of_length_le (by simp;omega)
  have hrb:r<d:=by rw [hr];exact Nat.mod_lt _ hd0
  have v9:IntKind.u32.wrap (r:Int)=(r:Int):=E7 (by omega)
  (try simp -implicitDefEqProofs [hbt,hrow,Bo,v9,Io])
 ·obtain⟨i,rfl⟩ : ∃i,k=i+1:=⟨k-1,by omega⟩
  obtain⟨u,hu⟩:=Aa (show i<a.length by omega)
  have hub:=hx.at hu
  have hrb:r<d:=by rw [hr];exact Nat.mod_lt _ hd0
  have hA:=(Nat.div_add_mod (lvl b9 (a.drop (i+1))) d).symm
  have st:=In (B:=b9) (x:=u) hd0 hrb (A:=lvl b9 (a.drop (i+1))) (Q:=lvl b9 (a.drop (i+1)) / d) (by rw [hr];exact hA)
  have hdl:=O0 hd0 hrb hub
  have hdn:=Cp (B:=b9) hu
  rw [←hdn] at st
  obtain⟨N,hN⟩ : ∃N,N=r*b9+u:=⟨_,rfl⟩
  rw [←hN] at st hdl
  obtain⟨q,hq⟩ : ∃q,q=N / d:=⟨_,rfl⟩
  obtain⟨r',hr'⟩ : ∃r',r'=N % d:=⟨_,rfl⟩
  rw [←hq] at hdl
  rw [←hq,←hr',←hv] at st
  have hNb:N<18446744073709551616:=by rw [hN];unfold b9 at hub ⊢;omega
  have g1:=Bi (k:=.u32) hu
  have g2:=B8 (k:=.u32) hu
  have v1:IntKind.u64.wrap ((r:Int)*1000000000)=((r*b9:Nat):Int):=Dw (x:=r*b9) (by unfold b9;omega)
  have v2:IntKind.u64.wrap (u:Int)=(u:Int):=Dw (by unfold b9 at hub;omega)
  have v3:IntKind.u64.wrap ((r:Int)*(b9:Int)+(u:Int))=(N:Int):=by rw [hN];exact Dw (x:=r*b9+u) (by omega)
  have q1:(N:Int).tdiv (d:Int)=(q:Int):=by rw [hq];rfl
  have q2:IntKind.u64.wrap (q:Int)=(q:Int):=Dw (by unfold b9 at hdl;omega)
  have q3:IntKind.u32.wrap (q:Int)=(q:Int):=E7 (by unfold b9 at hdl;omega)
  have r1:(N:Int).tmod (d:Int)=(r':Int):=by rw [hr'];rfl
  have hrb':r'<d:=by rw [hr'];exact Nat.mod_lt _ hd0
  have r2:IntKind.u64.wrap (r':Int)=(r':Int):=Dw (by omega)
  have e3:IntKind.i64.wrap ((i:Int)-1)=(i:Int)-1:=wrap64 (by omega) (by omega)
  have hp:=Cl (k:=.u32) q (show i<o.length by omega)
  have i4:i<a.length:=by omega
  have i5:i+1≤a.length:=by omega
  (try simp -implicitDefEqProofs [g1,g2,v1,v2,v3,v8,dne,dn,q1,q2,q3,r1,r2,e3,hp,i4,i5,ho])
  refine⟨i,o.set i q,r',⟨by omega,by simp [ho],hL.set hdl _,?_,st.2.symm⟩,by omega,?_⟩
  ·rw [C5 (by omega),lvl,st.1]
  ·simp [Aw]
theorem Uk {x d:Nat} (h : ¬x<d):Ko b9 x d=O1 b9 x d:=by unfold Ko;rw [if_neg h]
theorem Ul {x d:Nat} (h : ¬x<d):Kp b9 x d=[x % d]:=by unfold Kp;rw [if_neg h]
theorem Ma (x d:Nat) (hxl:(A4 b9 x).length≤1000) (hd0:0<d) (hdb:d<b9):A7 Tryz.prog 102 [.t (lT .u32 (A4 b9 x)),.t (lT .u32 (A4 b9 d))] (.tup [.t (lT .u32 (Ko b9 x d)),.t (lT .u32 (Kp b9 x d))]):=by
 have hc:=O3 x d
 have hs:=Uj x d hxl hd0 hdb
 have h1:=Fp (B:=b9) hd0 hdb
 by_cases h:x<d
 ·have e1:C4 x d = -1:=by unfold C4;rw [if_pos h]
  rw [e1] at hc
  unfold Ko Kp
  rw [if_pos h,if_pos h]
  unfold lT at *
  (refine A7.of_code mix Tryz.call102 k_102 (by simp) (fun hB=>?_);(try simp at hB);(try simp -implicitDefEqProofs))
  ((try simp at hc);(try simp -implicitDefEqProofs [Cg]);repeat' first|(with_reducible apply A0<;>first|(simp only [eras,era,A1];first|with_reducible assumption)|(simp -implicitDefEqProofs [Cg])))
 ·have e1 : ¬C4 x d<0:=by unfold C4;rw [if_neg h];split<;>omega
  rw [Uk h,Ul h]
  unfold lT at *
  rw [h1,Io] at hc ⊢
  simp only [Io] at hs ⊢
  (refine A7.of_code mix Tryz.call102 k_102 (by simp) (fun hB=>?_);(try simp at hB);(try simp -implicitDefEqProofs))
  ((try simp at hc hs);(try simp -implicitDefEqProofs [e1,Io]);repeat' first|(with_reducible apply A0<;>first|(simp only [eras,era,A1];first|with_reducible assumption)|(simp -implicitDefEqProofs [e1,Io])))
theorem Ye (x y:Int) (hxl:(A4 b9 x.natAbs).length≤1000) (hy:y.natAbs<b9):A7 Tryz.prog 80 [iV b9 .u32 x,iV b9 .u32 y] (iV b9 .u32 (Nat.gcd x.natAbs y.natAbs:Nat)):=by
 have hsg : ∀n:Nat,A7 Tryz.prog 104 [vB false,.t (.sl (lE .u32 (A4 b9 n)))] (.agg [.t (.bool false),.t (.sl (lE .u32 (A4 b9 n)))]):=fun n=>by
  have:=Dv false (Ak Bj n)
  rw [Aj Bj] at this
  have e:Du false n=(n:Int):=rfl
  rw [e] at this
  unfold iV iC lT at this
  have e2:decide ((n:Int)<0)=false:=by simp
  simp only [e2,Int.natAbs_natCast,List.map_cons,List.map_nil] at this
  exact this
 have e0:decide (((Nat.gcd x.natAbs y.natAbs:Nat):Int)<0)=false:=by simp
 unfold iV iC lT
 rw [e0,Int.natAbs_natCast]
 (refine A7.of_code mix Tryz.call80 k_80 (by simp) (fun hB=>?_);(try simp at hB);(try simp -implicitDefEqProofs))
 refine Ac (X:=Nat×Nat) (fun X=>Nat.gcd X.1 X.2=Nat.gcd x.natAbs y.natAbs∧X.2<b9∧(A4 b9 X.1).length≤1000) (fun X=>[(4,.ptr 2 0),(5,.t (.sl (lE .u32 (A4 b9 X.1)))),(6,.t (.sl (lE .u32 (A4 b9 X.2))))]) (fun X=>⟨[.cells [.t (.bool (decide (x<0))),.t (.sl (lE .u32 (A4 b9 x.natAbs)))],.cells [.t (.bool (decide (y<0))),.t (.sl (lE .u32 (A4 b9 y.natAbs)))],.cells [.t (.bool false),.snil]],[]⟩) (fun X=>X.2) (x.natAbs,y.natAbs) ⟨rfl,hy,hxl⟩ ?hs ?_
 case hs=>simp
 rintro ⟨a,b⟩ ⟨hg,hb,hal⟩ hbd
 simp only [] at hg hb hal
 clear hbd
 rcases Nat.eq_zero_or_pos b with b0|b0
 ·subst b0
  rw [Nat.gcd_zero_right] at hg
  have hs:=hsg a
  rw [←hg]
  ((try simp at hs);(try simp -implicitDefEqProofs [Ar,Cg]);repeat' first|(with_reducible apply A0<;>first|(simp only [eras,era,A1];first|with_reducible assumption)|(simp -implicitDefEqProofs [Ar,Cg])))
 ·have hdv:=Ma a b hal b0 hb
  have htr:=S7 (M3 (B:=b9) (a:=a) Bj b0 hb)
  rw [M2 Bj] at htr
  unfold lT at hdv htr
  have hlt:=Nat.mod_lt a b0
  have hlp:0<(A4 b9 b).length:=Ch Bj (by omega)
  ((try simp at hdv htr);(try simp -implicitDefEqProofs [hlp]);repeat' first|(with_reducible apply A0<;>first|(simp only [eras,era,A1];first|with_reducible assumption)|(simp -implicitDefEqProofs [hlp])))
  refine⟨b,a % b,⟨?_,by omega,?_⟩,hlt,rfl,rfl⟩
  ·rw [←hg,Nat.gcd_comm b,←Nat.gcd_rec,Nat.gcd_comm]
  ·rw [Fp b0 hb];simp
theorem Sd (x y:Int):Du (decide (x<0) != decide (y<0)) (x.natAbs*y.natAbs)=x*y:=by
 rw [←Int.natAbs_mul]
 unfold Du
 by_cases h1:x<0<;>by_cases h2:y<0<;>simp only [h1,h2,decide_true,decide_false,bne_self_eq_false,Bool.false_eq_true,if_false,if_true,Bool.bne_true,Bool.not_true,Bool.not_false,Bool.bne_false]
 ·have:=Int.mul_nonneg_of_nonpos_of_nonpos (show x≤0 by omega) (show y≤0 by omega);omega
 ·have:=Int.mul_nonpos_of_nonpos_of_nonneg (show x≤0 by omega) (show 0≤y by omega);omega
 ·have:=Int.mul_nonpos_of_nonneg_of_nonpos (show 0≤x by omega) (show y≤0 by omega);omega
 ·have:=Int.mul_nonneg (show 0≤x by omega) (show 0≤y by omega);omega
theorem P3 (x y:Int) (hxl:(A4 b9 x.natAbs).length≤1000) (hyl:(A4 b9 y.natAbs).length≤1000):A7 Tryz.prog 109 [iV b9 .u32 x,iV b9 .u32 y] (iV b9 .u32 (x*y)):=by
 have ht:=Ui x.natAbs y.natAbs hxl hyl
 have hs:=fun neg=>Dv (l:=Qk b9 x.natAbs y.natAbs) neg (Km Kq _ _)
 have hm:=Sd x y
 rw [Rx Bj] at hs
 unfold iV iC lT at *
 generalize decide (x<0)=nx at *
 generalize decide (y<0)=ny at *
 have hs:=hs (nx != ny)
 rw [hm] at hs
 have e:(nx != ny)=(!nx==ny):=by cases nx<;>cases ny<;>rfl
 rw [e] at hs
 (refine A7.of_code mix Tryz.call109 k_109 (by simp) (fun hB=>?_);(try simp at hB);(try simp -implicitDefEqProofs))
 ((try simp at ht hs);(try simp -implicitDefEqProofs);repeat' first|(with_reducible apply A0<;>first|(simp only [eras,era,A1];first|with_reducible assumption)|(simp -implicitDefEqProofs)))
theorem Wp (x y:Int) (hxl:(A4 b9 x.natAbs).length≤1000) (hyl:(A4 b9 y.natAbs).length≤1000) (hsg:decide (x<0)=decide (y<0)):A7 Tryz.prog 108 [iV b9 .u32 x,iV b9 .u32 y] (iV b9 .u32 (x+y)):=by
 have ht:=Wo x.natAbs y.natAbs hxl hyl
 have hs:=Dv (l:=Je b9 x.natAbs y.natAbs) (decide (x<0)) (Rv Kq _ _)
 have hm:Du (decide (x<0)) (x.natAbs+y.natAbs)=x+y:=by
  unfold Du
  by_cases h1:x<0
  ·have h2:y<0:=by simpa [h1] using hsg
   simp [h1];omega
  ·have h2 : ¬y<0:=by simpa [h1] using hsg
   simp [h1];omega
 rw [Rw Bj,hm] at hs
 unfold iV iC lT at *
 rw [←hsg]
 generalize decide (x<0)=nx at *
 (refine A7.of_code mix Tryz.call108 k_108 (by simp) (fun hB=>?_);(try simp at hB);(try simp -implicitDefEqProofs))
 ((try simp at ht hs);(try simp -implicitDefEqProofs);repeat' first|(with_reducible apply A0<;>first|(simp only [eras,era,A1];first|with_reducible assumption)|(simp -implicitDefEqProofs)))
theorem Mb (x y:Int):Du (decide (x<0) != decide (y<0)) (x.natAbs / y.natAbs)=x.tdiv y:=by
 have e:x.natAbs / y.natAbs=(x.tdiv y).natAbs:=(Int.natAbs_tdiv x y).symm
 rw [e]
 unfold Du
 by_cases h1:x<0<;>by_cases h2:y<0<;>simp only [h1,h2,decide_true,decide_false,bne_self_eq_false,Bool.false_eq_true,if_false,if_true,Bool.bne_true,Bool.not_true,Bool.not_false,Bool.bne_false]
 ·have:0≤x.tdiv y:=by
   have:=Int.tdiv_nonneg (show 0≤-x by omega) (show 0≤-y by omega)
   rwa [Int.neg_tdiv,Int.tdiv_neg,Int.neg_neg] at this
  omega
 ·have:=Int.tdiv_nonneg (show 0≤-x by omega) (show 0≤y by omega)
  rw [Int.neg_tdiv] at this;omega
 ·have:=Int.tdiv_nonneg (show 0≤x by omega) (show 0≤-y by omega)
  rw [Int.tdiv_neg] at this;omega
 ·have:=Int.tdiv_nonneg (show 0≤x by omega) (show 0≤y by omega);omega
theorem Mc (x y:Int):Du (decide (x<0)) (x.natAbs % y.natAbs)=x.tmod y:=by
 have e:x.natAbs % y.natAbs=(x.tmod y).natAbs:=(Int.natAbs_tmod x y).symm
 rw [e]
 unfold Du
 by_cases h1:x<0
 ·have:x.tmod y≤0:=by
   have:=Int.tmod_nonneg y (show 0≤-x by omega)
   rw [Int.neg_tmod] at this;omega
  rw [if_pos (by simpa using h1)];omega
 ·have:=Int.tmod_nonneg y (show 0≤x by omega)
  rw [if_neg (by simpa using h1)];omega
theorem Ip (x y:Int) (hxl:(A4 b9 x.natAbs).length≤1000) (hy0:y≠0) (hyb:y.natAbs<b9):A7 Tryz.prog 82 [iV b9 .u32 x,iV b9 .u32 y] (.tup [iV b9 .u32 (x.tdiv y),iV b9 .u32 (x.tmod y),.t (.int .i64 0)]):=by
 have hy0':0<y.natAbs:=by omega
 have hd:=Ma x.natAbs y.natAbs hxl hy0' hyb
 have s1:=Fq y
 have s0:(sgn y==0)=false:=by unfold sgn;split<;>(try split)<;>simp<;>omega
 have hs1:=Dv (l:=Ko b9 x.natAbs y.natAbs) (decide (x<0) != decide (y<0)) (S3 Kq _ _)
 have hs2:=Dv (l:=Kp b9 x.natAbs y.natAbs) (decide (x<0)) (M3 Bj hy0' hyb)
 rw [Rz Bj,Mb] at hs1
 rw [M2 Bj,Mc] at hs2
 unfold iV iC lT at *
 generalize decide (x<0)=nx at *
 generalize decide (y<0)=ny at *
 have e:(nx != ny)=(!nx==ny):=by cases nx<;>cases ny<;>rfl
 rw [e] at hs1
 (refine A7.of_code mix Tryz.call82 k_82 (by simp) (fun hB=>?_);(try simp at hB);(try simp -implicitDefEqProofs))
 ((try simp at hd s1 hs1 hs2);(try simp -implicitDefEqProofs [s0]);repeat' first|(with_reducible apply A0<;>first|(simp only [eras,era,A1];first|with_reducible assumption)|(simp -implicitDefEqProofs [s0])))
theorem Um (z:Int) (h1 : -9223372036854775808≤z) (h2:z≤9223372036854775807):A7 Tryz.prog 90 [iV b9 .u32 z] (.tup [vI z,vB true]):=by
 have o1:=S8 (n:=-9223372036854775808) (by omega) (by omega)
 have o2:=S8 (n:=9223372036854775807) (by omega) (by omega)
 have c1:=S9 z (-9223372036854775808)
 have c2:=S9 z 9223372036854775807
 have d1 : ¬Qm z (-9223372036854775808)<0:=by unfold Qm;rw [if_neg (by omega)];split<;>omega
 have d2 : ¬0<Qm z 9223372036854775807:=by unfold Qm;split;omega;rw [if_neg (by omega)];omega
 have hlx:=Aj Bj z.natAbs
 have hx:=Ak Bj z.natAbs
 have hxl:=Cf (B:=b9) (n:=z.natAbs) (k:=3) Bj (by unfold b9;omega)
 unfold iV iC lT at *
 (refine A7.of_code mix Tryz.call90 k_90 (by simp) (fun hB=>?_);(try simp at hB);(try simp -implicitDefEqProofs))
 ((try simp at o1 o2 c1 c2);(try simp -implicitDefEqProofs [d1,d2]);repeat' first|(with_reducible apply A0<;>first|(simp only [eras,era,A1];first|with_reducible assumption)|(simp -implicitDefEqProofs [d1,d2])))
 obtain⟨nz,hnz⟩ : ∃b,b=decide (z<0):=⟨_,rfl⟩
 rw [←hnz]
 generalize A4 b9 z.natAbs=a at *
 refine Ac (X:=Nat) (fun k=>k≤a.length) (fun k=>[(1,.ptr 0 0),(4,.t (.int .u64 (lvl b9 (a.drop k)))),(5,vI ((k:Int)-1))]) (fun _=>⟨[.cells [.t (.bool nz),.t (.sl (lE .u32 a))]],[]⟩) (fun k=>k) a.length (Nat.le_refl _) ?hs ?_
 case hs=>
  have e3:IntKind.i64.wrap ((a.length:Int)-1)=(a.length:Int)-1:=wrap64 (by omega) (by omega)
  simp [e3,lvl]
 rintro k hk hbd
 clear hbd
 rcases Nat.eq_zero_or_pos k with k0|k0
 ·subst k0
  rw [List.drop_zero,hlx]
  cases nz
  ·have hz : ¬z<0:=by simpa using hnz.symm
   have e1:IntKind.i64.wrap ((z.natAbs:Nat):Int)=z:=by rw [wrap64 (by omega) (by omega)];omega
   (try simp -implicitDefEqProofs [e1])
  ·have hz:z<0:=by simpa using hnz.symm
   have e1:IntKind.i64.wrap (IntKind.u64.wrap (-((z.natAbs:Nat):Int)))=z:=by
    rw [show -((z.natAbs:Nat):Int)=z by omega,IntKind.wrap_u64,IntKind.wrap_i64];omega
   (try simp -implicitDefEqProofs [e1])
 ·obtain⟨i,rfl⟩ : ∃i,k=i+1:=⟨k-1,by omega⟩
  obtain⟨u,hu⟩:=Aa (show i<a.length by omega)
  have hdn:=Cp (B:=b9) hu
  have hsp:=Dt b9 a (k:=i) (by omega)
  have hpw:=Nat.pow_pos (n:=i) Kq
  have hle:lvl b9 (a.drop i)≤z.natAbs:=by
   rw [hlx] at hsp
   have:=Nat.le_mul_of_pos_left (lvl b9 (a.drop i)) hpw
   omega
  obtain⟨A,hA⟩ : ∃A,A=lvl b9 (a.drop (i+1)):=⟨_,rfl⟩
  obtain⟨A',hA'⟩ : ∃A',A'=lvl b9 (a.drop i):=⟨_,rfl⟩
  rw [←hA,←hA'] at hdn
  rw [←hA'] at hle
  have g1:=Bi (k:=.u32) hu
  have g2:=B8 (k:=.u32) hu
  have v1:IntKind.u64.wrap ((A:Int)*1000000000)=(A:Int)*1000000000:=Dw (x:=A*1000000000) (by unfold b9 at hdn;omega)
  have v2:IntKind.u64.wrap (u:Int)=(u:Int):=Dw (by omega)
  have v3:IntKind.u64.wrap ((A:Int)*1000000000+(u:Int))=(A':Int):=by
   have e:=Dw (x:=A*1000000000+u) (by unfold b9 at hdn;omega)
   rw [Int.natCast_add,Int.natCast_mul] at e
   refine Eq.trans e ?_
   unfold b9 at hdn;omega
  have e3:IntKind.i64.wrap ((i:Int)-1)=(i:Int)-1:=wrap64 (by omega) (by omega)
  have i4:i<a.length:=by omega
  rw [←hA]
  (try simp -implicitDefEqProofs [g1,g2,v1,v2,v3,e3,i4])
  exact⟨i,by omega,by omega,by rw [←hA'],rfl⟩
end Go.Proofs.YtmlpmdccfmmpoaaGreat
