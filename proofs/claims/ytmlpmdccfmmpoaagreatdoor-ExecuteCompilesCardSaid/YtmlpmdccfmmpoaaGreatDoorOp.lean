/- Walks of chapter 34: amounts, products, operations. -/
import Derived.Test.YtmlpmdccfmmpoaaGreatDoorIn4
import Derived.Test.YtmlpmdccfmmpoaaGreatDoorCodeB
import Derived.Test.YtmlpmdccfmmpoaaGreatDoorApi
set_option linter.unusedSimpArgs false
set_option linter.unusedVariables false
set_option maxHeartbeats 2000000
set_option maxRecDepth 8000
namespace Go.Proofs.YtmlpmdccfmmpoaaGreatDoor
open E
theorem A23 (x d:Nat) (hxl:(A9 b9 x).length≤1000) (hd0:0<d) (hdb:d<b9):A7 Tryz.prog 209 [.t (lT .u32 (A9 b9 x)),.t (.int .u32 d)] (.tup [.t (lT .u32 (Th b9 x d)),.t (lT .u32 [x % d])]):=by
 have hx:=Ap C9 x
 have hlx:=Ao C9 x
 have hfin : ∀o:List Nat,Lim b9 o→o.length=(A9 b9 x).length→lvl b9 o=x / d→Th b9 x d=o:=fun o h1 h2 h3=>(Oi Om h1 h2 h3).symm
 unfold lT
 generalize Th b9 x d=R at *
 generalize A9 b9 x=a at *
 have n1:a.length≤maxLen:=by unfold maxLen;omega
 have n2:(a.length:Int)*4≤140737488355328:=by omega
 have hdb':=hdb
 unfold b9 at hdb'
 have v8:IntKind.u64.wrap (d:Int)=(d:Int):=Fc (by omega)
 have dne:(d:Int)≠0:=by omega
 have dn : ¬d=0:=by omega
 (refine A7.of_code mix Tryz.call209 k_209 (by simp) (fun hB=>?_);(try simp at hB);(try simp -implicitDefEqProofs))
 (try simp -implicitDefEqProofs [n1,n2])
 refine Ac (X:=Nat×List Nat×Nat) (fun X=>X.1≤a.length∧X.2.1.length=a.length∧Lim b9 X.2.1∧lvl b9 (X.2.1.drop X.1)=lvl b9 (a.drop X.1) / d∧X.2.2=lvl b9 (a.drop X.1) % d)
  (fun X=>[(0,.t (.sl (lE .u32 a))),(1,.t (.int .u32 d)),(6,.bw 0 a.length),(7,.t (.int .u64 X.2.2)),(8,vI ((X.1:Int)-1))]) (fun X=>⟨[.buf 215 1 (bE .u32 X.2.1)],[]⟩) (fun X=>X.1) (a.length,List.replicate a.length 0,0) ?h0 ?hs ?_
 case h0=>exact⟨Nat.le_refl _,by simp,Lim.zeros Om _,by rw [List.drop_of_length_le (by simp),List.drop_of_length_le (Nat.le_refl _)];simp [lvl],by rw [List.drop_of_length_le (Nat.le_refl _)];simp [lvl]⟩
 case hs=>
  have e3:IntKind.i64.wrap ((a.length:Int)-1)=(a.length:Int)-1:=wrap64 (by omega) (by omega)
  simp [B4,bE,List.map_replicate,e3]
  first|done|exact Tk fun v hv=>⟨_,(List.mem_replicate.1 hv).2⟩
 rintro ⟨k,o,r⟩ ⟨hk,ho,hL,hv,hr⟩ hbd
 simp only [] at hk ho hL hv hr
 clear hbd
 rcases Nat.eq_zero_or_pos k with k0|k0
 ·subst k0
  rw [List.drop_zero,List.drop_zero,hlx] at hv
  rw [List.drop_zero,hlx] at hr
  rw [hfin o hL ho hv,←hr]
  have hrow:=D5 .u32 o
  rw [ho] at hrow
  have hbt:(bE .u32 o).take a.length=bE .u32 o:=List.take_of_length_le (by simp;omega)
  have hrb:r<d:=by rw [hr];exact Nat.mod_lt _ hd0
  have v9:IntKind.u32.wrap (r:Int)=(r:Int):=Fq (by omega)
  (try simp -implicitDefEqProofs [hbt,hrow,Bs,v9,M1])
 ·obtain⟨i,rfl⟩ : ∃i,k=i+1:=⟨k-1,by omega⟩
  obtain⟨u,hu⟩:=Ad (show i<a.length by omega)
  have hub:=hx.at hu
  have hrb:r<d:=by rw [hr];exact Nat.mod_lt _ hd0
  have hA:=(Nat.div_add_mod (lvl b9 (a.drop (i+1))) d).symm
  have st:=M0 (B:=b9) (x:=u) hd0 hrb (A:=lvl b9 (a.drop (i+1))) (Q:=lvl b9 (a.drop (i+1)) / d) (by rw [hr];exact hA)
  have hdl:=Tg hd0 hrb hub
  have hdn:=Dk (B:=b9) hu
  rw [←hdn] at st
  obtain⟨N,hN⟩ : ∃N,N=r*b9+u:=⟨_,rfl⟩
  rw [←hN] at st hdl
  obtain⟨q,hq⟩ : ∃q,q=N / d:=⟨_,rfl⟩
  obtain⟨r',hr'⟩ : ∃r',r'=N % d:=⟨_,rfl⟩
  rw [←hq] at hdl
  rw [←hq,←hr',←hv] at st
  have hNb:N<18446744073709551616:=by rw [hN];unfold b9 at hub ⊢;omega
  have g1:=C7 (k:=.u32) hu
  have g2:=Bl (k:=.u32) hu
  have v1:IntKind.u64.wrap ((r:Int)*1000000000)=((r*b9:Nat):Int):=Fc (x:=r*b9) (by unfold b9;omega)
  have v2:IntKind.u64.wrap (u:Int)=(u:Int):=Fc (by unfold b9 at hub;omega)
  have v3:IntKind.u64.wrap ((r:Int)*(b9:Int)+(u:Int))=(N:Int):=by rw [hN];exact Fc (x:=r*b9+u) (by omega)
  have q1:(N:Int).tdiv (d:Int)=(q:Int):=by rw [hq];rfl
  have q2:IntKind.u64.wrap (q:Int)=(q:Int):=Fc (by unfold b9 at hdl;omega)
  have q3:IntKind.u32.wrap (q:Int)=(q:Int):=Fq (by unfold b9 at hdl;omega)
  have r1:(N:Int).tmod (d:Int)=(r':Int):=by rw [hr'];rfl
  have hrb':r'<d:=by rw [hr'];exact Nat.mod_lt _ hd0
  have r2:IntKind.u64.wrap (r':Int)=(r':Int):=Fc (by omega)
  have e3:IntKind.i64.wrap ((i:Int)-1)=(i:Int)-1:=wrap64 (by omega) (by omega)
  have hp:=Dd (k:=.u32) q (show i<o.length by omega)
  have i4:i<a.length:=by omega
  have i5:i+1≤a.length:=by omega
  (try simp -implicitDefEqProofs [g1,g2,v1,v2,v3,v8,dne,dn,q1,q2,q3,r1,r2,e3,hp,i4,i5,ho])
  refine⟨i,o.set i q,r',⟨by omega,by simp [ho],hL.set hdl _,?_,st.2.symm⟩,by omega,?_⟩
  ·rw [Cr (by omega),lvl,st.1]
  ·simp [B4]
theorem A24 {x d:Nat} (h : ¬x<d):Oj b9 x d=Th b9 x d:=by unfold Oj;rw [if_neg h]
theorem A25 {x d:Nat} (h : ¬x<d):Ol b9 x d=[x % d]:=by unfold Ol;rw [if_neg h]
theorem Qs (x d:Nat) (hxl:(A9 b9 x).length≤1000) (hd0:0<d) (hdb:d<b9):A7 Tryz.prog 174 [.t (lT .u32 (A9 b9 x)),.t (lT .u32 (A9 b9 d))] (.tup [.t (lT .u32 (Oj b9 x d)),.t (lT .u32 (Ol b9 x d))]):=by
 have hc:=Tj x d
 have hs:=A23 x d hxl hd0 hdb
 have h1:=Hu (B:=b9) hd0 hdb
 by_cases h:x<d
 ·have e1:Cq x d = -1:=by unfold Cq;rw [if_pos h]
  rw [e1] at hc
  unfold Oj Ol
  rw [if_pos h,if_pos h]
  unfold lT at *
  (refine A7.of_code mix Tryz.call174 k_174 (by simp) (fun hB=>?_);(try simp at hB);(try simp -implicitDefEqProofs))
  ((try simp at hc);(try simp -implicitDefEqProofs [D3]);repeat' first|(with_reducible apply A0<;>first|(simp only [eras,era,A1];first|with_reducible assumption)|(simp -implicitDefEqProofs [D3])))
 ·have e1 : ¬Cq x d<0:=by unfold Cq;rw [if_neg h];split<;>omega
  rw [A24 h,A25 h]
  unfold lT at *
  rw [h1,M1] at hc ⊢
  simp only [M1] at hs ⊢
  (refine A7.of_code mix Tryz.call174 k_174 (by simp) (fun hB=>?_);(try simp at hB);(try simp -implicitDefEqProofs))
  ((try simp at hc hs);(try simp -implicitDefEqProofs [e1,M1]);repeat' first|(with_reducible apply A0<;>first|(simp only [eras,era,A1];first|with_reducible assumption)|(simp -implicitDefEqProofs [e1,M1])))
theorem A73 (x y:Int) (hxl:(A9 b9 x.natAbs).length≤1000) (hy:y.natAbs<b9):A7 Tryz.prog 142 [iV b9 .u32 x,iV b9 .u32 y] (iV b9 .u32 (Nat.gcd x.natAbs y.natAbs:Nat)):=by
 have hsg : ∀n:Nat,A7 Tryz.prog 176 [vB false,.t (.sl (lE .u32 (A9 b9 n)))] (.agg [.t (.bool false),.t (.sl (lE .u32 (A9 b9 n)))]):=fun n=>by
  have:=Fb false (Ap C9 n)
  rw [Ao C9] at this
  have e:Fa false n=(n:Int):=rfl
  rw [e] at this
  unfold iV iC lT at this
  have e2:decide ((n:Int)<0)=false:=by simp
  simp only [e2,Int.natAbs_natCast,List.map_cons,List.map_nil] at this
  exact this
 have e0:decide (((Nat.gcd x.natAbs y.natAbs:Nat):Int)<0)=false:=by simp
 unfold iV iC lT
 rw [e0,Int.natAbs_natCast]
 (refine A7.of_code mix Tryz.call142 k_142 (by simp) (fun hB=>?_);(try simp at hB);(try simp -implicitDefEqProofs))
 refine Ac (X:=Nat×Nat) (fun X=>Nat.gcd X.1 X.2=Nat.gcd x.natAbs y.natAbs∧X.2<b9∧(A9 b9 X.1).length≤1000) (fun X=>[(4,.ptr 2 0),(5,.t (.sl (lE .u32 (A9 b9 X.1)))),(6,.t (.sl (lE .u32 (A9 b9 X.2))))]) (fun X=>⟨[.cells [.t (.bool (decide (x<0))),.t (.sl (lE .u32 (A9 b9 x.natAbs)))],.cells [.t (.bool (decide (y<0))),.t (.sl (lE .u32 (A9 b9 y.natAbs)))],.cells [.t (.bool false),.snil]],[]⟩) (fun X=>X.2) (x.natAbs,y.natAbs) ⟨rfl,hy,hxl⟩ ?hs ?_
 case hs=>simp
 rintro ⟨a,b⟩ ⟨hg,hb,hal⟩ hbd
 simp only [] at hg hb hal
 clear hbd
 rcases Nat.eq_zero_or_pos b with b0|b0
 ·subst b0
  rw [Nat.gcd_zero_right] at hg
  have hs:=hsg a
  rw [←hg]
  ((try simp at hs);(try simp -implicitDefEqProofs [Aw,D3]);repeat' first|(with_reducible apply A0<;>first|(simp only [eras,era,A1];first|with_reducible assumption)|(simp -implicitDefEqProofs [Aw,D3])))
 ·have hdv:=Qs a b hal b0 hb
  have htr:=Z4 (Ql (B:=b9) (a:=a) C9 b0 hb)
  rw [Qk C9] at htr
  unfold lT at hdv htr
  have hlt:=Nat.mod_lt a b0
  have hlp:0<(A9 b9 b).length:=D4 C9 (by omega)
  ((try simp at hdv htr);(try simp -implicitDefEqProofs [hlp]);repeat' first|(with_reducible apply A0<;>first|(simp only [eras,era,A1];first|with_reducible assumption)|(simp -implicitDefEqProofs [hlp])))
  refine⟨b,a % b,⟨?_,by omega,?_⟩,hlt,rfl,rfl⟩
  ·rw [←hg,Nat.gcd_comm b,←Nat.gcd_rec,Nat.gcd_comm]
  ·rw [Hu b0 hb];simp
theorem Za (x y:Int):Fa (decide (x<0) != decide (y<0)) (x.natAbs*y.natAbs)=x*y:=by
 rw [←Int.natAbs_mul]
 unfold Fa
 by_cases h1:x<0<;>by_cases h2:y<0<;>simp only [h1,h2,decide_true,decide_false,bne_self_eq_false,Bool.false_eq_true,if_false,if_true,Bool.bne_true,Bool.not_true,Bool.not_false,Bool.bne_false]
 ·have:=Int.mul_nonneg_of_nonpos_of_nonpos (show x≤0 by omega) (show y≤0 by omega);omega
 ·have:=Int.mul_nonpos_of_nonpos_of_nonneg (show x≤0 by omega) (show 0≤y by omega);omega
 ·have:=Int.mul_nonpos_of_nonneg_of_nonpos (show 0≤x by omega) (show y≤0 by omega);omega
 ·have:=Int.mul_nonneg (show 0≤x by omega) (show 0≤y by omega);omega
theorem Uy (x y:Int) (hxl:(A9 b9 x.natAbs).length≤1000) (hyl:(A9 b9 y.natAbs).length≤1000):A7 Tryz.prog 181 [iV b9 .u32 x,iV b9 .u32 y] (iV b9 .u32 (x*y)):=by
 have ht:=A22 x.natAbs y.natAbs hxl hyl
 have hs:=fun neg=>Fb (l:=Wp b9 x.natAbs y.natAbs) neg (Oh Om _ _)
 have hm:=Za x y
 rw [Yx C9] at hs
 unfold iV iC lT at *
 generalize decide (x<0)=nx at *
 generalize decide (y<0)=ny at *
 have hs:=hs (nx != ny)
 rw [hm] at hs
 have e:(nx != ny)=(!nx==ny):=by cases nx<;>cases ny<;>rfl
 rw [e] at hs
 (refine A7.of_code mix Tryz.call181 k_181 (by simp) (fun hB=>?_);(try simp at hB);(try simp -implicitDefEqProofs))
 ((try simp at ht hs);(try simp -implicitDefEqProofs);repeat' first|(with_reducible apply A0<;>first|(simp only [eras,era,A1];first|with_reducible assumption)|(simp -implicitDefEqProofs)))
theorem A51 (x y:Int) (hxl:(A9 b9 x.natAbs).length≤1000) (hyl:(A9 b9 y.natAbs).length≤1000) (hsg:decide (x<0)=decide (y<0)):A7 Tryz.prog 180 [iV b9 .u32 x,iV b9 .u32 y] (iV b9 .u32 (x+y)):=by
 have ht:=A50 x.natAbs y.natAbs hxl hyl
 have hs:=Fb (l:=Ms b9 x.natAbs y.natAbs) (decide (x<0)) (Yv Om _ _)
 have hm:Fa (decide (x<0)) (x.natAbs+y.natAbs)=x+y:=by
  unfold Fa
  by_cases h1:x<0
  ·have h2:y<0:=by simpa [h1] using hsg
   simp [h1];omega
  ·have h2 : ¬y<0:=by simpa [h1] using hsg
   simp [h1];omega
 rw [Yw C9,hm] at hs
 unfold iV iC lT at *
 rw [←hsg]
 generalize decide (x<0)=nx at *
 (refine A7.of_code mix Tryz.call180 k_180 (by simp) (fun hB=>?_);(try simp at hB);(try simp -implicitDefEqProofs))
 ((try simp at ht hs);(try simp -implicitDefEqProofs);repeat' first|(with_reducible apply A0<;>first|(simp only [eras,era,A1];first|with_reducible assumption)|(simp -implicitDefEqProofs)))
theorem Qt (x y:Int):Fa (decide (x<0) != decide (y<0)) (x.natAbs / y.natAbs)=x.tdiv y:=by
 have e:x.natAbs / y.natAbs=(x.tdiv y).natAbs:=(Int.natAbs_tdiv x y).symm
 rw [e]
 unfold Fa
 by_cases h1:x<0<;>by_cases h2:y<0<;>simp only [h1,h2,decide_true,decide_false,bne_self_eq_false,Bool.false_eq_true,if_false,if_true,Bool.bne_true,Bool.not_true,Bool.not_false,Bool.bne_false]
 ·have:0≤x.tdiv y:=by
   have:=Int.tdiv_nonneg (show 0≤-x by omega) (show 0≤-y by omega)
   rwa [Int.neg_tdiv,Int.tdiv_neg,Int.neg_neg] at this
  omega
 ·have:=Int.tdiv_nonneg (show 0≤-x by omega) (show 0≤y by omega)
  rw [Int.neg_tdiv] at this;omega
 ·have:=Int.tdiv_nonneg (show 0≤x by omega) (show 0≤-y by omega)
  rw [Int.tdiv_neg] at this;omega
 ·have:=Int.tdiv_nonneg (show 0≤x by omega) (show 0≤y by omega);omega
theorem Qu (x y:Int):Fa (decide (x<0)) (x.natAbs % y.natAbs)=x.tmod y:=by
 have e:x.natAbs % y.natAbs=(x.tmod y).natAbs:=(Int.natAbs_tmod x y).symm
 rw [e]
 unfold Fa
 by_cases h1:x<0
 ·have:x.tmod y≤0:=by
   have:=Int.tmod_nonneg y (show 0≤-x by omega)
   rw [Int.neg_tmod] at this;omega
  rw [if_pos (by simpa using h1)];omega
 ·have:=Int.tmod_nonneg y (show 0≤x by omega)
  rw [if_neg (by simpa using h1)];omega
theorem M2 (x y:Int) (hxl:(A9 b9 x.natAbs).length≤1000) (hy0:y≠0) (hyb:y.natAbs<b9):A7 Tryz.prog 144 [iV b9 .u32 x,iV b9 .u32 y] (.tup [iV b9 .u32 (x.tdiv y),iV b9 .u32 (x.tmod y),.t (.int .i64 0)]):=by
 have hy0':0<y.natAbs:=by omega
 have hd:=Qs x.natAbs y.natAbs hxl hy0' hyb
 have s1:=Hv y
 have s0:(sgn y==0)=false:=by unfold sgn;split<;>(try split)<;>simp<;>omega
 have hs1:=Fb (l:=Oj b9 x.natAbs y.natAbs) (decide (x<0) != decide (y<0)) (Z0 Om _ _)
 have hs2:=Fb (l:=Ol b9 x.natAbs y.natAbs) (decide (x<0)) (Ql C9 hy0' hyb)
 rw [Yz C9,Qt] at hs1
 rw [Qk C9,Qu] at hs2
 unfold iV iC lT at *
 generalize decide (x<0)=nx at *
 generalize decide (y<0)=ny at *
 have e:(nx != ny)=(!nx==ny):=by cases nx<;>cases ny<;>rfl
 rw [e] at hs1
 (refine A7.of_code mix Tryz.call144 k_144 (by simp) (fun hB=>?_);(try simp at hB);(try simp -implicitDefEqProofs))
 ((try simp at hd s1 hs1 hs2);(try simp -implicitDefEqProofs [s0]);repeat' first|(with_reducible apply A0<;>first|(simp only [eras,era,A1];first|with_reducible assumption)|(simp -implicitDefEqProofs [s0])))
theorem A26 (z:Int) (h1 : -9223372036854775808≤z) (h2:z≤9223372036854775807):A7 Tryz.prog 151 [iV b9 .u32 z] (.tup [vI z,vB true]):=by
 have o1:=Z5 (n:=-9223372036854775808) (by omega) (by omega)
 have o2:=Z5 (n:=9223372036854775807) (by omega) (by omega)
 have c1:=Z6 z (-9223372036854775808)
 have c2:=Z6 z 9223372036854775807
 have d1 : ¬Ws z (-9223372036854775808)<0:=by unfold Ws;rw [if_neg (by omega)];split<;>omega
 have d2 : ¬0<Ws z 9223372036854775807:=by unfold Ws;split;omega;rw [if_neg (by omega)];omega
 have hlx:=Ao C9 z.natAbs
 have hx:=Ap C9 z.natAbs
 have hxl:=D2 (B:=b9) (n:=z.natAbs) (k:=3) C9 (by unfold b9;omega)
 unfold iV iC lT at *
 (refine A7.of_code mix Tryz.call151 k_151 (by simp) (fun hB=>?_);(try simp at hB);(try simp -implicitDefEqProofs))
 ((try simp at o1 o2 c1 c2);(try simp -implicitDefEqProofs [d1,d2]);repeat' first|(with_reducible apply A0<;>first|(simp only [eras,era,A1];first|with_reducible assumption)|(simp -implicitDefEqProofs [d1,d2])))
 obtain⟨nz,hnz⟩ : ∃b,b=decide (z<0):=⟨_,rfl⟩
 rw [←hnz]
 generalize A9 b9 z.natAbs=a at *
 refine Ac (X:=Nat) (fun k=>k≤a.length) (fun k=>[(1,.ptr 0 0),(4,.t (.int .u64 (lvl b9 (a.drop k)))),(5,vI ((k:Int)-1))]) (fun _=>⟨[.cells [.t (.bool nz),.t (.sl (lE .u32 a))]],[]⟩) (fun k=>k) a.length (Nat.le_refl _) ?hs ?_
 case hs=>
  have e3:IntKind.i64.wrap ((a.length:Int)-1)=(a.length:Int)-1:=wrap64 (by omega) (by omega)
  simp [e3,lvl]
 rintro k hk hbd
 clear hbd
 rcases Nat.eq_zero_or_pos k with k0|k0
 ·subst k0
  rw [List.drop_zero,hlx]
  cases nz
  ·have hz : ¬z<0:=by simpa using hnz.symm
   have e1:IntKind.i64.wrap ((z.natAbs:Nat):Int)=z:=by rw [wrap64 (by omega) (by omega)];omega
   (try simp -implicitDefEqProofs [e1])
  ·have hz:z<0:=by simpa using hnz.symm
   have e1:IntKind.i64.wrap (IntKind.u64.wrap (-((z.natAbs:Nat):Int)))=z:=by
    rw [show -((z.natAbs:Nat):Int)=z by omega,IntKind.wrap_u64,IntKind.wrap_i64];omega
   (try simp -implicitDefEqProofs [e1])
 ·obtain⟨i,rfl⟩ : ∃i,k=i+1:=⟨k-1,by omega⟩
  obtain⟨u,hu⟩:=Ad (show i<a.length by omega)
  have hdn:=Dk (B:=b9) hu
  have hsp:=F9 b9 a (k:=i) (by omega)
  have hpw:=Nat.pow_pos (n:=i) Om
  have hle:lvl b9 (a.drop i)≤z.natAbs:=by
   rw [hlx] at hsp
   have:=Nat.le_mul_of_pos_left (lvl b9 (a.drop i)) hpw
   omega
  obtain⟨A,hA⟩ : ∃A,A=lvl b9 (a.drop (i+1)):=⟨_,rfl⟩
  obtain⟨A',hA'⟩ : ∃A',A'=lvl b9 (a.drop i):=⟨_,rfl⟩
  rw [←hA,←hA'] at hdn
  rw [←hA'] at hle
  have g1:=C7 (k:=.u32) hu
  have g2:=Bl (k:=.u32) hu
  have v1:IntKind.u64.wrap ((A:Int)*1000000000)=(A:Int)*1000000000:=Fc (x:=A*1000000000) (by unfold b9 at hdn;omega)
  have v2:IntKind.u64.wrap (u:Int)=(u:Int):=Fc (by omega)
  have v3:IntKind.u64.wrap ((A:Int)*1000000000+(u:Int))=(A':Int):=by
   have e:=Fc (x:=A*1000000000+u) (by unfold b9 at hdn;omega)
   rw [Int.natCast_add,Int.natCast_mul] at e
   refine Eq.trans e ?_
   unfold b9 at hdn;omega
  have e3:IntKind.i64.wrap ((i:Int)-1)=(i:Int)-1:=wrap64 (by omega) (by omega)
  have i4:i<a.length:=by omega
  rw [←hA]
  (try simp -implicitDefEqProofs [g1,g2,v1,v2,v3,e3,i4])
  exact⟨i,by omega,by omega,by rw [←hA'],rfl⟩
end Go.Proofs.YtmlpmdccfmmpoaaGreatDoor
section
section
set_option linter.unusedSimpArgs false
set_option linter.unusedVariables false
set_option maxHeartbeats 1000000
set_option maxRecDepth 8000
namespace Go.Proofs.YtmlpmdccfmmpoaaGreatDoor
open E

def Aj (n:Int):Bool:=decide (-1000000000000≤n)&&decide (n≤1000000000000)
def tru (b:Bool):Int:=if b then 1 else 0
def E1 (n:Int):Int×Bool:=if Aj n=true then (n,true) else (0,false)
def M3 (x:Int):Int:=max x (IntKind.i64.wrap (-x))
def qW (x:Int):Int:=IntKind.i64.wrap (Int.tdiv 1000000000000 (M3 x))
def Zb (x y:Int):Int×Bool:=if x=0 then (0,true) else if y=0 then (0,true) else if qW x<M3 y then (0,false) else (IntKind.i64.wrap (x*y),true)
def A27 (x y:Int):Int×Bool:=if x=0 then E1 (IntKind.i64.wrap (x*y)) else if qW x<M3 y then (0,false) else E1 (IntKind.i64.wrap (x*y))
def A52 (x a:Int):Int:=IntKind.i64.wrap ((IntKind.i64.wrap (IntKind.i64.wrap (2*M3 x)+a)).tdiv (IntKind.i64.wrap (2*a)))
def opG (mul:Int→Int→Int×Bool) (op a x y:Int):Int×Bool:=
 if Aj x=true then if Aj y=true then
  if op=5 then E1 (IntKind.i64.wrap (-x)) else if op=6 then E1 (M3 x) else if op=8 then E1 (tru (x==0))
  else if op=9 then if a<1 then (0,false) else if Aj a=true then E1 (if x<0 then IntKind.i64.wrap (-(A52 x a)) else A52 x a) else (0,false)
  else if op=10 then E1 (IntKind.i64.wrap (x+y)) else if op=11 then E1 (IntKind.i64.wrap (x-y)) else if op=12 then mul x y
  else if op=13 then E1 (min x y) else if op=14 then E1 (max x y)
  else if op=15 then E1 (tru (x != 0&&y != 0)) else if op=16 then E1 (tru (x != 0||y != 0))
  else if op=17 then E1 (tru (decide (x<y))) else if op=18 then E1 (tru (decide (x≤y))) else if op=19 then E1 (tru (x==y))
  else if op=20 then E1 (tru (x != y)) else if op=21 then E1 (tru (decide (y≤x))) else if op=22 then E1 (tru (decide (y<x)))
  else (0,false)
 else (0,false) else (0,false)
abbrev opC:=opG Zb
abbrev opR:=opG A27
def vO (r:Int×Bool):V:=.tup [vI r.1,vB r.2]

theorem G4 (n:Int):A7 Tryz.prog 104 [vI n] (vB (Aj n)):=by
 unfold Aj
 (refine A7.of_code mix Tryz.call104 k_104 (by simp) (fun hB=>?_);(try simp at hB);(try simp -implicitDefEqProofs))
 ((try simp -implicitDefEqProofs);repeat' first|((with_reducible first|apply A5|apply A6|apply A3)<;>(intro hc;have hc':=hc;(try simp at hc');simp -implicitDefEqProofs [hc,hc'])))
theorem A3k (b:Bool):A7 Tryz.prog 105 [vB b] (vI (tru b)):=by
 cases b<;>unfold tru
 ·(refine A7.of_code mix Tryz.call105 k_105 (by simp) (fun hB=>?_);(try simp at hB);(try simp -implicitDefEqProofs))
  (try simp -implicitDefEqProofs)
 ·(refine A7.of_code mix Tryz.call105 k_105 (by simp) (fun hB=>?_);(try simp at hB);(try simp -implicitDefEqProofs))
  (try simp -implicitDefEqProofs)
theorem Tl {x:Int} (h:Aj x=true) : -1000000000000≤x∧x≤1000000000000:=by simpa [Aj] using h
theorem L1 {x:Int} (h:Aj x=true):M3 x=max x (-x):=by
 have:=Tl h
 unfold M3
 rw [wrap64 (by omega) (by omega)]

theorem Zc (x y:Int) (hx:Aj x=true):A7 Tryz.prog 106 [vI x,vI y] (vO (Zb x y)):=by
 have h0:x≠0→¬M3 x=0:=by rw [L1 hx];omega
 unfold Zb qW
 unfold M3 at *
 (refine A7.of_code mix Tryz.call106 k_106 (by simp) (fun hB=>?_);(try simp at hB);(try simp -implicitDefEqProofs))
 ((try simp -implicitDefEqProofs [vO]);repeat' first|((with_reducible first|apply A5|apply A6|apply A3)<;>(intro hc;have hc':=hc;(try simp at hc');simp -implicitDefEqProofs [hc,hc',vO])))
 all_goals (refine⟨h0 (by assumption),?_⟩;((try simp -implicitDefEqProofs [vO]);repeat' first|((with_reducible first|apply A5|apply A6|apply A3)<;>(intro hc;have hc':=hc;(try simp at hc');simp -implicitDefEqProofs [hc,hc',vO]))))
 all_goals grind

theorem Qv (op a x y:Int):A7 Tryz.prog 52 [vI op,vI a,vI x,vI y] (vO (opC op a x y)):=by
 unfold opC opG E1
 cases hx:Aj x
 ·(refine A7.of_code mix Tryz.call52 k_52 (by simp) (fun hB=>?_);(try simp at hB);(try simp -implicitDefEqProofs [vO]))
  ((try simp -implicitDefEqProofs [vO,hx]);repeat' first|(with_reducible apply A0<;>first|(simp only [eras,era,A1];first|with_reducible exact (G4 _)|simpa using (G4 _))|(simp -implicitDefEqProofs [vO,hx])))
 cases hy:Aj y
 ·(refine A7.of_code mix Tryz.call52 k_52 (by simp) (fun hB=>?_);(try simp at hB);(try simp -implicitDefEqProofs [vO]))
  ((try simp -implicitDefEqProofs [vO,hx,hy]);repeat' first|(with_reducible apply A0<;>first|(simp only [eras,era,A1];first|with_reducible exact (G4 _)|simpa using (G4 _))|(simp -implicitDefEqProofs [vO,hx,hy])))
 unfold A52 M3
 (refine A7.of_code mix Tryz.call52 k_52 (by simp) (fun hB=>?_);(try simp at hB);(try simp -implicitDefEqProofs [vO]))
 ((try simp -implicitDefEqProofs [vO,hx,hy]);repeat' first|((with_reducible first|apply A5|apply A6|apply A3)<;>(intro hc;have hc':=hc;(try simp at hc');simp -implicitDefEqProofs [hc,hc',vO,hx,hy]))|(with_reducible apply A0<;>first|(simp only [eras,era,A1];first|with_reducible exact (G4 _)|with_reducible exact (A3k _)|with_reducible exact (Zc _ _ hx)|simpa using (G4 _)|simpa using (A3k _)|simpa using (Zc _ _ hx))|(simp -implicitDefEqProofs [vO,hx,hy])))
 all_goals
  have g1 : ¬a<1:=by omega
  have g2:Aj a=true:=by assumption
  refine⟨by have:=Tl g2;rw [wrap64 (by omega) (by omega)];omega,?_⟩
  rcases Int.lt_or_le x 0 with g3|g3
  ·((try simp -implicitDefEqProofs [vO,hx,hy,g1,g2,g3]);repeat' first|((with_reducible first|apply A5|apply A6|apply A3)<;>(intro hc;have hc':=hc;(try simp at hc');simp -implicitDefEqProofs [hc,hc',vO,hx,hy,g1,g2,g3]))|(with_reducible apply A0<;>first|(simp only [eras,era,A1];first|with_reducible exact (G4 _)|simpa using (G4 _))|(simp -implicitDefEqProofs [vO,hx,hy,g1,g2,g3])))
  ·have g4 : ¬x<0:=by omega
   ((try simp -implicitDefEqProofs [vO,hx,hy,g1,g2,g4]);repeat' first|((with_reducible first|apply A5|apply A6|apply A3)<;>(intro hc;have hc':=hc;(try simp at hc');simp -implicitDefEqProofs [hc,hc',vO,hx,hy,g1,g2,g4]))|(with_reducible apply A0<;>first|(simp only [eras,era,A1];first|with_reducible exact (G4 _)|simpa using (G4 _))|(simp -implicitDefEqProofs [vO,hx,hy,g1,g2,g4])))

end Go.Proofs.YtmlpmdccfmmpoaaGreatDoor
end

/- Chapter 34: the table of operations. -/
section
set_option linter.unusedSimpArgs false
set_option linter.unusedVariables false
set_option maxHeartbeats 2000000
set_option maxRecDepth 20000
namespace Go.Proofs.YtmlpmdccfmmpoaaGreatDoor
open E

def Zd:List (List UInt8×Int×Int×Int):=[
 ([],0,0,0),
 ([112,117,115,104],0,1,1),
 ([108,111,97,100],0,1,1),
 ([98,97,108,97,110,99,101],0,1,2),
 ([112,97,114,116,110,101,114],0,1,2),
 ([110,101,103],1,1,0),
 ([97,98,115],1,1,0),
 ([115,104,97,114,101],1,1,0),
 ([110,111,116],1,1,0),
 ([112,101,114],1,1,1),
 ([97,100,100],2,1,0),
 ([115,117,98],2,1,0),
 ([109,117,108],2,1,0),
 ([109,105,110],2,1,0),
 ([109,97,120],2,1,0),
 ([97,110,100],2,1,0),
 ([111,114],2,1,0),
 ([108,101,115,115],2,1,0),
 ([108,101,115,115,101,113,117,97,108],2,1,0),
 ([101,113,117,97,108],2,1,0),
 ([110,111,116,101,113,117,97,108],2,1,0),
 ([103,114,101,97,116,101,114,101,113,117,97,108],2,1,0),
 ([103,114,101,97,116,101,114],2,1,0),
 ([115,116,111,114,101],1,0,1),
 ([114,101,113,117,105,114,101],1,0,0),
 ([112,111,115,116],1,0,1),
 ([116,111],0,0,1)]
def A74 (r:List UInt8×Int×Int×Int):List T:=[.str r.1,tI r.2.1,tI r.2.2.1,tI r.2.2.2]
def Iu:List T:=Zd.flatMap A74

theorem A3l:A7 Tryz.prog 49 [] (.agg (Iu.map .t)):=by
 (refine A7.of_code mix Tryz.call49 k_49 (by simp) (fun hB=>?_);(try simp at hB);(try simp -implicitDefEqProofs))
 (try simp -implicitDefEqProofs [Iu,Zd,A74])
end Go.Proofs.YtmlpmdccfmmpoaaGreatDoor
end

/- Chapter 34: the plain law of the operations. -/
section
set_option linter.unusedSimpArgs false
set_option linter.unusedVariables false
namespace Go.Proofs.YtmlpmdccfmmpoaaGreatDoor
open E

theorem A75 {x:Int} (hx:Aj x=true) (h0:x≠0):qW x=1000000000000 / max x (-x)∧0≤1000000000000 / max x (-x)∧1000000000000 / max x (-x)≤1000000000000:=by
 have h:=Tl hx
 have hm:0<max x (-x):=by omega
 have h1:0≤1000000000000 / max x (-x):=Int.ediv_nonneg (by decide) (by omega)
 have h2:1000000000000 / max x (-x)≤1000000000000:=Int.ediv_le_self _ (by decide)
 refine⟨?_,h1,h2⟩
 unfold qW
 rw [L1 hx,Int.tdiv_eq_ediv_of_nonneg (by decide),wrap64 (by omega) (by omega)]

theorem Ze {x y:Int} (h0:x≠0) (h:max y (-y)≤1000000000000 / max x (-x)) : -1000000000000≤x*y∧x*y≤1000000000000:=by
 have hm:0<max x (-x):=by omega
 have h1:max y (-y)*max x (-x)≤1000000000000:=Int.le_trans (Int.mul_le_mul_of_nonneg_right h (by omega)) (Int.ediv_mul_le _ (by omega))
 have h2:x*y≤max y (-y)*max x (-x)∧-(x*y)≤max y (-y)*max x (-x):=by
  rcases (by omega:0≤x∨x<0) with hx|hx<;>rcases (by omega:0≤y∨y<0) with hy|hy
  ·rw [show max y (-y)=y from by omega,show max x (-x)=x from by omega,Int.mul_comm y x]
   have:=Int.mul_nonneg hx hy
   omega
  ·rw [show max y (-y) = -y from by omega,show max x (-x)=x from by omega,Int.neg_mul,Int.mul_comm y x]
   have:=Int.mul_nonneg hx (show 0≤-y from by omega)
   rw [Int.mul_neg] at this
   omega
  ·rw [show max y (-y)=y from by omega,show max x (-x) = -x from by omega,Int.mul_neg,Int.mul_comm y x]
   have:=Int.mul_nonneg (show 0≤-x from by omega) hy
   rw [Int.neg_mul] at this
   omega
  ·rw [show max y (-y) = -y from by omega,show max x (-x) = -x from by omega,Int.neg_mul_neg,Int.mul_comm y x]
   have:=Int.mul_nonneg (show 0≤-x from by omega) (show 0≤-y from by omega)
   rw [Int.neg_mul_neg] at this
   omega
 omega

theorem A53 {x:Int} (h1 : -1000000000000≤x) (h2:x≤1000000000000):Aj x=true:=by simp [Aj,h1,h2]
theorem Ni:E1 0=(0,true):=by decide

theorem A28 {x y:Int} (hx:Aj x=true) (hy:Aj y=true):Zb x y=A27 x y:=by
 unfold Zb A27
 by_cases h0:x=0
 ·subst h0
  rw [if_pos rfl,if_pos rfl,Int.zero_mul,wrap64 (by decide) (by decide),Ni]
 rw [if_neg h0,if_neg h0]
 obtain⟨hq,hq1,hq2⟩:=A75 hx h0
 by_cases h1:y=0
 ·subst h1
  rw [if_pos rfl,if_neg (by rw [L1 (by decide),hq];omega),Int.mul_zero,wrap64 (by decide) (by decide),Ni]
 rw [if_neg h1]
 by_cases h2:qW x<M3 y
 ·rw [if_pos h2,if_pos h2]
 ·rw [if_neg h2,if_neg h2]
  rw [hq,L1 hy] at h2
  have:=Ze h0 (by omega:max y (-y)≤_)
  rw [wrap64 (by omega) (by omega)]
  unfold E1
  rw [if_pos (A53 this.1 this.2)]

theorem A76 (op a x y:Int):opC op a x y=opR op a x y:=by
 unfold opC opR opG
 by_cases hx:Aj x=true
 ·rw [if_pos hx,if_pos hx]
  by_cases hy:Aj y=true
  ·rw [if_pos hy,if_pos hy,A28 hx hy]
  ·rw [if_neg hy,if_neg hy]
 ·rw [if_neg hx,if_neg hx]
end Go.Proofs.YtmlpmdccfmmpoaaGreatDoor
end
end
