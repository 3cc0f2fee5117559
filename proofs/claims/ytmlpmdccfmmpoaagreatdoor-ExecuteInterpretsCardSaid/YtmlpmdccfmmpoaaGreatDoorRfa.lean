/- Walks of chapter 34's reference: Takes, uses, fine, run. -/
import Derived.Test.YtmlpmdccfmmpoaaGreatDoorIn5
import Derived.Test.YtmlpmdccfmmpoaaGreatDoorIn8
import Derived.Test.YtmlpmdccfmmpoaaGreatDoorIn9
import Derived.Test.YtmlpmdccfmmpoaaGreatDoorIn6
set_option linter.unusedSimpArgs false
set_option linter.unusedVariables false
set_option maxHeartbeats 2000000
set_option maxRecDepth 8000
namespace Go.Proofs.YtmlpmdccfmmpoaaGreatDoor
open E
theorem P2 (x y:Int) (hxl:(Aa b4 x.natAbs).length≤900) (hyl:(Aa b4 y.natAbs).length≤900):A4 Tryz.prog 159 [iV b4 .i64 x,iV b4 .i64 y] (iV b4 .i64 (x*y)):=by
 have ht:=A00 x.natAbs y.natAbs (by omega) (by omega)
 have hs:=fun neg=>Cn (l:=Aa b4 (x.natAbs*y.natAbs)) neg (Ap B1 _)
 have hm:=R0 x y
 rw [An B1] at hs
 unfold iV iC lT at *
 generalize decide (x<0)=nx at *
 generalize decide (y<0)=ny at *
 have hs:=hs (nx != ny)
 rw [hm] at hs
 have e:(nx != ny)=(!nx==ny):=by cases nx<;>cases ny<;>rfl
 rw [e] at hs
 (refine A4.of_code mix Tryz.call159 k_159 (by simp) (fun hB=>?_);(try simp at hB);(try simp -implicitDefEqProofs))
 ((try simp at ht hs);(try simp -implicitDefEqProofs);repeat' first|(with_reducible apply A0<;>first|(simp only [eras,era,A1];first|with_reducible assumption)|(simp -implicitDefEqProofs)))
theorem Vg (x y:Int) (hxl:(Aa b4 x.natAbs).length≤900) (hyl:(Aa b4 y.natAbs).length≤900) (hsg:decide (x<0)=decide (y<0)):A4 Tryz.prog 158 [iV b4 .i64 x,iV b4 .i64 y] (iV b4 .i64 (x+y)):=by
 have ht:=A5s x.natAbs y.natAbs (by omega) (by omega)
 have hs:=Cn (l:=Hp b4 x.natAbs y.natAbs) (decide (x<0)) (Qr I7 _ _)
 have hm:Cl (decide (x<0)) (x.natAbs+y.natAbs)=x+y:=by
  unfold Cl
  by_cases h1:x<0
  ·have h2:y<0:=by simpa [h1] using hsg
   simp [h1];omega
  ·have h2 : ¬y<0:=by simpa [h1] using hsg
   simp [h1];omega
 rw [Qs B1,hm] at hs
 unfold iV iC lT at *
 rw [←hsg]
 generalize decide (x<0)=nx at *
 (refine A4.of_code mix Tryz.call158 k_158 (by simp) (fun hB=>?_);(try simp at hB);(try simp -implicitDefEqProofs))
 ((try simp at ht hs);(try simp -implicitDefEqProofs);repeat' first|(with_reducible apply A0<;>first|(simp only [eras,era,A1];first|with_reducible assumption)|(simp -implicitDefEqProofs)))
theorem K3 (x y:Int) (hxl:(Aa b4 x.natAbs).length≤900) (hyl:(Aa b4 y.natAbs).length≤900) (hy0:y≠0):A4 Tryz.prog 148 [iV b4 .i64 x,iV b4 .i64 y] (.tup [iV b4 .i64 (x.tdiv y),iV b4 .i64 (x.tmod y),.t (.int .i64 0)]):=by
 have hy0':0<y.natAbs:=by omega
 have hd:=A3z x.natAbs y.natAbs hxl hyl hy0'
 have s1:=J7 y
 have s0:(sgn y==0)=false:=by unfold sgn;split<;>(try split)<;>simp<;>omega
 have hs1:=Cn (l:=Aa b4 (x.natAbs / y.natAbs)) (decide (x<0) != decide (y<0)) (Ap B1 _)
 have hs2:=Cn (l:=Aa b4 (x.natAbs % y.natAbs)) (decide (x<0)) (Ap B1 _)
 rw [An B1,R1] at hs1
 rw [An B1,R2] at hs2
 unfold iV iC lT at *
 generalize decide (x<0)=nx at *
 generalize decide (y<0)=ny at *
 have e:(nx != ny)=(!nx==ny):=by cases nx<;>cases ny<;>rfl
 rw [e] at hs1
 (refine A4.of_code mix Tryz.call148 k_148 (by simp) (fun hB=>?_);(try simp at hB);(try simp -implicitDefEqProofs))
 ((try simp at hd s1 hs1 hs2);(try simp -implicitDefEqProofs [s0]);repeat' first|(with_reducible apply A0<;>first|(simp only [eras,era,A1];first|with_reducible assumption)|(simp -implicitDefEqProofs [s0])))
theorem A5t (x y:Int) (hxl:(Aa b4 x.natAbs).length≤900) (hyl:(Aa b4 y.natAbs).length≤900):A4 Tryz.prog 147 [iV b4 .i64 x,iV b4 .i64 y] (iV b4 .i64 (Nat.gcd x.natAbs y.natAbs:Nat)):=by
 have hsg : ∀n:Nat,A4 Tryz.prog 112 [vB false,.t (.sl (lE .i64 (Aa b4 n)))] (.agg [.t (.bool false),.t (.sl (lE .i64 (Aa b4 n)))]):=fun n=>by
  have:=Cn false (Ap B1 n)
  rw [An B1] at this
  have e:Cl false n=(n:Int):=rfl
  rw [e] at this
  unfold iV iC lT at this
  have e2:decide ((n:Int)<0)=false:=by simp
  simp only [e2,Int.natAbs_natCast,List.map_cons,List.map_nil] at this
  exact this
 have e0:decide (((Nat.gcd x.natAbs y.natAbs:Nat):Int)<0)=false:=by simp
 unfold iV iC lT
 rw [e0,Int.natAbs_natCast]
 (refine A4.of_code mix Tryz.call147 k_147 (by simp) (fun hB=>?_);(try simp at hB);(try simp -implicitDefEqProofs))
 refine A9 (X:=Nat×Nat) (fun X=>Nat.gcd X.1 X.2=Nat.gcd x.natAbs y.natAbs∧(Aa b4 X.2).length≤900∧(Aa b4 X.1).length≤900) (fun X=>[(4,.ptr 2 0),(5,.t (.sl (lE .i64 (Aa b4 X.1)))),(6,.t (.sl (lE .i64 (Aa b4 X.2))))]) (fun X=>⟨[.cells [.t (.bool (decide (x<0))),.t (.sl (lE .i64 (Aa b4 x.natAbs)))],.cells [.t (.bool (decide (y<0))),.t (.sl (lE .i64 (Aa b4 y.natAbs)))],.cells [.t (.bool false),.snil]],[]⟩) (fun X=>X.2) (x.natAbs,y.natAbs) ⟨rfl,hyl,hxl⟩ ?hs ?_
 case hs=>simp
 rintro ⟨a,b⟩ ⟨hg,hb,hal⟩ hbd
 simp only [] at hg hb hal
 clear hbd
 rcases Nat.eq_zero_or_pos b with b0|b0
 ·subst b0
  rw [Nat.gcd_zero_right] at hg
  have hs:=hsg a
  rw [←hg]
  ((try simp at hs);(try simp -implicitDefEqProofs [Az,Dh]);repeat' first|(with_reducible apply A0<;>first|(simp only [eras,era,A1];first|with_reducible assumption)|(simp -implicitDefEqProofs [Az,Dh])))
 ·have hdv:=A3z a b hal hb b0
  unfold lT at hdv
  have hlt:=Nat.mod_lt a b0
  have hlp:0<(Aa b4 b).length:=Do B1 (by omega)
  have hle:=Fa (B:=b4) B1 (Nat.le_of_lt hlt)
  ((try simp at hdv);(try simp -implicitDefEqProofs [hlp]);repeat' first|(with_reducible apply A0<;>first|(simp only [eras,era,A1];first|with_reducible assumption)|(simp -implicitDefEqProofs [hlp])))
  refine⟨b,a % b,⟨?_,by omega,by omega⟩,hlt,rfl,rfl⟩
  rw [←hg,Nat.gcd_comm b,←Nat.gcd_rec,Nat.gcd_comm]
theorem A2o (z:Int) (hzl:(Aa b4 z.natAbs).length≤900):A4 Tryz.prog 156 [iV b4 .i64 z,iV b4 .i64 z] (vI 0):=by
 have hn:=Z5 z
 have hsg:=J7 0
 have s0:sgn 0=0:=rfl
 rw [s0] at hsg
 have hadd:A4 Tryz.prog 158 [iV b4 .i64 z,iV b4 .i64 (-z)] (iV b4 .i64 0):=by
  by_cases h0:z=0
  ·subst h0
   rw [Int.neg_zero]
   exact Vg 0 0 hzl hzl rfl
  ·have hc:=V8 z.natAbs z.natAbs
   have c0:D4 z.natAbs z.natAbs=0:=by simp [D4]
   rw [c0] at hc
   have hs:=Zz z.natAbs z.natAbs (by omega) (Nat.le_refl _)
   rw [Nat.sub_self] at hs
   have hsn:=Cn (decide (z<0)) (Ap B1 0)
   rw [An B1] at hsn
   have e0:Cl (decide (z<0)) 0=0:=by unfold Cl;split<;>rfl
   rw [e0] at hsn
   unfold iV iC lT at *
   rw [Int.natAbs_neg]
   generalize lE .i64 (Aa b4 z.natAbs)=L at *
   by_cases h:z<0
   ·have d1:decide (z<0)=true:=by simp [h]
    have d2:decide (-z<0)=false:=by simp;omega
    rw [d1] at hsn
    rw [d1,d2]
    (refine A4.of_code mix Tryz.call158 k_158 (by simp) (fun hB=>?_);(try simp at hB);(try simp -implicitDefEqProofs))
    ((try simp at hc hs hsn);(try simp -implicitDefEqProofs);repeat' first|(with_reducible apply A0<;>first|(simp only [eras,era,A1];first|with_reducible assumption)|(simp -implicitDefEqProofs)))
   ·have d1:decide (z<0)=false:=by simp [h]
    have d2:decide (-z<0)=true:=by simp;omega
    rw [d1] at hsn
    rw [d1,d2]
    (refine A4.of_code mix Tryz.call158 k_158 (by simp) (fun hB=>?_);(try simp at hB);(try simp -implicitDefEqProofs))
    ((try simp at hc hs hsn);(try simp -implicitDefEqProofs);repeat' first|(with_reducible apply A0<;>first|(simp only [eras,era,A1];first|with_reducible assumption)|(simp -implicitDefEqProofs)))
 have hsub:A4 Tryz.prog 182 [iV b4 .i64 z,iV b4 .i64 z] (iV b4 .i64 0):=by
  generalize hw : -z=w at *
  clear hw hsg hzl
  unfold iV iC lT at *
  generalize decide (z<0)=a1 at *
  generalize lE .i64 (Aa b4 z.natAbs)=a2 at *
  generalize decide (w<0)=a3 at *
  generalize lE .i64 (Aa b4 w.natAbs)=a4 at *
  (refine A4.of_code mix Tryz.call182 k_182 (by simp) (fun hB=>?_);(try simp at hB);(try simp -implicitDefEqProofs))
  ((try simp at hn hadd);(try simp -implicitDefEqProofs);repeat' first|(with_reducible apply A0<;>first|(simp only [eras,era,A1];first|with_reducible assumption)|(simp -implicitDefEqProofs)))
 clear hadd hn hzl
 unfold iV iC lT at *
 generalize decide (z<0)=a1 at *
 generalize lE .i64 (Aa b4 z.natAbs)=a2 at *
 (refine A4.of_code mix Tryz.call156 k_156 (by simp) (fun hB=>?_);(try simp at hB);(try simp -implicitDefEqProofs))
 ((try simp at hsub hsg);(try simp -implicitDefEqProofs);repeat' first|(with_reducible apply A0<;>first|(simp only [eras,era,A1];first|with_reducible assumption)|(simp -implicitDefEqProofs)))
def qE (z:Int):List (List T):=lE .i64 (Aa b4 z.natAbs)
theorem iV4 (z:Int):iV b4 .i64 z=.agg [.t (.bool (nB z)),.t (.sl (qE z))]:=rfl
def sC (n d:Int):List T:=[.bool (nB n),.sl (qE n),.bool (nB d),.sl (qE d)]
def sV (n d:Int):V:=.agg [.t (.bool (nB n)),.t (.sl (qE n)),.t (.bool (nB d)),.t (.sl (qE d))]
theorem A01 (z:Int) (hz:z.natAbs≤1000000000000000000):A4 Tryz.prog 123 [iV b4 .i64 z] (.tup [vI z,vB true]):=by
 have hlx:=An B1 z.natAbs
 have hx:=Ap B1 z.natAbs
 have hxl:=Cu (B:=b4) (n:=z.natAbs) (k:=5) B1 (by unfold b4;omega)
 have hsig : ∀i,A4 Tryz.prog 112 [vB (decide (z<0)),.t (.sl ((lE .i64 (Aa b4 z.natAbs)).drop i))] (iV b4 .i64 (Cl (decide (z<0)) (lvl b4 ((Aa b4 z.natAbs).drop i)))):=fun i=>by
  rw [V7]
  exact Cn _ (hx.drop i)
 have hcm : ∀n:Int,n.natAbs≤1000000000000000000→A4 Tryz.prog 156 [iV b4 .i64 n,iV b4 .i64 n] (vI 0):=fun n hn=>A2o n (by
  have:=Cu (B:=b4) (n:=n.natAbs) (k:=5) B1 (by unfold b4;omega)
  omega)
 have hof : ∀n:Int,n.natAbs≤1000000000000000000→A4 Tryz.prog 61 [vI n] (iV b4 .i64 n):=fun n hn=>Nn (by omega) (by omega)
 have hfz:z=Cl (decide (z<0)) z.natAbs:=by unfold Cl;by_cases h:z<0<;>simp [h]<;>omega
 have hle : ∀i,i≤(Aa b4 z.natAbs).length→lvl b4 ((Aa b4 z.natAbs).drop i)≤z.natAbs:=fun i hi=>by
  have hsp:=Ek b4 (Aa b4 z.natAbs) hi
  rw [hlx] at hsp
  have:=Nat.le_mul_of_pos_left (lvl b4 ((Aa b4 z.natAbs).drop i)) (Nat.pow_pos (n:=i) I7)
  omega
 have hnz:decide (z<0)=true→0<z.natAbs:=fun h=>by simp at h;omega
 rw [hfz]
 generalize z.natAbs=Z at *
 generalize decide (z<0)=nz at *
 have e0:iV b4 .i64 (Cl nz Z)=.agg [.t (.bool nz),.t (.sl (lE .i64 (Aa b4 Z)))]:=by
  have e1:(nz&&decide (0<Z))=nz:=by
   cases nz
   ·rfl
   ·simp [hnz rfl]
  unfold iV iC lT;rw [J6,M5,e1];rfl
 rw [e0]
 generalize Aa b4 Z=a at *
 simp only [iV4] at *
 (refine A4.of_code mix Tryz.call123 k_123 (by simp) (fun hB=>?_);(try simp at hB);(try simp -implicitDefEqProofs))
 refine A9 (X:=Nat) (fun k=>k≤a.length) (fun k=>[(1,.ptr 0 0),(4,vI (Cl nz (lvl b4 (a.drop k)))),(5,vI ((k:Int)-1))]) (fun _=>⟨[.cells [.t (.bool nz),.t (.sl (lE .i64 a))]],[]⟩) (fun k=>k) a.length (Nat.le_refl _) ?hs ?_
 case hs=>
  have e3:IntKind.i64.wrap ((a.length:Int)-1)=(a.length:Int)-1:=wrap64 (by omega) (by omega)
  have e4:Cl nz 0=0:=by unfold Cl;split<;>rfl
  simp [e3,lvl,e4]
 rintro k hk hbd
 clear hbd
 rcases Nat.eq_zero_or_pos k with k0|k0
 ·subst k0
  rw [List.drop_zero,hlx]
  (try simp -implicitDefEqProofs)
 ·obtain⟨i,rfl⟩ : ∃i,k=i+1:=⟨k-1,by omega⟩
  obtain⟨u,hu⟩:=Ad (show i<a.length by omega)
  have hub:=hx.at hu
  unfold b4 at hub
  have hdn:=D9 (B:=b4) hu
  have hl1:=hle i (by omega)
  have g1:=Bm (k:=.i64) hu
  have g2:=B8 (k:=.i64) hu
  have h5 : ¬(5:Int)<a.length:=by omega
  have h5' : ¬5<a.length:=by omega
  have i4:i<a.length:=by omega
  have i5:i≤a.length:=by omega
  have e3:IntKind.i64.wrap ((i:Int)-1)=(i:Int)-1:=wrap64 (by omega) (by omega)
  have hsg:=hsig i
  obtain⟨W,hW⟩ : ∃W,W=Cl nz (lvl b4 (a.drop i)):=⟨_,rfl⟩
  obtain⟨W1,hW1⟩ : ∃W1,W1=Cl nz (lvl b4 (a.drop (i+1))):=⟨_,rfl⟩
  rw [←hW] at hsg
  have hWb:W.natAbs≤1000000000000000000:=by rw [hW,J6];omega
  have ho:=hof W hWb
  have hc:=hcm W hWb
  rw [←hW1]
  have hdn':lvl b4 (a.drop i)=u+10000*lvl b4 (a.drop (i+1)):=hdn
  have htk:(lE .i64 a).take a.length=lE .i64 a:=List.take_of_length_le (by simp)
  cases nz
  ·have f1:W=W1*10000+u:=by rw [hW,hW1,hdn'];unfold Cl;simp;omega
   have f0:0≤W1:=by rw [hW1];unfold Cl;simp
   have w1:IntKind.i64.wrap (W1*10000)=W1*10000:=wrap64 (by omega) (by omega)
   have w2:IntKind.i64.wrap (W1*10000+(u:Int))=W:=by rw [wrap64 (by omega) (by omega)];omega
   ((try simp at ho hsg hc);(try simp -implicitDefEqProofs [g1,g2,h5,i4,i5,e3,w1,w2,htk,h5']);repeat' first|(with_reducible apply A0<;>first|(simp only [eras,era,A1];first|with_reducible assumption)|(simp -implicitDefEqProofs [g1,g2,h5,i4,i5,e3,w1,w2,htk,h5'])))
   refine⟨J5 _ _,?_⟩
   ((try simp at hsg hc);(try simp -implicitDefEqProofs [e3,htk]);repeat' first|(with_reducible apply A0<;>first|(simp only [eras,era,A1];first|with_reducible assumption)|(simp -implicitDefEqProofs [e3,htk])))
   exact⟨i,by omega,by omega,by rw [hW],rfl⟩
  ·have f1:W=W1*10000-u:=by rw [hW,hW1,hdn'];unfold Cl;simp;omega
   have f0:W1≤0:=by rw [hW1];unfold Cl;simp
   have w0:IntKind.i64.wrap (-(u:Int)) = -(u:Int):=wrap64 (by omega) (by omega)
   have w1:IntKind.i64.wrap (W1*10000)=W1*10000:=wrap64 (by omega) (by omega)
   have w2:IntKind.i64.wrap (W1*10000 + -(u:Int))=W:=by rw [wrap64 (by omega) (by omega)];omega
   ((try simp at ho hsg hc);(try simp -implicitDefEqProofs [g1,g2,h5,i4,i5,e3,w0,w1,w2,htk,h5']);repeat' first|(with_reducible apply A0<;>first|(simp only [eras,era,A1];first|with_reducible assumption)|(simp -implicitDefEqProofs [g1,g2,h5,i4,i5,e3,w0,w1,w2,htk,h5'])))
   refine⟨J5 _ _,?_⟩
   ((try simp at hsg hc);(try simp -implicitDefEqProofs [e3,htk]);repeat' first|(with_reducible apply A0<;>first|(simp only [eras,era,A1];first|with_reducible assumption)|(simp -implicitDefEqProofs [e3,htk])))
   exact⟨i,by omega,by omega,by rw [hW],rfl⟩
theorem Sm.len4 {z:Int} (h:Sm z):(Aa b4 z.natAbs).length≤900:=by
 have:=Cu (B:=b4) (n:=z.natAbs) (k:=7) B1 (by unfold Sm at h;unfold b4;omega)
 omega
theorem A5u {n:Int} {d:Nat} (hn:Sm n) (hd:0<d) (hdb:d<b9):A4 Tryz.prog 111 [iV b4 .i64 n,iV b4 .i64 d] (.tup [sV (Ci n d) (Cj n d),vI 0]):=by
 have hdn:((d:Int)).natAbs=d:=Int.natAbs_natCast d
 have hdS:Sm (d:Int):=by unfold Sm;unfold b9 at hdb;omega
 have hg:=A5t n d hn.len4 hdS.len4
 rw [hdn] at hg
 have hg0:=J4 (a:=n) hd
 have hgd:Nat.gcd n.natAbs d≤d:=Nat.gcd_le_right _ hd
 have hgS:Sm ((Nat.gcd n.natAbs d:Nat):Int):=by unfold Sm;unfold b9 at hdb;omega
 have hs:=J7 (d:Int)
 have s1:sgn (d:Int)=1:=by unfold sgn;rw [if_neg (by omega),if_neg (by omega)]
 rw [s1] at hs
 have q1:=K3 n (Nat.gcd n.natAbs d:Nat) hn.len4 hgS.len4 (by omega)
 have q2:=K3 d (Nat.gcd n.natAbs d:Nat) hdS.len4 hgS.len4 (by omega)
 have e2:(d:Int).tdiv (Nat.gcd n.natAbs d:Nat)=(Cj n d:Nat):=rfl
 have e1:n.tdiv (Nat.gcd n.natAbs d:Nat)=Ci n d:=rfl
 rw [e1] at q1
 rw [e2] at q2
 generalize Ci n d=a at *
 generalize Cj n d=b at *
 generalize Nat.gcd n.natAbs d=g at *
 generalize n.tmod (g:Nat)=m1 at *
 generalize (d:Int).tmod (g:Nat)=m2 at *
 simp only [iV4] at *
 unfold sV
 (refine A4.of_code mix Tryz.call111 k_111 (by simp) (fun hB=>?_);(try simp at hB);(try simp -implicitDefEqProofs))
 ((try simp at hg hs q1 q2);(try simp -implicitDefEqProofs);repeat' first|(with_reducible apply A0<;>first|(simp only [eras,era,A1];first|with_reducible assumption)|(simp -implicitDefEqProofs)))
theorem P3 {n:Int} {d:Nat} (hn:Sm n) (hd:0<d) (hdb:d<b9):A4 Tryz.prog 60 [iV b4 .i64 n,iV b4 .i64 d] (sV (Ci n d) (Cj n d)):=by
 have hr:=A5u hn hd hdb
 generalize Ci n d=a at *
 generalize Cj n d=b at *
 simp only [iV4] at *
 unfold sV at *
 (refine A4.of_code mix Tryz.call60 k_60 (by simp) (fun hB=>?_);(try simp at hB);(try simp -implicitDefEqProofs))
 ((try simp at hr);(try simp -implicitDefEqProofs);repeat' first|(with_reducible apply A0<;>first|(simp only [eras,era,A1];first|with_reducible assumption)|(simp -implicitDefEqProofs)))
theorem A5v {n:Int} (h1 : -9223372036854775808≤n) (h2:n≤9223372036854775807):A4 Tryz.prog 126 [vI n] (sV n 1):=by
 have hr:=P3 (n:=n) (d:=1) (by unfold Sm;omega) (by decide) (by decide)
 have e1:Ci n 1=n:=by unfold Ci;rw [Nat.gcd_one_right];simp
 have e2:Cj n 1=1:=by unfold Cj;simp
 rw [e1,e2] at hr
 have o1:=Nn h1 h2
 have o2:=Nn (n:=1) (by omega) (by omega)
 have e3:((1:Nat):Int)=1:=rfl
 rw [e3] at hr
 simp only [iV4] at *
 unfold sV at *
 (refine A4.of_code mix Tryz.call126 k_126 (by simp) (fun hB=>?_);(try simp at hB);(try simp -implicitDefEqProofs))
 ((try simp at o1 o2 hr);(try simp -implicitDefEqProofs);repeat' first|(with_reducible apply A0<;>first|(simp only [eras,era,A1];first|with_reducible assumption)|(simp -implicitDefEqProofs)))
theorem A02 {n:Int} (h1 : -9223372036854775808≤n) (h2:n≤9223372036854775807):A4 Tryz.prog 26 [vI n] (sV (Ci n 10000) (Cj n 10000)):=by
 have hr:=P3 (n:=n) (d:=10000) (by unfold Sm;omega) (by decide) (by decide)
 have o1:=Nn h1 h2
 have o2:=Nn (n:=10000) (by omega) (by omega)
 have e3:((10000:Nat):Int)=10000:=rfl
 generalize Ci n 10000=a at *
 generalize Cj n 10000=b at *
 rw [e3] at hr
 simp only [iV4] at *
 unfold sV at *
 (refine A4.of_code mix Tryz.call26 k_26 (by simp) (fun hB=>?_);(try simp at hB);(try simp -implicitDefEqProofs))
 ((try simp at o1 o2 hr);(try simp -implicitDefEqProofs);repeat' first|(with_reducible apply A0<;>first|(simp only [eras,era,A1];first|with_reducible assumption)|(simp -implicitDefEqProofs)))
theorem Mh (n:Int) {d:Nat} (hd:0<d):A4 Tryz.prog 157 [sV n d] (.tup [iV b4 .i64 n,iV b4 .i64 d]):=by
 have hs:=J7 (d:Int)
 have s1:sgn (d:Int)=1:=by unfold sgn;rw [if_neg (by omega),if_neg (by omega)]
 rw [s1] at hs
 simp only [iV4] at *
 unfold sV at *
 (refine A4.of_code mix Tryz.call157 k_157 (by simp) (fun hB=>?_);(try simp at hB);(try simp -implicitDefEqProofs))
 ((try simp at hs);(try simp -implicitDefEqProofs);repeat' first|(with_reducible apply A0<;>first|(simp only [eras,era,A1];first|with_reducible assumption)|(simp -implicitDefEqProofs)))
theorem A2p {a c:Int} {b d:Nat} (hac:Sm (a*c)) (ha:Sm a) (hc:Sm c) (hb:0<b) (hd:0<d) (hbd:b*d<b9):A4 Tryz.prog 125 [sV a b,sV c d] (sV (Ci (a*c) (b*d)) (Cj (a*c) (b*d))):=by
 have hbd0:0<b*d:=Nat.mul_pos hb hd
 have hb':b<b9:=Nat.lt_of_le_of_lt (Nat.le_mul_of_pos_right _ hd) hbd
 have hd':d<b9:=Nat.lt_of_le_of_lt (Nat.le_mul_of_pos_left _ hb) hbd
 have hr:=P3 hac hbd0 hbd
 have p1:=Mh a hb
 have p2:=Mh c hd
 have m1:=P2 a c ha.len4 hc.len4
 have m2:=P2 b d (Sm.len4 (by unfold Sm;unfold b9 at hb';omega)) (Sm.len4 (by unfold Sm;unfold b9 at hd';omega))
 rw [←Int.natCast_mul] at m2
 generalize b*d=e at *
 generalize a*c=f at *
 generalize Ci f e=x at *
 generalize Cj f e=y at *
 simp only [iV4] at *
 unfold sV at *
 (refine A4.of_code mix Tryz.call125 k_125 (by simp) (fun hB=>?_);(try simp at hB);(try simp -implicitDefEqProofs))
 ((try simp at p1 p2 m1 m2 hr);(try simp -implicitDefEqProofs);repeat' first|(with_reducible apply A0<;>first|(simp only [eras,era,A1];first|with_reducible assumption)|(simp -implicitDefEqProofs)))
theorem A03 {a:Int} {b:Nat} (ha:a.natAbs≤1000000000000000000) (hb:0<b) (hbb:2*b<b9):A4 Tryz.prog 124 [sV a b] (iV b4 .i64 (rnd a b)):=by
 have p1:=Mh a hb
 have s1:=J7 a
 have ab:=A5c a
 have hb1:Sm (b:Int):=by unfold Sm;unfold b9 at hbb;omega
 have h2S:Sm (2:Int):=by unfold Sm;omega
 have haS:Sm (a.natAbs:Int):=by unfold Sm;omega
 have o2:=Nn (n:=2) (by omega) (by omega)
 have m1:=P2 2 a.natAbs h2S.len4 haS.len4
 have m2:=P2 2 b h2S.len4 hb1.len4
 have e1:(2:Int)*(a.natAbs:Int)=((2*a.natAbs:Nat):Int):=by omega
 have e2:(2:Int)*(b:Int)=((2*b:Nat):Int):=by omega
 rw [e1] at m1
 rw [e2] at m2
 have k1:=Vg ((2*a.natAbs:Nat):Int) b (Sm.len4 (by unfold Sm;omega)) hb1.len4 (by
  have h1 : ¬((2*a.natAbs:Nat):Int)<0:=by omega
  have h2 : ¬(b:Int)<0:=by omega
  simp only [h1,h2])
 rw [←Int.natCast_add] at k1
 have q:=K3 ((2*a.natAbs+b:Nat):Int) ((2*b:Nat):Int) (Sm.len4 (by unfold Sm;unfold b9 at hbb;omega)) (Sm.len4 (by unfold Sm;unfold b9 at hbb;omega)) (by omega)
 have eq:((2*a.natAbs+b:Nat):Int).tdiv ((2*b:Nat):Int)=(((2*a.natAbs+b) / (2*b):Nat):Int):=rfl
 rw [eq] at q
 have ng:=Z5 ((((2*a.natAbs+b) / (2*b):Nat)):Int)
 have hR:rnd a b=if a<0 then -((((2*a.natAbs+b) / (2*b):Nat)):Int) else ((((2*a.natAbs+b) / (2*b):Nat)):Int):=rfl
 rw [hR]
 generalize ((((2*a.natAbs+b) / (2*b):Nat)):Int)=R at *
 generalize ((2*a.natAbs+b:Nat):Int).tmod ((2*b:Nat):Int)=m at *
 generalize ((2*a.natAbs+b:Nat):Int)=u at *
 generalize ((2*a.natAbs:Nat):Int)=w at *
 generalize ((2*b:Nat):Int)=v at *
 clear hR e1 e2 eq
 generalize hx:(a.natAbs:Int)=x at *
 by_cases h:a<0
 ·have s2:sgn a<0:=by unfold sgn;rw [if_pos h];omega
  rw [if_pos h]
  simp only [iV4] at *
  unfold sV at *
  (refine A4.of_code mix Tryz.call124 k_124 (by simp) (fun hB=>?_);(try simp at hB);(try simp -implicitDefEqProofs))
  ((try simp at p1 s1 ab o2 m1 k1 m2 q ng);(try simp -implicitDefEqProofs [s2]);repeat' first|(with_reducible apply A0<;>first|(simp only [eras,era,A1];first|with_reducible assumption)|(simp -implicitDefEqProofs [s2])))
  repeat' with_reducible apply And.intro
  all_goals ((try simp at s1 ng);(try simp -implicitDefEqProofs [s2]);repeat' first|(with_reducible apply A0<;>first|(simp only [eras,era,A1];first|with_reducible assumption)|(simp -implicitDefEqProofs [s2])))
 ·have s2 : ¬sgn a<0:=by unfold sgn;rw [if_neg h];split<;>omega
  rw [if_neg h]
  simp only [iV4] at *
  unfold sV at *
  (refine A4.of_code mix Tryz.call124 k_124 (by simp) (fun hB=>?_);(try simp at hB);(try simp -implicitDefEqProofs))
  ((try simp at p1 s1 ab o2 m1 k1 m2 q ng);(try simp -implicitDefEqProofs [s2]);repeat' first|(with_reducible apply A0<;>first|(simp only [eras,era,A1];first|with_reducible assumption)|(simp -implicitDefEqProofs [s2])))
  repeat' with_reducible apply And.intro
  all_goals ((try simp at s1 ng);(try simp -implicitDefEqProofs [s2]);repeat' first|(with_reducible apply A0<;>first|(simp only [eras,era,A1];first|with_reducible assumption)|(simp -implicitDefEqProofs [s2])))
theorem A04 (n p:Int) (q:Nat) (hp:p.natAbs≤100000) (hq:0<q) (hqb:q≤100000):A4 Tryz.prog 81 [vI n,sV p q] (.tup [vI (Dw n p q).1,vI (Dw n p q).2]):=by
 have a1:=Bn n
 unfold Dw
 cases hn:Ah n
 ·rw [hn] at a1
  unfold sV
  (refine A4.of_code mix Tryz.call81 k_81 (by simp) (fun hB=>?_);(try simp at hB);(try simp -implicitDefEqProofs))
  ((try simp at a1);(try simp -implicitDefEqProofs);repeat' first|(with_reducible apply A0<;>first|(simp only [eras,era,A1];first|with_reducible assumption)|(simp -implicitDefEqProofs)))
 ·rw [hn] at a1
  have hnb:=Vb hn
  have hmul:(n*p).natAbs≤100000000000000000:=by
   rw [Int.natAbs_mul]
   exact Nat.le_trans (Nat.mul_le_mul hnb hp) (by decide)
  have o:=A5v (n:=n) (by omega) (by omega)
  have e1:((1:Nat):Int)=1:=rfl
  have m:=A2p (a:=n) (c:=p) (b:=1) (d:=q) (by unfold Sm;omega) (by unfold Sm;omega) (by unfold Sm;omega) (by decide) hq (by unfold b9;omega)
  rw [Nat.one_mul,e1] at m
  have hl1:=Oq (a:=n*p) hq
  have hl2:=Tr (a:=n*p) (q:=q)
  have hl3:=Oo (a:=n*p) hq
  have r:=A03 (a:=Ci (n*p) q) (b:=Cj (n*p) q) (by omega) hl3 (by unfold b9;omega)
  rw [V4 hq] at r
  have hrb:=V5 (a:=n*p) hq
  have sm:=A01 (rnd (n*p) q) (by omega)
  have a2:=Bn (rnd (n*p) q)
  generalize Ci (n*p) q=x at *
  generalize Cj (n*p) q=y at *
  generalize rnd (n*p) q=z at *
  simp only [iV4] at *
  unfold sV at *
  cases hz:Ah z
  ·rw [hz] at a2
   (refine A4.of_code mix Tryz.call81 k_81 (by simp) (fun hB=>?_);(try simp at hB);(try simp -implicitDefEqProofs))
   ((try simp at a1 a2 o m r sm);(try simp -implicitDefEqProofs);repeat' first|(with_reducible apply A0<;>first|(simp only [eras,era,A1];first|with_reducible assumption)|(simp -implicitDefEqProofs)))
  ·rw [hz] at a2
   (refine A4.of_code mix Tryz.call81 k_81 (by simp) (fun hB=>?_);(try simp at hB);(try simp -implicitDefEqProofs))
   ((try simp at a1 a2 o m r sm);(try simp -implicitDefEqProofs);repeat' first|(with_reducible apply A0<;>first|(simp only [eras,era,A1];first|with_reducible assumption)|(simp -implicitDefEqProofs)))
def Gj (op:Int):Int×Int:=if 1≤op∧op≤4 then (0,1) else if 5≤op∧op≤9 then (1,1) else if 10≤op∧op≤22 then (2,1) else if 23≤op∧op≤25 then (1,0) else (0,0)
def A05 (op:Int):Int:=if op=3∨op=4 then 2 else if op=1∨op=2∨op=9∨op=23∨op=25∨op=26 then 1 else 0
def Nw (x:Ins) (loc:Int) (pair:Bool):Bool:=
 if x.op=1 then Ah x.a
 else if x.op=2 then decide (0≤x.a)&&decide (x.a<loc)
 else if x.op=3∨x.op=4 then Fp x.a&&Fp x.b&&decide (x.a≤x.b)&&(pair||(x.op==3))
 else if x.op=9 then decide (1≤x.a)&&decide (x.a≤1000000000000)
 else if x.op=23 then (x.a==loc)
 else if x.op=25∨x.op=26 then Fp x.a
 else (x.a==0)

theorem Gb (op:Int):A4 Tryz.prog 78 [vI op] (.tup [vI (Gj op).1,vI (Gj op).2]):=by
 unfold Gj
 (refine A4.of_code mix Tryz.call78 k_78 (by simp) (fun hB=>?_);(try simp at hB);(try simp -implicitDefEqProofs))
 ((try simp -implicitDefEqProofs);repeat' first|((with_reducible first|apply A7|apply A8|apply A3)<;>(intro hc;have hc':=hc;(try simp at hc');simp -implicitDefEqProofs [hc,hc'])))
 all_goals ((repeat' split)<;>simp_all<;>omega)
theorem Mi (op:Int):A4 Tryz.prog 165 [vI op] (vI (A05 op)):=by
 unfold A05
 (refine A4.of_code mix Tryz.call165 k_165 (by simp) (fun hB=>?_);(try simp at hB);(try simp -implicitDefEqProofs))
 ((try simp -implicitDefEqProofs);repeat' first|((with_reducible first|apply A7|apply A8|apply A3)<;>(intro hc;have hc':=hc;(try simp at hc');simp -implicitDefEqProofs [hc,hc'])))
 all_goals ((repeat' split)<;>simp_all)
theorem Ji (x:Ins) (loc:Int) (pair:Bool):A4 Tryz.prog 166 [x.v,vI loc,vB pair] (vB (Nw x loc pair)):=by
 obtain⟨op,a,b⟩:=x
 unfold Nw
 (refine A4.of_code mix Tryz.call166 k_166 (by simp) (fun hB=>?_);(try simp at hB);(try simp -implicitDefEqProofs))
 ((try simp -implicitDefEqProofs);repeat' first|((with_reducible first|apply A7|apply A8|apply A3)<;>(intro hc;have hc':=hc;(try simp at hc');simp -implicitDefEqProofs [hc,hc']))|(with_reducible apply A0<;>first|(simp only [eras,era,A1];first|with_reducible exact (Bn _)|with_reducible exact (Zh _)|simpa using (Bn _)|simpa using (Zh _))|(simp -implicitDefEqProofs)))
end Go.Proofs.YtmlpmdccfmmpoaaGreatDoor
