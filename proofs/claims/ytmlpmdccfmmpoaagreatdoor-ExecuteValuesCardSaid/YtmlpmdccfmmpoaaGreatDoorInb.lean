/- Quotients of integers: the reference's. -/
import Derived.Test.YtmlpmdccfmmpoaaGreatDoorIn5
import Derived.Test.YtmlpmdccfmmpoaaGreatDoorIn8
import Derived.Test.YtmlpmdccfmmpoaaGreatDoorIn9
import Derived.Test.YtmlpmdccfmmpoaaGreatDoorExM
set_option linter.unusedSimpArgs false
set_option linter.unusedVariables false
set_option maxHeartbeats 2000000
set_option maxRecDepth 8000
namespace Go.Proofs.YtmlpmdccfmmpoaaGreatDoor
open E
theorem Mw (x y:Int) (hxl:(A5 b4 x.natAbs).length≤900) (hyl:(A5 b4 y.natAbs).length≤900):A3 Tryz.prog 159 [iV b4 .i64 x,iV b4 .i64 y] (iV b4 .i64 (x*y)):=by
 have ht:=Ww x.natAbs y.natAbs (by omega) (by omega)
 have hs:=fun neg=>Br (l:=A5 b4 (x.natAbs*y.natAbs)) neg (Am Au _)
 have hm:=Oo x y
 rw [Aj Au] at hs
 unfold iV iC lT at *
 generalize decide (x<0)=nx at *
 generalize decide (y<0)=ny at *
 have hs:=hs (nx != ny)
 rw [hm] at hs
 have e:(nx != ny)=(!nx==ny):=by cases nx<;>cases ny<;>rfl
 rw [e] at hs
 (refine A3.of_code mix Tryz.call159 k_159 (by simp) (fun hB=>?_);(try simp at hB);(try simp -implicitDefEqProofs))
 ((try simp at ht hs);(try simp -implicitDefEqProofs);repeat' first|(with_reducible apply A0<;>first|(simp only [eras,era,A1];first|with_reducible assumption)|(simp -implicitDefEqProofs)))
theorem S9 (x y:Int) (hxl:(A5 b4 x.natAbs).length≤900) (hyl:(A5 b4 y.natAbs).length≤900) (hsg:decide (x<0)=decide (y<0)):A3 Tryz.prog 158 [iV b4 .i64 x,iV b4 .i64 y] (iV b4 .i64 (x+y)):=by
 have ht:=A28 x.natAbs y.natAbs (by omega) (by omega)
 have hs:=Br (l:=G3 b4 x.natAbs y.natAbs) (decide (x<0)) (Oe Gn _ _)
 have hm:Bq (decide (x<0)) (x.natAbs+y.natAbs)=x+y:=by
  unfold Bq
  by_cases h1:x<0
  ·have h2:y<0:=by simpa [h1] using hsg
   simp [h1];omega
  ·have h2 : ¬y<0:=by simpa [h1] using hsg
   simp [h1];omega
 rw [Of Au,hm] at hs
 unfold iV iC lT at *
 rw [←hsg]
 generalize decide (x<0)=nx at *
 (refine A3.of_code mix Tryz.call158 k_158 (by simp) (fun hB=>?_);(try simp at hB);(try simp -implicitDefEqProofs))
 ((try simp at ht hs);(try simp -implicitDefEqProofs);repeat' first|(with_reducible apply A0<;>first|(simp only [eras,era,A1];first|with_reducible assumption)|(simp -implicitDefEqProofs)))
theorem I1 (x y:Int) (hxl:(A5 b4 x.natAbs).length≤900) (hyl:(A5 b4 y.natAbs).length≤900) (hy0:y≠0):A3 Tryz.prog 148 [iV b4 .i64 x,iV b4 .i64 y] (.tup [iV b4 .i64 (x.tdiv y),iV b4 .i64 (x.tmod y),.t (.int .i64 0)]):=by
 have hy0':0<y.natAbs:=by omega
 have hd:=A0l x.natAbs y.natAbs hxl hyl hy0'
 have s1:=He y
 have s0:(sgn y==0)=false:=by unfold sgn;split<;>(try split)<;>simp<;>omega
 have hs1:=Br (l:=A5 b4 (x.natAbs / y.natAbs)) (decide (x<0) != decide (y<0)) (Am Au _)
 have hs2:=Br (l:=A5 b4 (x.natAbs % y.natAbs)) (decide (x<0)) (Am Au _)
 rw [Aj Au,Oq] at hs1
 rw [Aj Au,Or] at hs2
 unfold iV iC lT at *
 generalize decide (x<0)=nx at *
 generalize decide (y<0)=ny at *
 have e:(nx != ny)=(!nx==ny):=by cases nx<;>cases ny<;>rfl
 rw [e] at hs1
 (refine A3.of_code mix Tryz.call148 k_148 (by simp) (fun hB=>?_);(try simp at hB);(try simp -implicitDefEqProofs))
 ((try simp at hd s1 hs1 hs2);(try simp -implicitDefEqProofs [s0]);repeat' first|(with_reducible apply A0<;>first|(simp only [eras,era,A1];first|with_reducible assumption)|(simp -implicitDefEqProofs [s0])))
theorem A29 (x y:Int) (hxl:(A5 b4 x.natAbs).length≤900) (hyl:(A5 b4 y.natAbs).length≤900):A3 Tryz.prog 147 [iV b4 .i64 x,iV b4 .i64 y] (iV b4 .i64 (Nat.gcd x.natAbs y.natAbs:Nat)):=by
 have hsg : ∀n:Nat,A3 Tryz.prog 112 [vB false,.t (.sl (lE .i64 (A5 b4 n)))] (.agg [.t (.bool false),.t (.sl (lE .i64 (A5 b4 n)))]):=fun n=>by
  have:=Br false (Am Au n)
  rw [Aj Au] at this
  have e:Bq false n=(n:Int):=rfl
  rw [e] at this
  unfold iV iC lT at this
  have e2:decide ((n:Int)<0)=false:=by simp
  simp only [e2,Int.natAbs_natCast,List.map_cons,List.map_nil] at this
  exact this
 have e0:decide (((Nat.gcd x.natAbs y.natAbs:Nat):Int)<0)=false:=by simp
 unfold iV iC lT
 rw [e0,Int.natAbs_natCast]
 (refine A3.of_code mix Tryz.call147 k_147 (by simp) (fun hB=>?_);(try simp at hB);(try simp -implicitDefEqProofs))
 refine A6 (X:=Nat×Nat) (fun X=>Nat.gcd X.1 X.2=Nat.gcd x.natAbs y.natAbs∧(A5 b4 X.2).length≤900∧(A5 b4 X.1).length≤900) (fun X=>[(4,.ptr 2 0),(5,.t (.sl (lE .i64 (A5 b4 X.1)))),(6,.t (.sl (lE .i64 (A5 b4 X.2))))]) (fun X=>⟨[.cells [.t (.bool (decide (x<0))),.t (.sl (lE .i64 (A5 b4 x.natAbs)))],.cells [.t (.bool (decide (y<0))),.t (.sl (lE .i64 (A5 b4 y.natAbs)))],.cells [.t (.bool false),.snil]],[]⟩) (fun X=>X.2) (x.natAbs,y.natAbs) ⟨rfl,hyl,hxl⟩ ?hs ?_
 case hs=>simp
 rintro ⟨a,b⟩ ⟨hg,hb,hal⟩ hbd
 simp only [] at hg hb hal
 clear hbd
 rcases Nat.eq_zero_or_pos b with b0|b0
 ·subst b0
  rw [Nat.gcd_zero_right] at hg
  have hs:=hsg a
  rw [←hg]
  ((try simp at hs);(try simp -implicitDefEqProofs [As,Cn]);repeat' first|(with_reducible apply A0<;>first|(simp only [eras,era,A1];first|with_reducible assumption)|(simp -implicitDefEqProofs [As,Cn])))
 ·have hdv:=A0l a b hal hb b0
  unfold lT at hdv
  have hlt:=Nat.mod_lt a b0
  have hlp:0<(A5 b4 b).length:=Ct Au (by omega)
  have hle:=E6 (B:=b4) Au (Nat.le_of_lt hlt)
  ((try simp at hdv);(try simp -implicitDefEqProofs [hlp]);repeat' first|(with_reducible apply A0<;>first|(simp only [eras,era,A1];first|with_reducible assumption)|(simp -implicitDefEqProofs [hlp])))
  refine⟨b,a % b,⟨?_,by omega,by omega⟩,hlt,rfl,rfl⟩
  rw [←hg,Nat.gcd_comm b,←Nat.gcd_rec,Nat.gcd_comm]
theorem Zc (z:Int) (hzl:(A5 b4 z.natAbs).length≤900):A3 Tryz.prog 156 [iV b4 .i64 z,iV b4 .i64 z] (vI 0):=by
 have hn:=Vv z
 have hsg:=He 0
 have s0:sgn 0=0:=rfl
 rw [s0] at hsg
 have hadd:A3 Tryz.prog 158 [iV b4 .i64 z,iV b4 .i64 (-z)] (iV b4 .i64 0):=by
  by_cases h0:z=0
  ·subst h0
   rw [Int.neg_zero]
   exact S9 0 0 hzl hzl rfl
  ·have hc:=Rz z.natAbs z.natAbs
   have c0:Ca z.natAbs z.natAbs=0:=by simp [Ca]
   rw [c0] at hc
   have hs:=Wv z.natAbs z.natAbs (by omega) (Nat.le_refl _)
   rw [Nat.sub_self] at hs
   have hsn:=Br (decide (z<0)) (Am Au 0)
   rw [Aj Au] at hsn
   have e0:Bq (decide (z<0)) 0=0:=by unfold Bq;split<;>rfl
   rw [e0] at hsn
   unfold iV iC lT at *
   rw [Int.natAbs_neg]
   generalize lE .i64 (A5 b4 z.natAbs)=L at *
   by_cases h:z<0
   ·have d1:decide (z<0)=true:=by simp [h]
    have d2:decide (-z<0)=false:=by simp;omega
    rw [d1] at hsn
    rw [d1,d2]
    (refine A3.of_code mix Tryz.call158 k_158 (by simp) (fun hB=>?_);(try simp at hB);(try simp -implicitDefEqProofs))
    ((try simp at hc hs hsn);(try simp -implicitDefEqProofs);repeat' first|(with_reducible apply A0<;>first|(simp only [eras,era,A1];first|with_reducible assumption)|(simp -implicitDefEqProofs)))
   ·have d1:decide (z<0)=false:=by simp [h]
    have d2:decide (-z<0)=true:=by simp;omega
    rw [d1] at hsn
    rw [d1,d2]
    (refine A3.of_code mix Tryz.call158 k_158 (by simp) (fun hB=>?_);(try simp at hB);(try simp -implicitDefEqProofs))
    ((try simp at hc hs hsn);(try simp -implicitDefEqProofs);repeat' first|(with_reducible apply A0<;>first|(simp only [eras,era,A1];first|with_reducible assumption)|(simp -implicitDefEqProofs)))
 have hsub:A3 Tryz.prog 182 [iV b4 .i64 z,iV b4 .i64 z] (iV b4 .i64 0):=by
  generalize hw : -z=w at *
  clear hw hsg hzl
  unfold iV iC lT at *
  generalize decide (z<0)=a1 at *
  generalize lE .i64 (A5 b4 z.natAbs)=a2 at *
  generalize decide (w<0)=a3 at *
  generalize lE .i64 (A5 b4 w.natAbs)=a4 at *
  (refine A3.of_code mix Tryz.call182 k_182 (by simp) (fun hB=>?_);(try simp at hB);(try simp -implicitDefEqProofs))
  ((try simp at hn hadd);(try simp -implicitDefEqProofs);repeat' first|(with_reducible apply A0<;>first|(simp only [eras,era,A1];first|with_reducible assumption)|(simp -implicitDefEqProofs)))
 clear hadd hn hzl
 unfold iV iC lT at *
 generalize decide (z<0)=a1 at *
 generalize lE .i64 (A5 b4 z.natAbs)=a2 at *
 (refine A3.of_code mix Tryz.call156 k_156 (by simp) (fun hB=>?_);(try simp at hB);(try simp -implicitDefEqProofs))
 ((try simp at hsub hsg);(try simp -implicitDefEqProofs);repeat' first|(with_reducible apply A0<;>first|(simp only [eras,era,A1];first|with_reducible assumption)|(simp -implicitDefEqProofs)))
def qE (z:Int):List (List T):=lE .i64 (A5 b4 z.natAbs)
theorem iV4 (z:Int):iV b4 .i64 z=.agg [.t (.bool (nB z)),.t (.sl (qE z))]:=rfl
def sC (n d:Int):List T:=[.bool (nB n),.sl (qE n),.bool (nB d),.sl (qE d)]
def sV (n d:Int):V:=.agg [.t (.bool (nB n)),.t (.sl (qE n)),.t (.bool (nB d)),.t (.sl (qE d))]
theorem Wx (z:Int) (hz:z.natAbs≤1000000000000000000):A3 Tryz.prog 123 [iV b4 .i64 z] (.tup [vI z,vB true]):=by
 have hlx:=Aj Au z.natAbs
 have hx:=Am Au z.natAbs
 have hxl:=C4 (B:=b4) (n:=z.natAbs) (k:=5) Au (by unfold b4;omega)
 have hsig : ∀i,A3 Tryz.prog 112 [vB (decide (z<0)),.t (.sl ((lE .i64 (A5 b4 z.natAbs)).drop i))] (iV b4 .i64 (Bq (decide (z<0)) (lvl b4 ((A5 b4 z.natAbs).drop i)))):=fun i=>by
  rw [Ry]
  exact Br _ (hx.drop i)
 have hcm : ∀n:Int,n.natAbs≤1000000000000000000→A3 Tryz.prog 156 [iV b4 .i64 n,iV b4 .i64 n] (vI 0):=fun n hn=>Zc n (by
  have:=C4 (B:=b4) (n:=n.natAbs) (k:=5) Au (by unfold b4;omega)
  omega)
 have hof : ∀n:Int,n.natAbs≤1000000000000000000→A3 Tryz.prog 61 [vI n] (iV b4 .i64 n):=fun n hn=>Lf (by omega) (by omega)
 have hfz:z=Bq (decide (z<0)) z.natAbs:=by unfold Bq;by_cases h:z<0<;>simp [h]<;>omega
 have hle : ∀i,i≤(A5 b4 z.natAbs).length→lvl b4 ((A5 b4 z.natAbs).drop i)≤z.natAbs:=fun i hi=>by
  have hsp:=Dj b4 (A5 b4 z.natAbs) hi
  rw [hlx] at hsp
  have:=Nat.le_mul_of_pos_left (lvl b4 ((A5 b4 z.natAbs).drop i)) (Nat.pow_pos (n:=i) Gn)
  omega
 have hnz:decide (z<0)=true→0<z.natAbs:=fun h=>by simp at h;omega
 rw [hfz]
 generalize z.natAbs=Z at *
 generalize decide (z<0)=nz at *
 have e0:iV b4 .i64 (Bq nz Z)=.agg [.t (.bool nz),.t (.sl (lE .i64 (A5 b4 Z)))]:=by
  have e1:(nz&&decide (0<Z))=nz:=by
   cases nz
   ·rfl
   ·simp [hnz rfl]
  unfold iV iC lT;rw [Hd,Jz,e1];rfl
 rw [e0]
 generalize A5 b4 Z=a at *
 simp only [iV4] at *
 (refine A3.of_code mix Tryz.call123 k_123 (by simp) (fun hB=>?_);(try simp at hB);(try simp -implicitDefEqProofs))
 refine A6 (X:=Nat) (fun k=>k≤a.length) (fun k=>[(1,.ptr 0 0),(4,vI (Bq nz (lvl b4 (a.drop k)))),(5,vI ((k:Int)-1))]) (fun _=>⟨[.cells [.t (.bool nz),.t (.sl (lE .i64 a))]],[]⟩) (fun k=>k) a.length (Nat.le_refl _) ?hs ?_
 case hs=>
  have e3:IntKind.i64.wrap ((a.length:Int)-1)=(a.length:Int)-1:=wrap64 (by omega) (by omega)
  have e4:Bq nz 0=0:=by unfold Bq;split<;>rfl
  simp [e3,lvl,e4]
 rintro k hk hbd
 clear hbd
 rcases Nat.eq_zero_or_pos k with k0|k0
 ·subst k0
  rw [List.drop_zero,hlx]
  (try simp -implicitDefEqProofs)
 ·obtain⟨i,rfl⟩ : ∃i,k=i+1:=⟨k-1,by omega⟩
  obtain⟨u,hu⟩:=Ab (show i<a.length by omega)
  have hub:=hx.at hu
  unfold b4 at hub
  have hdn:=Ch (B:=b4) hu
  have hl1:=hle i (by omega)
  have g1:=B7 (k:=.i64) hu
  have g2:=Ay (k:=.i64) hu
  have h5 : ¬(5:Int)<a.length:=by omega
  have h5' : ¬5<a.length:=by omega
  have i4:i<a.length:=by omega
  have i5:i≤a.length:=by omega
  have e3:IntKind.i64.wrap ((i:Int)-1)=(i:Int)-1:=wrap64 (by omega) (by omega)
  have hsg:=hsig i
  obtain⟨W,hW⟩ : ∃W,W=Bq nz (lvl b4 (a.drop i)):=⟨_,rfl⟩
  obtain⟨W1,hW1⟩ : ∃W1,W1=Bq nz (lvl b4 (a.drop (i+1))):=⟨_,rfl⟩
  rw [←hW] at hsg
  have hWb:W.natAbs≤1000000000000000000:=by rw [hW,Hd];omega
  have ho:=hof W hWb
  have hc:=hcm W hWb
  rw [←hW1]
  have hdn':lvl b4 (a.drop i)=u+10000*lvl b4 (a.drop (i+1)):=hdn
  have htk:(lE .i64 a).take a.length=lE .i64 a:=List.take_of_length_le (by simp)
  cases nz
  ·have f1:W=W1*10000+u:=by rw [hW,hW1,hdn'];unfold Bq;simp;omega
   have f0:0≤W1:=by rw [hW1];unfold Bq;simp
   have w1:IntKind.i64.wrap (W1*10000)=W1*10000:=wrap64 (by omega) (by omega)
   have w2:IntKind.i64.wrap (W1*10000+(u:Int))=W:=by rw [wrap64 (by omega) (by omega)];omega
   ((try simp at ho hsg hc);(try simp -implicitDefEqProofs [g1,g2,h5,i4,i5,e3,w1,w2,htk,h5']);repeat' first|(with_reducible apply A0<;>first|(simp only [eras,era,A1];first|with_reducible assumption)|(simp -implicitDefEqProofs [g1,g2,h5,i4,i5,e3,w1,w2,htk,h5'])))
   refine⟨Hc _ _,?_⟩
   ((try simp at hsg hc);(try simp -implicitDefEqProofs [e3,htk]);repeat' first|(with_reducible apply A0<;>first|(simp only [eras,era,A1];first|with_reducible assumption)|(simp -implicitDefEqProofs [e3,htk])))
   exact⟨i,by omega,by omega,by rw [hW],rfl⟩
  ·have f1:W=W1*10000-u:=by rw [hW,hW1,hdn'];unfold Bq;simp;omega
   have f0:W1≤0:=by rw [hW1];unfold Bq;simp
   have w0:IntKind.i64.wrap (-(u:Int)) = -(u:Int):=wrap64 (by omega) (by omega)
   have w1:IntKind.i64.wrap (W1*10000)=W1*10000:=wrap64 (by omega) (by omega)
   have w2:IntKind.i64.wrap (W1*10000 + -(u:Int))=W:=by rw [wrap64 (by omega) (by omega)];omega
   ((try simp at ho hsg hc);(try simp -implicitDefEqProofs [g1,g2,h5,i4,i5,e3,w0,w1,w2,htk,h5']);repeat' first|(with_reducible apply A0<;>first|(simp only [eras,era,A1];first|with_reducible assumption)|(simp -implicitDefEqProofs [g1,g2,h5,i4,i5,e3,w0,w1,w2,htk,h5'])))
   refine⟨Hc _ _,?_⟩
   ((try simp at hsg hc);(try simp -implicitDefEqProofs [e3,htk]);repeat' first|(with_reducible apply A0<;>first|(simp only [eras,era,A1];first|with_reducible assumption)|(simp -implicitDefEqProofs [e3,htk])))
   exact⟨i,by omega,by omega,by rw [hW],rfl⟩
end Go.Proofs.YtmlpmdccfmmpoaaGreatDoor
