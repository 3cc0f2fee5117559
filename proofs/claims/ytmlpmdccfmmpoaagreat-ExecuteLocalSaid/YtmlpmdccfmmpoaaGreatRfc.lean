/- Walks of chapter 34: Own, Size, Valid, Same, Few. -/
import Derived.Test.YtmlpmdccfmmpoaaGreatIn5
import Derived.Test.YtmlpmdccfmmpoaaGreatIn7
import Derived.Test.YtmlpmdccfmmpoaaGreatIn9
import Derived.Test.YtmlpmdccfmmpoaaGreatIn6
import Derived.Test.YtmlpmdccfmmpoaaGreatMea
set_option linter.unusedSimpArgs false
set_option linter.unusedVariables false
set_option maxHeartbeats 2000000
set_option maxRecDepth 8000
namespace Go.Proofs.YtmlpmdccfmmpoaaGreat
open E
theorem K8 (x y:Int) (hxl:(A4 b4 x.natAbs).length≤900) (hyl:(A4 b4 y.natAbs).length≤900) (hy0:y≠0):A7 Tryz.prog 86 [iV b4 .i64 x,iV b4 .i64 y] (.tup [iV b4 .i64 (x.tdiv y),iV b4 .i64 (x.tmod y),.t (.int .i64 0)]):=by
 have hy0':0<y.natAbs:=by omega
 have hd:=Vx x.natAbs y.natAbs hxl hyl hy0'
 have s1:=P1 y
 have s0:(sgn y==0)=false:=by unfold sgn;split<;>(try split)<;>simp<;>omega
 have hs1:=F4 (l:=A4 b4 (x.natAbs / y.natAbs)) (decide (x<0) != decide (y<0)) (Ak Bc _)
 have hs2:=F4 (l:=A4 b4 (x.natAbs % y.natAbs)) (decide (x<0)) (Ak Bc _)
 rw [Aj Bc,Mb] at hs1
 rw [Aj Bc,Mc] at hs2
 unfold iV iC lT at *
 generalize decide (x<0)=nx at *
 generalize decide (y<0)=ny at *
 have e:(nx != ny)=(!nx==ny):=by cases nx<;>cases ny<;>rfl
 rw [e] at hs1
 (refine A7.of_code mix Tryz.call86 k_86 (by simp) (fun hB=>?_);(try simp at hB);(try simp -implicitDefEqProofs))
 ((try simp at hd s1 hs1 hs2);(try simp -implicitDefEqProofs [s0]);repeat' first|(with_reducible apply A0<;>first|(simp only [eras,era,A1];first|with_reducible assumption)|(simp -implicitDefEqProofs [s0])))
theorem X2 (x y:Int) (hxl:(A4 b4 x.natAbs).length≤900) (hyl:(A4 b4 y.natAbs).length≤900):A7 Tryz.prog 85 [iV b4 .i64 x,iV b4 .i64 y] (iV b4 .i64 (Nat.gcd x.natAbs y.natAbs:Nat)):=by
 have hsg : ∀n:Nat,A7 Tryz.prog 64 [vB false,.t (.sl (lE .i64 (A4 b4 n)))] (.agg [.t (.bool false),.t (.sl (lE .i64 (A4 b4 n)))]):=fun n=>by
  have:=F4 false (Ak Bc n)
  rw [Aj Bc] at this
  have e:Du false n=(n:Int):=rfl
  rw [e] at this
  unfold iV iC lT at this
  have e2:decide ((n:Int)<0)=false:=by simp
  simp only [e2,Int.natAbs_natCast,List.map_cons,List.map_nil] at this
  exact this
 have e0:decide (((Nat.gcd x.natAbs y.natAbs:Nat):Int)<0)=false:=by simp
 unfold iV iC lT
 rw [e0,Int.natAbs_natCast]
 (refine A7.of_code mix Tryz.call85 k_85 (by simp) (fun hB=>?_);(try simp at hB);(try simp -implicitDefEqProofs))
 refine Ac (X:=Nat×Nat) (fun X=>Nat.gcd X.1 X.2=Nat.gcd x.natAbs y.natAbs∧(A4 b4 X.2).length≤900∧(A4 b4 X.1).length≤900) (fun X=>[(4,.ptr 2 0),(5,.t (.sl (lE .i64 (A4 b4 X.1)))),(6,.t (.sl (lE .i64 (A4 b4 X.2))))]) (fun X=>⟨[.cells [.t (.bool (decide (x<0))),.t (.sl (lE .i64 (A4 b4 x.natAbs)))],.cells [.t (.bool (decide (y<0))),.t (.sl (lE .i64 (A4 b4 y.natAbs)))],.cells [.t (.bool false),.snil]],[]⟩) (fun X=>X.2) (x.natAbs,y.natAbs) ⟨rfl,hyl,hxl⟩ ?hs ?_
 case hs=>simp
 rintro ⟨a,b⟩ ⟨hg,hb,hal⟩ hbd
 simp only [] at hg hb hal
 clear hbd
 rcases Nat.eq_zero_or_pos b with b0|b0
 ·subst b0
  rw [Nat.gcd_zero_right] at hg
  have hs:=hsg a
  rw [←hg]
  ((try simp at hs);(try simp -implicitDefEqProofs [Ar,Cg]);repeat' first|(with_reducible apply A0<;>first|(simp only [eras,era,A1];first|with_reducible assumption)|(simp -implicitDefEqProofs [Ar,Cg])))
 ·have hdv:=Vx a b hal hb b0
  unfold lT at hdv
  have hlt:=Nat.mod_lt a b0
  have hlp:0<(A4 b4 b).length:=Ch Bc (by omega)
  have hle:=Dj (B:=b4) Bc (Nat.le_of_lt hlt)
  ((try simp at hdv);(try simp -implicitDefEqProofs [hlp]);repeat' first|(with_reducible apply A0<;>first|(simp only [eras,era,A1];first|with_reducible assumption)|(simp -implicitDefEqProofs [hlp])))
  refine⟨b,a % b,⟨?_,by omega,by omega⟩,hlt,rfl,rfl⟩
  rw [←hg,Nat.gcd_comm b,←Nat.gcd_rec,Nat.gcd_comm]
def qE (z:Int):List (List T):=lE .i64 (A4 b4 z.natAbs)
theorem iV4 (z:Int):iV b4 .i64 z=.agg [.t (.bool (nB z)),.t (.sl (qE z))]:=rfl
def sC (n d:Int):List T:=[.bool (nB n),.sl (qE n),.bool (nB d),.sl (qE d)]
def sV (n d:Int):V:=.agg [.t (.bool (nB n)),.t (.sl (qE n)),.t (.bool (nB d)),.t (.sl (qE d))]
theorem Sm.len4 {z:Int} (h:Sm z):(A4 b4 z.natAbs).length≤900:=by
 have:=Cf (B:=b4) (n:=z.natAbs) (k:=7) Bc (by unfold Sm at h;unfold b4;omega)
 omega
theorem X3 {n:Int} {d:Nat} (hn:Sm n) (hd:0<d) (hdb:d<b9):A7 Tryz.prog 63 [iV b4 .i64 n,iV b4 .i64 d] (.tup [sV (C6 n d) (C7 n d),vI 0]):=by
 have hdn:((d:Int)).natAbs=d:=Int.natAbs_natCast d
 have hdS:Sm (d:Int):=by unfold Sm;unfold b9 at hdb;omega
 have hg:=X2 n d hn.len4 hdS.len4
 rw [hdn] at hg
 have hg0:=G9 (a:=n) hd
 have hgd:Nat.gcd n.natAbs d≤d:=Nat.gcd_le_right _ hd
 have hgS:Sm ((Nat.gcd n.natAbs d:Nat):Int):=by unfold Sm;unfold b9 at hdb;omega
 have hs:=P1 (d:Int)
 have s1:sgn (d:Int)=1:=by unfold sgn;rw [if_neg (by omega),if_neg (by omega)]
 rw [s1] at hs
 have q1:=K8 n (Nat.gcd n.natAbs d:Nat) hn.len4 hgS.len4 (by omega)
 have q2:=K8 d (Nat.gcd n.natAbs d:Nat) hdS.len4 hgS.len4 (by omega)
 have e2:(d:Int).tdiv (Nat.gcd n.natAbs d:Nat)=(C7 n d:Nat):=rfl
 have e1:n.tdiv (Nat.gcd n.natAbs d:Nat)=C6 n d:=rfl
 rw [e1] at q1
 rw [e2] at q2
 generalize C6 n d=a at *
 generalize C7 n d=b at *
 generalize Nat.gcd n.natAbs d=g at *
 generalize n.tmod (g:Nat)=m1 at *
 generalize (d:Int).tmod (g:Nat)=m2 at *
 simp only [iV4] at *
 unfold sV
 (refine A7.of_code mix Tryz.call63 k_63 (by simp) (fun hB=>?_);(try simp at hB);(try simp -implicitDefEqProofs))
 ((try simp at hg hs q1 q2);(try simp -implicitDefEqProofs);repeat' first|(with_reducible apply A0<;>first|(simp only [eras,era,A1];first|with_reducible assumption)|(simp -implicitDefEqProofs)))
theorem V1 {n:Int} {d:Nat} (hn:Sm n) (hd:0<d) (hdb:d<b9):A7 Tryz.prog 41 [iV b4 .i64 n,iV b4 .i64 d] (sV (C6 n d) (C7 n d)):=by
 have hr:=X3 hn hd hdb
 generalize C6 n d=a at *
 generalize C7 n d=b at *
 simp only [iV4] at *
 unfold sV at *
 (refine A7.of_code mix Tryz.call41 k_41 (by simp) (fun hB=>?_);(try simp at hB);(try simp -implicitDefEqProofs))
 ((try simp at hr);(try simp -implicitDefEqProofs);repeat' first|(with_reducible apply A0<;>first|(simp only [eras,era,A1];first|with_reducible assumption)|(simp -implicitDefEqProofs)))
theorem Ti {n:Int} (h1 : -9223372036854775808≤n) (h2:n≤9223372036854775807):A7 Tryz.prog 23 [vI n] (sV (C6 n 10000) (C7 n 10000)):=by
 have hr:=V1 (n:=n) (d:=10000) (by unfold Sm;omega) (by decide) (by decide)
 have o1:=Vq h1 h2
 have o2:=Vq (n:=10000) (by omega) (by omega)
 have e3:((10000:Nat):Int)=10000:=rfl
 generalize C6 n 10000=a at *
 generalize C7 n 10000=b at *
 rw [e3] at hr
 simp only [iV4] at *
 unfold sV at *
 (refine A7.of_code mix Tryz.call23 k_23 (by simp) (fun hB=>?_);(try simp at hB);(try simp -implicitDefEqProofs))
 ((try simp at o1 o2 hr);(try simp -implicitDefEqProofs);repeat' first|(with_reducible apply A0<;>first|(simp only [eras,era,A1];first|with_reducible assumption)|(simp -implicitDefEqProofs)))


theorem Yo (c:Code) (hlen:c.ins.length≤1000000):A7 Tryz.prog 19 [c.v] c.v:=by
 obtain⟨cn,pair,ins⟩:=c
 simp only [] at hlen
 (refine A7.of_code mix Tryz.call19 k_19 (by simp) (fun hB=>?_);(try simp at hB);(try simp -implicitDefEqProofs))
 refine Bl [(.cell 2 2,77,3)] (X:=Nat) (fun k=>k≤ins.length) (fun k=>[(1,.ptr 0 0),(2,.ptr 1 0),(3,.ptr 2 0),(4,vI k)])
  (fun k=>⟨[.cells [vS cn,vB pair,Ins.l ins],.cells [vS [],vB false,.snil],.cells [vS cn,vB pair,.own 0 77 3 ((ins.take k).map Ins.c)]],[k]⟩) (fun k=>ins.length-k) 0 (by omega) (by simp) ?_
 rintro k hk hbd
 rcases Nat.lt_or_ge k ins.length with h|h
 ·have hx:ins[k]?=some ins[k]:=by simp [h]
  have e3:IntKind.i64.wrap ((k:Int)+1)=(k:Int)+1:=wrap64 (by omega) (by omega)
  have hrv:(ins.map Ins.c).take (k+1)=(ins.map Ins.c).take k++[ins[k].c]:=by rw [Aq (x:=ins[k].c) (by simp [h])]
  have hmin:min k ins.length=k:=by omega
  ((try simp -implicitDefEqProofs [h,e3,maxLen,hmin]);repeat' first|((with_reducible first|apply Af|apply Ag|apply A8)<;>(intro hc;have hc':=hc;(try simp at hc');simp -implicitDefEqProofs [hc,hc',h,e3,maxLen,hmin])))
  exact⟨⟨by omega,by omega⟩,k+1,by omega,by omega,⟨by rw [hrv];exact .inl rfl,rfl⟩,by push_cast;rfl⟩
 ·have:k=ins.length:=by omega
  subst this
  have ht:(ins.map Ins.c).take ins.length=ins.map Ins.c:=List.take_of_length_le (by simp)
  ((try simp -implicitDefEqProofs [ht]);repeat' first|((with_reducible first|apply Af|apply Ag|apply A8)<;>(intro hc;have hc':=hc;(try simp at hc');simp -implicitDefEqProofs [hc,hc',ht])))

def Gk (c:Code):Bool:=decide (c.name.length≤100)&&decide (c.ins.length≤400)
theorem X4 (c:Code):A7 Tryz.prog 22 [c.v] (vB (Gk c)):=by
 obtain⟨cn,pair,ins⟩:=c
 unfold Gk
 rcases (by omega:cn.length≤100∨100<cn.length) with h1|h1<;>rcases (by omega:ins.length≤400∨400<ins.length) with h2|h2
 ·(refine A7.of_code mix Tryz.call22 k_22 (by simp) (fun hB=>?_);(try simp at hB);(try simp -implicitDefEqProofs))
  have h1':(cn.length:Int)≤100:=by omega
  have h2':(ins.length:Int)≤400:=by omega
  ((try simp -implicitDefEqProofs [h1,h2,h1',h2']);repeat' first|((with_reducible first|apply Af|apply Ag|apply A8)<;>(intro hc;have hc':=hc;(try simp at hc');simp -implicitDefEqProofs [hc,hc',h1,h2,h1',h2'])))
 ·(refine A7.of_code mix Tryz.call22 k_22 (by simp) (fun hB=>?_);(try simp at hB);(try simp -implicitDefEqProofs))
  have h1':(cn.length:Int)≤100:=by omega
  have h2' : ¬(ins.length:Int)≤400:=by omega
  have h2n : ¬ins.length≤400:=by omega
  ((try simp -implicitDefEqProofs [h1,h2,h2n,h1',h2']);repeat' first|((with_reducible first|apply Af|apply Ag|apply A8)<;>(intro hc;have hc':=hc;(try simp at hc');simp -implicitDefEqProofs [hc,hc',h1,h2,h2n,h1',h2'])))
 ·(refine A7.of_code mix Tryz.call22 k_22 (by simp) (fun hB=>?_);(try simp at hB);(try simp -implicitDefEqProofs))
  have h1' : ¬(cn.length:Int)≤100:=by omega
  have h1n : ¬cn.length≤100:=by omega
  ((try simp -implicitDefEqProofs [h1,h2,h1n,h1']);repeat' first|((with_reducible first|apply Af|apply Ag|apply A8)<;>(intro hc;have hc':=hc;(try simp at hc');simp -implicitDefEqProofs [hc,hc',h1,h2,h1n,h1'])))
 ·(refine A7.of_code mix Tryz.call22 k_22 (by simp) (fun hB=>?_);(try simp at hB);(try simp -implicitDefEqProofs))
  have h1' : ¬(cn.length:Int)≤100:=by omega
  have h1n : ¬cn.length≤100:=by omega
  ((try simp -implicitDefEqProofs [h1,h2,h1n,h1']);repeat' first|((with_reducible first|apply Af|apply Ag|apply A8)<;>(intro hc;have hc':=hc;(try simp at hc');simp -implicitDefEqProofs [hc,hc',h1,h2,h1n,h1'])))
end Go.Proofs.YtmlpmdccfmmpoaaGreat
