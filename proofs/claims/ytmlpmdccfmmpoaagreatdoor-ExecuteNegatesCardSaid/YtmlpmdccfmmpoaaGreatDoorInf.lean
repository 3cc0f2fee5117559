/- Chapter 33: the types of expressions; the reference's Infer. -/
import Derived.Test.YtmlpmdccfmmpoaaGreatDoorOp
import Derived.Test.YtmlpmdccfmmpoaaGreatDoorIn8
import Derived.Test.YtmlpmdccfmmpoaaGreatDoorIn9
import Derived.Test.YtmlpmdccfmmpoaaGreatDoorIn6
import Derived.Test.YtmlpmdccfmmpoaaGreatDoorMaps
import Derived.Test.YtmlpmdccfmmpoaaGreatDoorCodeB
set_option linter.unusedSimpArgs false
set_option linter.unusedVariables false
set_option maxHeartbeats 4000000
set_option maxRecDepth 8000
namespace Go.Proofs.YtmlpmdccfmmpoaaGreatDoor
open E
theorem O8 (x y:Int) (hxl:(A9 b4 x.natAbs).length≤900) (hyl:(A9 b4 y.natAbs).length≤900) (hy0:y≠0):A8 Tryz.prog 148 [iV b4 .i64 x,iV b4 .i64 y] (.tup [iV b4 .i64 (x.tdiv y),iV b4 .i64 (x.tmod y),.t (.int .i64 0)]):=by
 have hy0':0<y.natAbs:=by omega
 have hd:=A41 x.natAbs y.natAbs hxl hyl hy0'
 have s1:=Vh y
 have s0:(sgn y==0)=false:=by unfold sgn;split<;>(try split)<;>simp<;>omega
 have hs1:=He (l:=A9 b4 (x.natAbs / y.natAbs)) (decide (x<0) != decide (y<0)) (Ar Bt _)
 have hs2:=He (l:=A9 b4 (x.natAbs % y.natAbs)) (decide (x<0)) (Ar Bt _)
 rw [An Bt,Rb] at hs1
 rw [An Bt,Rc] at hs2
 unfold iV iC lT at *
 generalize decide (x<0)=nx at *
 generalize decide (y<0)=ny at *
 have e:(nx != ny)=(!nx==ny):=by cases nx<;>cases ny<;>rfl
 rw [e] at hs1
 (refine A8.of_code mix Tryz.call148 k_148 (by simp) (fun hB=>?_);(try simp at hB);(try simp -implicitDefEqProofs))
 ((try simp at hd s1 hs1 hs2);(try simp -implicitDefEqProofs [s0]);repeat' first|(with_reducible apply A0<;>first|(simp only [eras,era,A1];first|with_reducible assumption)|(simp -implicitDefEqProofs [s0])))
theorem A5x (x y:Int) (hxl:(A9 b4 x.natAbs).length≤900) (hyl:(A9 b4 y.natAbs).length≤900):A8 Tryz.prog 147 [iV b4 .i64 x,iV b4 .i64 y] (iV b4 .i64 (Nat.gcd x.natAbs y.natAbs:Nat)):=by
 have hsg : ∀n:Nat,A8 Tryz.prog 112 [vB false,.t (.sl (lE .i64 (A9 b4 n)))] (.agg [.t (.bool false),.t (.sl (lE .i64 (A9 b4 n)))]):=fun n=>by
  have:=He false (Ar Bt n)
  rw [An Bt] at this
  have e:Fo false n=(n:Int):=rfl
  rw [e] at this
  unfold iV iC lT at this
  have e2:decide ((n:Int)<0)=false:=by simp
  simp only [e2,Int.natAbs_natCast,List.map_cons,List.map_nil] at this
  exact this
 have e0:decide (((Nat.gcd x.natAbs y.natAbs:Nat):Int)<0)=false:=by simp
 unfold iV iC lT
 rw [e0,Int.natAbs_natCast]
 (refine A8.of_code mix Tryz.call147 k_147 (by simp) (fun hB=>?_);(try simp at hB);(try simp -implicitDefEqProofs))
 refine A7 (X:=Nat×Nat) (fun X=>Nat.gcd X.1 X.2=Nat.gcd x.natAbs y.natAbs∧(A9 b4 X.2).length≤900∧(A9 b4 X.1).length≤900) (fun X=>[(4,.ptr 2 0),(5,.t (.sl (lE .i64 (A9 b4 X.1)))),(6,.t (.sl (lE .i64 (A9 b4 X.2))))]) (fun X=>⟨[.cells [.t (.bool (decide (x<0))),.t (.sl (lE .i64 (A9 b4 x.natAbs)))],.cells [.t (.bool (decide (y<0))),.t (.sl (lE .i64 (A9 b4 y.natAbs)))],.cells [.t (.bool false),.snil]],[]⟩) (fun X=>X.2) (x.natAbs,y.natAbs) ⟨rfl,hyl,hxl⟩ ?hs ?_
 case hs=>simp
 rintro ⟨a,b⟩ ⟨hg,hb,hal⟩ hbd
 simp only [] at hg hb hal
 clear hbd
 rcases Nat.eq_zero_or_pos b with b0|b0
 ·subst b0
  rw [Nat.gcd_zero_right] at hg
  have hs:=hsg a
  rw [←hg]
  ((try simp at hs);(try simp -implicitDefEqProofs [B1,D4]);repeat' first|(with_reducible apply A0<;>first|(simp only [eras,era,A1];first|with_reducible assumption)|(simp -implicitDefEqProofs [B1,D4])))
 ·have hdv:=A41 a b hal hb b0
  unfold lT at hdv
  have hlt:=Nat.mod_lt a b0
  have hlp:0<(A9 b4 b).length:=D5 Bt (by omega)
  have hle:=F7 (B:=b4) Bt (Nat.le_of_lt hlt)
  ((try simp at hdv);(try simp -implicitDefEqProofs [hlp]);repeat' first|(with_reducible apply A0<;>first|(simp only [eras,era,A1];first|with_reducible assumption)|(simp -implicitDefEqProofs [hlp])))
  refine⟨b,a % b,⟨?_,by omega,by omega⟩,hlt,rfl,rfl⟩
  rw [←hg,Nat.gcd_comm b,←Nat.gcd_rec,Nat.gcd_comm]
def qE (z:Int):List (List T):=lE .i64 (A9 b4 z.natAbs)
theorem iV4 (z:Int):iV b4 .i64 z=.agg [.t (.bool (nB z)),.t (.sl (qE z))]:=rfl
def sC (n d:Int):List T:=[.bool (nB n),.sl (qE n),.bool (nB d),.sl (qE d)]
def sV (n d:Int):V:=.agg [.t (.bool (nB n)),.t (.sl (qE n)),.t (.bool (nB d)),.t (.sl (qE d))]
theorem Sm.len4 {z:Int} (h:Sm z):(A9 b4 z.natAbs).length≤900:=by
 have:=D3 (B:=b4) (n:=z.natAbs) (k:=7) Bt (by unfold Sm at h;unfold b4;omega)
 omega
theorem A5y {n:Int} {d:Nat} (hn:Sm n) (hd:0<d) (hdb:d<b9):A8 Tryz.prog 111 [iV b4 .i64 n,iV b4 .i64 d] (.tup [sV (C5 n d) (C6 n d),vI 0]):=by
 have hdn:((d:Int)).natAbs=d:=Int.natAbs_natCast d
 have hdS:Sm (d:Int):=by unfold Sm;unfold b9 at hdb;omega
 have hg:=A5x n d hn.len4 hdS.len4
 rw [hdn] at hg
 have hg0:=J1 (a:=n) hd
 have hgd:Nat.gcd n.natAbs d≤d:=Nat.gcd_le_right _ hd
 have hgS:Sm ((Nat.gcd n.natAbs d:Nat):Int):=by unfold Sm;unfold b9 at hdb;omega
 have hs:=Vh (d:Int)
 have s1:sgn (d:Int)=1:=by unfold sgn;rw [if_neg (by omega),if_neg (by omega)]
 rw [s1] at hs
 have q1:=O8 n (Nat.gcd n.natAbs d:Nat) hn.len4 hgS.len4 (by omega)
 have q2:=O8 d (Nat.gcd n.natAbs d:Nat) hdS.len4 hgS.len4 (by omega)
 have e2:(d:Int).tdiv (Nat.gcd n.natAbs d:Nat)=(C6 n d:Nat):=rfl
 have e1:n.tdiv (Nat.gcd n.natAbs d:Nat)=C5 n d:=rfl
 rw [e1] at q1
 rw [e2] at q2
 generalize C5 n d=a at *
 generalize C6 n d=b at *
 generalize Nat.gcd n.natAbs d=g at *
 generalize n.tmod (g:Nat)=m1 at *
 generalize (d:Int).tmod (g:Nat)=m2 at *
 simp only [iV4] at *
 unfold sV
 (refine A8.of_code mix Tryz.call111 k_111 (by simp) (fun hB=>?_);(try simp at hB);(try simp -implicitDefEqProofs))
 ((try simp at hg hs q1 q2);(try simp -implicitDefEqProofs);repeat' first|(with_reducible apply A0<;>first|(simp only [eras,era,A1];first|with_reducible assumption)|(simp -implicitDefEqProofs)))
theorem A2v {n:Int} {d:Nat} (hn:Sm n) (hd:0<d) (hdb:d<b9):A8 Tryz.prog 60 [iV b4 .i64 n,iV b4 .i64 d] (sV (C5 n d) (C6 n d)):=by
 have hr:=A5y hn hd hdb
 generalize C5 n d=a at *
 generalize C6 n d=b at *
 simp only [iV4] at *
 unfold sV at *
 (refine A8.of_code mix Tryz.call60 k_60 (by simp) (fun hB=>?_);(try simp at hB);(try simp -implicitDefEqProofs))
 ((try simp at hr);(try simp -implicitDefEqProofs);repeat' first|(with_reducible apply A0<;>first|(simp only [eras,era,A1];first|with_reducible assumption)|(simp -implicitDefEqProofs)))
theorem Rs {n:Int} (h1 : -9223372036854775808≤n) (h2:n≤9223372036854775807):A8 Tryz.prog 26 [vI n] (sV (C5 n 10000) (C6 n 10000)):=by
 have hr:=A2v (n:=n) (d:=10000) (by unfold Sm;omega) (by decide) (by decide)
 have o1:=A3v h1 h2
 have o2:=A3v (n:=10000) (by omega) (by omega)
 have e3:((10000:Nat):Int)=10000:=rfl
 generalize C5 n 10000=a at *
 generalize C6 n 10000=b at *
 rw [e3] at hr
 simp only [iV4] at *
 unfold sV at *
 (refine A8.of_code mix Tryz.call26 k_26 (by simp) (fun hB=>?_);(try simp at hB);(try simp -implicitDefEqProofs))
 ((try simp at o1 o2 hr);(try simp -implicitDefEqProofs);repeat' first|(with_reducible apply A0<;>first|(simp only [eras,era,A1];first|with_reducible assumption)|(simp -implicitDefEqProofs)))


def Jb (c:Code):Bool:=decide (c.name.length≤100)&&decide (c.ins.length≤400)
theorem A5z (c:Code):A8 Tryz.prog 25 [c.v] (vB (Jb c)):=by
 obtain⟨cn,pair,ins⟩:=c
 unfold Jb
 rcases (by omega:cn.length≤100∨100<cn.length) with h1|h1<;>rcases (by omega:ins.length≤400∨400<ins.length) with h2|h2
 ·(refine A8.of_code mix Tryz.call25 k_25 (by simp) (fun hB=>?_);(try simp at hB);(try simp -implicitDefEqProofs))
  have h1':(cn.length:Int)≤100:=by omega
  have h2':(ins.length:Int)≤400:=by omega
  ((try simp -implicitDefEqProofs [h1,h2,h1',h2']);repeat' first|((with_reducible first|apply Ac|apply Ad|apply A5)<;>(intro hc;have hc':=hc;(try simp at hc');simp -implicitDefEqProofs [hc,hc',h1,h2,h1',h2'])))
 ·(refine A8.of_code mix Tryz.call25 k_25 (by simp) (fun hB=>?_);(try simp at hB);(try simp -implicitDefEqProofs))
  have h1':(cn.length:Int)≤100:=by omega
  have h2' : ¬(ins.length:Int)≤400:=by omega
  have h2n : ¬ins.length≤400:=by omega
  ((try simp -implicitDefEqProofs [h1,h2,h2n,h1',h2']);repeat' first|((with_reducible first|apply Ac|apply Ad|apply A5)<;>(intro hc;have hc':=hc;(try simp at hc');simp -implicitDefEqProofs [hc,hc',h1,h2,h2n,h1',h2'])))
 ·(refine A8.of_code mix Tryz.call25 k_25 (by simp) (fun hB=>?_);(try simp at hB);(try simp -implicitDefEqProofs))
  have h1' : ¬(cn.length:Int)≤100:=by omega
  have h1n : ¬cn.length≤100:=by omega
  ((try simp -implicitDefEqProofs [h1,h2,h1n,h1']);repeat' first|((with_reducible first|apply Ac|apply Ad|apply A5)<;>(intro hc;have hc':=hc;(try simp at hc');simp -implicitDefEqProofs [hc,hc',h1,h2,h1n,h1'])))
 ·(refine A8.of_code mix Tryz.call25 k_25 (by simp) (fun hB=>?_);(try simp at hB);(try simp -implicitDefEqProofs))
  have h1' : ¬(cn.length:Int)≤100:=by omega
  have h1n : ¬cn.length≤100:=by omega
  ((try simp -implicitDefEqProofs [h1,h2,h1n,h1']);repeat' first|((with_reducible first|apply Ac|apply Ad|apply A5)<;>(intro hc;have hc':=hc;(try simp at hc');simp -implicitDefEqProofs [hc,hc',h1,h2,h1n,h1'])))
def Src.q (s:Src):List T:=[.int .i64 s.ent,.bool s.full]++sC s.num s.den++[.sl (s.items.map Item.c)]
def Src.qv (s:Src):V:=.agg [vI s.ent,vB s.full,.t (.bool (nB s.num)),.t (.sl (qE s.num)),.t (.bool (nB s.den)),.t (.sl (qE s.den)),.t (.sl (s.items.map Item.c))]
def Src.ql (l:List Src):V:=.t (.sl (l.map Src.q))
structure Sou where
 ent:Int
 full:Bool
 sh:Int
 items:List Item
def Sou.c (x:Sou):List T:=[.int .i64 x.ent,.bool x.full,.int .i16 x.sh,.sl (x.items.map Item.c)]
abbrev Sou.l (l:List Sou):V:=.t (.sl (l.map Sou.c))
def Sou.src (x:Sou):Src:=⟨x.ent,x.full,C5 x.sh 10000,C6 x.sh 10000,x.items⟩
def Sou.wf (x:Sou):Prop:=-32768≤x.sh∧x.sh≤32767
def Ue (l:List Sou) (cs:List Code):Bool:=(l.all fun e=>decide (e.items.length≤60))&&(cs.all Jb)&&decide (l.length≤13)&&decide (cs.length≤10)
theorem A2w (l:List Sou) (cs:List Code):A8 Tryz.prog 9 [Sou.l l,Code.l cs] (vB (Ue l cs)):=by
 generalize hR:vB (Ue l cs)=R
 unfold Ue at hR
 (refine A8.of_code mix Tryz.call9 k_9 (by simp) (fun hB=>?_);(try simp at hB);(try simp -implicitDefEqProofs))
 refine A7 (X:=Nat) (fun k=>k≤l.length∧∀y∈l.take k,y.items.length≤60) (fun k=>[(0,Sou.l l),(1,Code.l cs),(5,vI k)]) (fun _=>St0) (fun k=>l.length-k) 0 ⟨by simp,by simp⟩ (by simp) ?_
 rintro k ⟨hk,hn⟩ hbd
 rcases Nat.lt_or_ge k l.length with h|h
 ·obtain⟨x,hx⟩:=Aa h
  have e3:IntKind.i64.wrap ((k:Int)+1)=(k:Int)+1:=wrap64 (by omega) (by simp [maxLen] at hB;omega)
  have hxc:(l.map Sou.c)[k]?=some x.c:=by simp [hx]
  have hxc' : ∀h,(l.map Sou.c)[k]'h=x.c:=fun h=>by rw [List.getElem?_eq_getElem h] at hxc;exact Option.some.inj hxc
  obtain⟨ent,full,sh,items⟩:=x
  by_cases h6:items.length≤60
  ·have h6' : ¬(60:Int)<items.length:=by omega
   have h6n : ¬60<items.length:=by omega
   have hst : ∃z':Nat,(z'≤l.length∧∀y∈l.take z',y.items.length≤60)∧l.length-z'<l.length-k∧(z':Int)=(k:Int)+1:=by
    refine⟨k+1,⟨by omega,fun y hy=>?_⟩,by omega,by push_cast;rfl⟩
    rw [Ag hx] at hy
    rcases List.mem_append.1 hy with h1|h1
    ·exact hn y h1
    ·simp at h1;subst h1;exact h6
   clear hbd hB
   (try simp -implicitDefEqProofs [h,hxc,hxc',Sou.c,h6,h6n,h6',e3])
   exact hst
  ·have h6':(60:Int)<items.length:=by omega
   have h6n:60<items.length:=by omega
   have hm:=List.mem_of_getElem? hx
   have hf:(l.all fun e=>decide (e.items.length≤60))=false:=by
    rw [List.all_eq_false];exact⟨_,hm,by simpa using h6⟩
   rw [hf] at hR
   simp only [Bool.false_and] at hR
   subst hR
   clear hbd hB
   (try simp -implicitDefEqProofs [h,hxc,hxc',Sou.c,h6,h6n,h6',e3])
 have hall:(l.all fun e=>decide (e.items.length≤60))=true:=by
  rw [List.all_eq_true];intro y hy
  rw [List.take_of_length_le (by omega)] at hn
  simpa using hn y hy
 have hke:k=l.length:=by omega
 subst hke
 rw [hall] at hR
 simp only [Bool.true_and] at hR
 clear hbd
 (try simp -implicitDefEqProofs)
 refine A7 (X:=Nat) (fun k=>k≤cs.length∧∀y∈cs.take k,Jb y=true) (fun k=>[(0,Sou.l l),(1,Code.l cs),(6,vI k)]) (fun _=>St0) (fun k=>cs.length-k) 0 ⟨by simp,by simp⟩ (by simp) ?_
 rintro k ⟨hk,hn⟩ hbd
 rcases Nat.lt_or_ge k cs.length with h|h
 ·obtain⟨x,hx⟩:=Aa h
  have e3:IntKind.i64.wrap ((k:Int)+1)=(k:Int)+1:=wrap64 (by omega) (by simp [maxLen] at hB;omega)
  have hxc:(cs.map Code.c)[k]?=some x.c:=by simp [hx]
  have hxc' : ∀h,(cs.map Code.c)[k]'h=x.c:=fun h=>by rw [List.getElem?_eq_getElem h] at hxc;exact Option.some.inj hxc
  have hf:=A5z x
  have hm:=List.mem_of_getElem? hx
  generalize hfx:Jb x=fx at *
  obtain⟨cn,pair,ins⟩:=x
  cases fx
  ·have hf2:(cs.all Jb)=false:=by
    rw [List.all_eq_false];exact⟨_,hm,by simp [hfx]⟩
   rw [hf2] at hR
   simp only [Bool.false_and] at hR
   subst hR
   clear hbd hB
   ((try simp at hf);(try simp -implicitDefEqProofs [h,hxc,hxc',Code.c,e3]);repeat' first|(with_reducible apply A0<;>first|(simp only [eras,era,A1];first|with_reducible assumption)|(simp -implicitDefEqProofs [h,hxc,hxc',Code.c,e3])))
  ·have hst : ∃z':Nat,(z'≤cs.length∧∀y∈cs.take z',Jb y=true)∧cs.length-z'<cs.length-k∧(z':Int)=(k:Int)+1:=by
    refine⟨k+1,⟨by omega,fun y hy=>?_⟩,by omega,by push_cast;rfl⟩
    rw [Ag hx] at hy
    rcases List.mem_append.1 hy with h1|h1
    ·exact hn y h1
    ·simp at h1;subst h1;exact hfx
   clear hbd hB
   ((try simp at hf);(try simp -implicitDefEqProofs [h,hxc,hxc',Code.c,e3]);repeat' first|(with_reducible apply A0<;>first|(simp only [eras,era,A1];first|with_reducible assumption)|(simp -implicitDefEqProofs [h,hxc,hxc',Code.c,e3])))
   exact hst
 have hall2:(cs.all Jb)=true:=by
  rw [List.all_eq_true];intro y hy
  rw [List.take_of_length_le (by omega)] at hn
  exact hn y hy
 have hke:k=cs.length:=by omega
 subst hke
 rw [hall2] at hR
 simp only [Bool.true_and] at hR
 clear hbd
 have d1:decide (l.length≤13)=decide ((l.length:Int)≤13):=by rw [decide_eq_decide];omega
 have d2:decide (cs.length≤10)=decide ((cs.length:Int)≤10):=by rw [decide_eq_decide];omega
 rw [d1,d2] at hR
 subst hR
 ((try simp -implicitDefEqProofs);repeat' first|((with_reducible first|apply Ac|apply Ad|apply A5)<;>(intro hc;have hc':=hc;(try simp at hc');simp -implicitDefEqProofs [hc,hc'])))
theorem Xk (l:List Sou) (hl:l.length≤1000) (hw : ∀x∈l,x.wf):A8 Tryz.prog 10 [Sou.l l] (.tup [Src.l (l.map Sou.src),Src.ql (l.map Sou.src)]):=by
 unfold Src.l Src.ql
 (refine A8.of_code mix Tryz.call10 k_10 (by simp) (fun hB=>?_);(try simp at hB);(try simp -implicitDefEqProofs))
 refine Bm [(.slot 4,68,7),(.slot 5,110,7)] (X:=Nat) (fun k=>k≤l.length) (fun k=>[(0,Sou.l l),(4,.own 0 68 7 ((l.map Sou.src).map Src.c |>.take k)),(5,.own 1 110 7 ((l.map Sou.src).map Src.q |>.take k)),(6,vI k)])
  (fun k=>⟨[],[k,k]⟩) (fun k=>l.length-k) 0 (by omega) (by simp) ?_
 rintro k hk hbd
 clear hbd
 rcases Nat.lt_or_ge k l.length with h|h
 ·obtain⟨x,hx⟩:=Aa h
  have e3:IntKind.i64.wrap ((k:Int)+1)=(k:Int)+1:=wrap64 (by omega) (by omega)
  have hxw:=hw x (List.mem_of_getElem? hx)
  have r1:=Ag (l:=(l.map Sou.src).map Src.c) (k:=k) (x:=x.src.c) (by simp [hx])
  have r2:=Ag (l:=(l.map Sou.src).map Src.q) (k:=k) (x:=x.src.q) (by simp [hx])
  have l1:(((l.map Sou.src).map Src.c).take k).length=k:=by simp;omega
  have l2:(((l.map Sou.src).map Src.q).take k).length=k:=by simp;omega
  generalize ((l.map Sou.src).map Src.c).take k=A at *
  generalize ((l.map Sou.src).map Src.q).take k=B at *
  have hxc:(l.map Sou.c)[k]?=some x.c:=by simp [hx]
  have hxc' : ∀h,(l.map Sou.c)[k]'h=x.c:=fun h=>by rw [List.getElem?_eq_getElem h] at hxc;exact Option.some.inj hxc
  obtain⟨ent,full,sh,items⟩:=x
  unfold Sou.wf at hxw
  simp only [] at hxw
  have w1:=Vl (n:=sh) (d:=10000) (by omega) (by omega) (by decide) (by decide)
  have w2:=Rs (n:=sh) (by omega) (by omega)
  have sc:Src.c (Sou.src ⟨ent,full,sh,items⟩)=[.int .i64 ent,.bool full,.bool (nB (C5 sh 10000)),.sl (pE (C5 sh 10000)),.bool (nB (C6 sh 10000)),.sl (pE (C6 sh 10000)),.sl (items.map Item.c)]:=rfl
  have sq:Src.q (Sou.src ⟨ent,full,sh,items⟩)=[.int .i64 ent,.bool full,.bool (nB (C5 sh 10000)),.sl (qE (C5 sh 10000)),.bool (nB (C6 sh 10000)),.sl (qE (C6 sh 10000)),.sl (items.map Item.c)]:=rfl
  rw [sc] at r1
  rw [sq] at r2
  unfold rV at w1
  unfold sV at w2
  generalize C5 sh 10000=N at *
  generalize C6 sh 10000=D at *
  have e4:IntKind.i64.wrap sh=sh:=wrap64 (by omega) (by omega)
  have j1:k≤9223372036854775806:=by omega
  have j2:(k+1)*104≤140737488355328:=by omega
  ((try simp at w1 w2);(try simp -implicitDefEqProofs [h,hxc,hxc',Sou.c,e3,e4,maxLen,l1,l2,j1,j2]);repeat' first|(with_reducible apply A0<;>first|(simp only [eras,era,A1];first|with_reducible assumption)|(simp -implicitDefEqProofs [h,hxc,hxc',Sou.c,e3,e4,maxLen,l1,l2,j1,j2])))
  refine⟨k+1,by omega,by omega,by simp,?_,?_,by simp⟩
  ·rw [←List.map_map,r1];exact leA.refl _
  ·rw [←List.map_map,r2];exact leA.refl _
 ·have hke:k=l.length:=by omega
  subst hke
  have t1:((l.map Sou.src).map Src.c).take l.length=(l.map Sou.src).map Src.c:=List.take_of_length_le (by simp)
  have t2:((l.map Sou.src).map Src.q).take l.length=(l.map Sou.src).map Src.q:=List.take_of_length_le (by simp)
  rw [t1,t2]
  (try simp -implicitDefEqProofs)
def awL:List Src:=[⟨0,true,C5 1 2,C6 1 2,[⟨0,0,0,4000,-1,0,-500⟩]⟩]
def awC:List Code:=[⟨[],false,[⟨3,4000,4000⟩,⟨5,0,0⟩,⟨7,0,0⟩,⟨25,4000,0⟩,⟨26,3000,0⟩]⟩]
theorem A60:Cx awC awL=([⟨10,0,-1,0,[⟨3000,-250⟩,⟨4000,250⟩]⟩],0):=by decide +kernel
theorem Xl:A8 Tryz.prog 7 [] (vB true):=by
 have h1:=Vl (n:=1) (d:=2) (by omega) (by omega) (by decide) (by decide)
 have h2:=A5u awC awL (by decide) (by decide) (by decide) (by decide +kernel)
 rw [A60] at h2
 unfold awC awL Src.l psV at h2
 simp only [Src.c,rC,List.map_cons,List.map_nil,Code.c,Ins.c,Item.c,Posting.c,Part.c,List.cons_append,List.nil_append] at h2
 unfold rV at h1
 generalize C5 1 2=N at *
 generalize C6 1 2=D at *
 (refine A8.of_code mix Tryz.call7 k_7 (by simp) (fun hB=>?_);(try simp at hB);(try simp -implicitDefEqProofs))
 ((try simp at h1 h2);(try simp -implicitDefEqProofs);repeat' first|(with_reducible apply A0<;>first|(simp only [eras,era,A1];first|with_reducible assumption)|(simp -implicitDefEqProofs)))
theorem A61 {α:Type} {n:Nat} {t e:TypeId} {ts:List T} (hu:Tryz.prog.underlying t=some (.slice e)) (c:α→List T) (wf:α→Prop) (he : ∀n ts,Sh Tryz.prog n e ts→∃x,ts=c x∧wf x) (hk:Tryz.prog.cellsOf t=1) (h:Sh Tryz.prog n t (ts.take (Tryz.prog.cellsOf t))) : ∃l:List α,ts.take 1=[.sl (l.map c)]∧∀x∈l,wf x:=by
 rw [hk] at h
 cases n with
 | zero=>exact h.elim
 | succ n=>
  simp only [Sh,hu] at h
  obtain⟨es,hts,hes⟩:=h
  rw [hts]
  clear hts
  suffices hs : ∃l:List α,es=l.map c∧∀x∈l,wf x by obtain⟨l,rfl,hl⟩:=hs;exact⟨l,rfl,hl⟩
  induction es with
  | nil=>exact⟨[],rfl,by simp⟩
  | cons r es ih=>
   obtain⟨x,rfl,hx⟩:=he n r (hes r (by simp))
   obtain⟨l,rfl,hl⟩:=ih (fun r hr=>hes r (by simp [hr]))
   exact⟨x::l,rfl,by simp;exact⟨hx,hl⟩⟩
theorem A62 {n:Nat} {ts:List T} (h:Sh Tryz.prog n 70 ts) : ∃x y,ts=[.int .i64 x,.int .i64 y]:=by
 cases n with
 | zero=>exact h.elim
 | succ n=>
  have hc:Tryz.prog.cellsOf 70=2:=by kernel_rfl
  simp only [Sh,Tryz.underlying70,hc,List.forall_mem_cons,List.not_mem_nil,false_imp_iff,implies_true,and_true] at h
  obtain⟨hl,h0,h1⟩:=h
  obtain⟨c0,c1,rfl⟩ : ∃c0 c1,ts=[c0,c1]:=by
   match ts,hl with
   | [c0,c1],_=>exact⟨_,_,rfl⟩
  rw [show Tryz.prog.cellsOf 3=1 by kernel_rfl] at h0 h1
  obtain⟨x0,e0,w0⟩:=I4 h0
  obtain⟨x1,e1,w1⟩:=I4 h1
  refine⟨x0,x1,?_⟩
  simp at e0 e1
  simp [*]
theorem A2x {n:Nat} {ts:List T} (h:Sh Tryz.prog n 72 ts) : ∃x:Item,ts=x.c∧inZ x.amt:=by
 cases n with
 | zero=>exact h.elim
 | succ n=>
  have hc:Tryz.prog.cellsOf 72=7:=by kernel_rfl
  simp only [Sh,Tryz.underlying72,hc,List.forall_mem_cons,List.not_mem_nil,false_imp_iff,implies_true,and_true] at h
  obtain⟨hl,h0,h1,h2,h3,h4,h5⟩:=h
  obtain⟨c0,c1,c2,c3,c4,c5,c6,rfl⟩ : ∃c0 c1 c2 c3 c4 c5 c6,ts=[c0,c1,c2,c3,c4,c5,c6]:=by
   match ts,hl with
   | [c0,c1,c2,c3,c4,c5,c6],_=>exact⟨_,_,_,_,_,_,_,rfl⟩
  rw [show Tryz.prog.cellsOf 70=2 by kernel_rfl] at h0
  obtain⟨x0,y0,e0⟩:=A62 h0
  rw [show Tryz.prog.cellsOf 3=1 by kernel_rfl] at h1
  obtain⟨x1,e1,w1⟩:=I4 h1
  rw [show Tryz.prog.cellsOf 3=1 by kernel_rfl] at h2
  obtain⟨x2,e2,w2⟩:=I4 h2
  rw [show Tryz.prog.cellsOf 3=1 by kernel_rfl] at h3
  obtain⟨x3,e3,w3⟩:=I4 h3
  rw [show Tryz.prog.cellsOf 3=1 by kernel_rfl] at h4
  obtain⟨x4,e4,w4⟩:=I4 h4
  rw [show Tryz.prog.cellsOf 3=1 by kernel_rfl] at h5
  obtain⟨x5,e5,w5⟩:=I4 h5
  refine⟨⟨x0,y0,x1,x2,x3,x4,x5⟩,?_,w5⟩
  simp at e0 e1 e2 e3 e4 e5
  simp [*]
theorem A63 {n:Nat} {ts:List T} (h:Sh Tryz.prog n 96 ts) : ∃x:Int,ts=[.int .i16 x]∧-32768≤x∧x≤32767:=by
 cases n with
 | zero=>exact h.elim
 | succ n=>
  simp only [Sh,Tryz.underlying96] at h
  obtain⟨x,rfl,hw⟩:=h
  refine⟨x,rfl,?_⟩
  simp [Lit.wf,IntKind.min,IntKind.max,IntKind.signed,IntKind.bits] at hw
  omega
theorem A2y {n:Nat} {ts:List T} (h:Sh Tryz.prog n 98 ts) : ∃x:Sou,ts=x.c∧(x.wf∧∀y∈x.items,inZ y.amt):=by
 cases n with
 | zero=>exact h.elim
 | succ n=>
  have hc:Tryz.prog.cellsOf 98=4:=by kernel_rfl
  simp only [Sh,Tryz.underlying98,hc,List.forall_mem_cons,List.not_mem_nil,false_imp_iff,implies_true,and_true] at h
  obtain⟨hl,h0,h1,h2,h3⟩:=h
  obtain⟨c0,c1,c2,c3,rfl⟩ : ∃c0 c1 c2 c3,ts=[c0,c1,c2,c3]:=by
   match ts,hl with
   | [c0,c1,c2,c3],_=>exact⟨_,_,_,_,rfl⟩
  rw [show Tryz.prog.cellsOf 3=1 by kernel_rfl] at h0
  rw [show Tryz.prog.cellsOf 4=1 by kernel_rfl] at h1
  rw [show Tryz.prog.cellsOf 96=1 by kernel_rfl] at h2
  obtain⟨x0,e0,w0⟩:=I4 h0
  obtain⟨x1,e1⟩:=A7d h1
  obtain⟨x2,e2,w2⟩:=A63 h2
  obtain⟨x3,e3,w3⟩:=A61 (by kernel_rfl) Item.c (fun x=>inZ x.amt) (fun n ts h=>A2x h) (by kernel_rfl) h3
  refine⟨⟨x0,x1,x2,x3⟩,?_,w2,w3⟩
  simp at e0 e1 e2 e3
  simp [*,Sou.c]
theorem A64 {α:Type} {n:Nat} {t e:TypeId} {ts:List T} (hu:Tryz.prog.underlying t=some (.slice e)) (c:α→List T) (wf:α→Prop) (he : ∀n ts,Sh Tryz.prog n e ts→∃x,ts=c x∧wf x) (h:Sh Tryz.prog n t ts) : ∃l:List α,ts=[.sl (l.map c)]∧∀x∈l,wf x:=by
 cases n with
 | zero=>exact h.elim
 | succ n=>
  simp only [Sh,hu] at h
  obtain⟨es,hts,hes⟩:=h
  rw [hts]
  clear hts
  suffices hs : ∃l:List α,es=l.map c∧∀x∈l,wf x by obtain⟨l,rfl,hl⟩:=hs;exact⟨l,rfl,hl⟩
  induction es with
  | nil=>exact⟨[],rfl,by simp⟩
  | cons r es ih=>
   obtain⟨x,rfl,hx⟩:=he n r (hes r (by simp))
   obtain⟨l,rfl,hl⟩:=ih (fun r hr=>hes r (by simp [hr]))
   exact⟨x::l,rfl,by simp;exact⟨hx,hl⟩⟩
theorem Xm {ts:List T} (h : ∃n,Sh Tryz.prog n 25 ts) : ∃l:List Sou,Tt Tryz.prog 25 ts=Sou.l l∧∀x∈l,x.wf∧∀y∈x.items,inZ y.amt:=by
 obtain⟨n,h⟩:=h
 obtain⟨l,e,w⟩:=A64 (by kernel_rfl) Sou.c (fun x=>x.wf∧∀y∈x.items,inZ y.amt) (fun n ts h=>A2y h) h
 exact⟨l,Va (by kernel_rfl) e,w⟩
def Jc (k:Int):Int:=if k=6∨k=12∨k=13 then 2 else 1
def Jx (k:Int):Int:=if k=6∨k=12∨k=13∨(14≤k∧k≤19) then 2 else 1
def G8 (known pair wrong:Bool) (e k f t:Int):Int×Int:=
 if e≠0 then (0,e) else if wrong=true then (0,16) else if k=2∧known=false then (0,17) else
 if (k=21∨k=22)∧t<f then (0,2) else if k=22∧pair=false then (0,7) else (Jx k,0)
namespace Xp
mutual
def inf (q:List UInt8→Bool) (pair:Bool):Xp→Int×Int
 | .mk k _ f t n xs=>G8 (q n) pair (infs q pair (Jc k) xs).2 (infs q pair (Jc k) xs).1 k f t
def infs (q:List UInt8→Bool) (pair:Bool) (w:Int):List Xp→Int×Bool
 | []=>(0,false)
 | x::xs=>if (inf q pair x).2≠0 then ((inf q pair x).2,false) else ((infs q pair w xs).1,((inf q pair x).1 != w)||(infs q pair w xs).2)
end
end Xp
end Go.Proofs.YtmlpmdccfmmpoaaGreatDoor
