/- Chapter 35: the machine reads, scales and posts. -/
import Derived.Test.YtmlpmdccfmmpoaaGreatMaps
import Derived.Test.YtmlpmdccfmmpoaaGreatIn6
import Derived.Test.YtmlpmdccfmmpoaaGreatExS
set_option linter.unusedSimpArgs false
set_option linter.unusedVariables false
set_option maxHeartbeats 2000000
set_option maxRecDepth 8000
namespace Go.Proofs.YtmlpmdccfmmpoaaGreat
open E

def Src.c (s:Src):List T:=[.int .i64 s.ent,.bool s.full]++rC s.num s.den++[.sl (s.items.map Item.c)]
def Src.v (s:Src):V:=.agg (s.c.map .t)
def Src.l (l:List Src):V:=.t (.sl (l.map Src.c))
def mC (s:Src) (oth:Int) (lv:V) (mb:Nat) (sum:Int):List V:=[vI s.ent,vB s.full,.t (.bool (nB s.num)),.t (.sl (pE s.num)),.t (.bool (nB s.den)),.t (.sl (pE s.den)),.t (.sl (s.items.map Item.c)),vI oth,lv,.mp mb,vI sum]
structure Src.Ok (s:Src):Prop where
 num:s.num.natAbs≤100000
 den0:0<s.den
 den:s.den≤100000
 len:s.items.length≤1000
 amt : ∀x∈s.items,Ah x.amt=true
theorem Ht {n:Int} (h:Ah n=true) : -1000000000000≤n∧n≤1000000000000:=by unfold Ah at h;simpa using h
theorem Mf {f t p:Int} {any:Bool} : ∀{l:List Item},(∀x∈l,Ah x.amt=true)→-(1000000000000*(l.length:Int))≤B5 l f t any p∧B5 l f t any p≤1000000000000*(l.length:Int)
 | [],_=>by simp [B5]
 | x::l,h=>by
  have ih:=Mf (f:=f) (t:=t) (p:=p) (any:=any) (l:=l) fun y hy=>h y (by simp [hy])
  have h1:=Ht (h x (by simp))
  have e:B5 (x::l) f t any p=(if f≤x.acc∧x.acc≤t∧(any=true∨x.par=p) then x.amt else 0)+B5 l f t any p:=rfl
  rw [e,List.length_cons]
  push_cast
  split<;>omega
theorem O8 {l:List Item} {k:Nat} {x:Item} (h:l[k]?=some x) (f t p:Int) (any:Bool):B5 (l.take (k+1)) f t any p=B5 (l.take k) f t any p+(if f≤x.acc∧x.acc≤t∧(any=true∨x.par=p) then x.amt else 0):=by
 rw [Aq h]
 unfold B5
 rw [List.map_append,List.sum_append]
 simp
theorem O9 (n:Int):A7 Tryz.prog 35 [vI n] (vB (Ah n)):=by
 unfold Ah
 (refine A7.of_code mix Tryz.call35 k_35 (by simp) (fun hB=>?_);(try simp at hB);(try simp -implicitDefEqProofs))
 ((try simp -implicitDefEqProofs);repeat' first|((with_reducible first|apply Af|apply Ag|apply A8)<;>(intro hc;have hc':=hc;(try simp at hc');simp -implicitDefEqProofs [hc,hc'])))
theorem A6.ext {n m:Nat} : ∀{A B:List Bx} (l:List Bx),A6 n m A B→A6 n m (A++l) B
 | [],[],l,_=>by cases l<;>trivial
 | a::A,[],l,_=>trivial
 | [],b::B,l,h=>h.elim
 | a::A,b::B,l,h=>⟨h.1,A6.ext (A:=A) (B:=B) l h.2⟩
theorem A6.set {n m:Nat} {x y:Bx} (hxy:E.leB n m x y) : ∀{A B:List Bx} (i:Nat),A6 n m A B→A6 n m (A.set i x) (B.set i y)
 | [],[],i,_=>trivial
 | a::A,[],0,_=>trivial
 | a::A,[],i+1,_=>trivial
 | [],b::B,i,h=>h.elim
 | a::A,b::B,0,h=>⟨hxy,h.2⟩
 | a::A,b::B,i+1,h=>⟨h.1,A6.set hxy (A:=A) (B:=B) i h.2⟩
theorem Wu {l:List V} {a b:Nat} (h : ∀v∈l,∃x,v=.t x):okNs a b l=true:=by
 induction l with
 | nil=>rfl
 | cons v l ih=>
  obtain⟨x,rfl⟩:=h v (by simp)
  simp only [okNs,okN,ih fun w hw=>h w (by simp [hw]),Bool.and_self]
theorem D1 {n m:Nat} (es:List (Int×Int)):E.leB n m (.mp (mI vI es)) (.mp (mI vI es)):=
 ⟨rfl,Wu fun v hv=>by simp only [mI,List.map_map,List.mem_map] at hv;obtain⟨p,_,rfl⟩:=hv;exact⟨_,rfl⟩,Wu fun v hv=>by simp only [mI,List.map_map,List.mem_map] at hv;obtain⟨p,_,rfl⟩:=hv;exact⟨_,rfl⟩⟩
theorem Sp (b:Nat) (f t p:Int) (S:St) (hS:OkS S) (s:Src) (oth:Int) (lv:V) (mb:Nat) (sum:Int) (hs:s.Ok) (hb:S.boxes[b]?=some (.cells (mC s oth lv mb sum))) :
  FnS Tryz.prog 48 [.ptr b 0,vI f,vI t,vI p] S (.tup [vI (B5 s.items f t (decide (p<0)) p),vB (Ah (B5 s.items f t (decide (p<0)) p))]) S:=by
 obtain⟨L,tk⟩:=S
 simp only [] at hb
 have hbl:=A5 hb
 have hb' : ∀l:List Bx,(L++l)[b]?=some (.cells (mC s oth lv mb sum)):=fun l=>by rw [List.getElem?_append_left hbl];exact hb
 have hS':=hS
 simp [OkS] at hS'
 obtain⟨q1,q2⟩:A6 L.length tk.length L L∧Cw tk tk:=hS
 have hlen:=hs.len
 unfold mC at hb hb'
 obtain⟨any,hany⟩ : ∃any,any=decide (p<0):=⟨_,rfl⟩
 rw [←hany]
 (refine FnS.of_code mix Tryz.call48 k_48 (by simp) (fun hB=>?_);(try simp at hB);(try simp -implicitDefEqProofs))
 (try simp -implicitDefEqProofs [hb,hb'])
 refine Ac (X:=Nat) (fun k=>k≤s.items.length) (fun k=>[(1,vI f),(2,vI t),(3,vI p),(10,vI (B5 (s.items.take k) f t any p)),(17,.t (.sl (s.items.map Item.c))),(18,vI s.items.length),(19,vI k)]) (fun _=>⟨L,tk⟩) (fun k=>s.items.length-k) 0 (by omega) ?hs ?_
 case hs=>simp [B5,hS']
 rintro k hk hbd
 clear hbd
 have e3:IntKind.i64.wrap ((k:Int)+1)=(k:Int)+1:=wrap64 (by omega) (by omega)
 rcases Nat.lt_or_ge k s.items.length with h|h
 ·obtain⟨x,hx⟩:=Aa h
  have hnx:=O8 hx f t p any
  have hbd:=Mf (f:=f) (t:=t) (p:=p) (any:=any) (l:=s.items.take (k+1)) (fun y hy=>hs.amt y (List.mem_of_mem_take hy))
  have hle:(s.items.take (k+1)).length≤1000:=by rw [List.length_take];omega
  generalize B5 (s.items.take k) f t any p=n at *
  generalize hn':B5 (s.items.take (k+1)) f t any p=n' at *
  have hxc:(s.items.map Item.c)[k]?=some x.c:=by simp [hx]
  have hxc' : ∀h,(s.items.map Item.c)[k]'h=x.c:=fun h=>by rw [List.getElem?_eq_getElem h] at hxc;exact Option.some.inj hxc
  obtain⟨i1,i2,i3,i4,i5,i6,i7⟩:=x
  simp only [] at hnx
  by_cases hc:f≤i4∧i4≤t∧(any=true∨i5=p)
  ·rw [if_pos hc] at hnx
   obtain⟨c1,c2,c3⟩:=hc
   have w1:IntKind.i64.wrap (n+i7)=n':=by rw [←hnx];exact wrap64 (by omega) (by omega)
   by_cases c4:p<0
   ·(try simp -implicitDefEqProofs [h,hxc,hxc',Item.c,c1,c2,c4,w1,e3,hbl])
    exact⟨k+1,by omega,by omega,by simp [hn',hS'];exact A6.ext _ q1⟩
   ·have c5:i5=p:=by rcases c3 with h|h;exact absurd (by rw [hany] at h;simpa using h) c4;exact h
    subst c5
    (try simp -implicitDefEqProofs [h,hxc,hxc',Item.c,c1,c2,c4,w1,e3,hbl])
    exact⟨k+1,by omega,by omega,by simp [hn',hS'];exact A6.ext _ q1⟩
  ·rw [if_neg hc,Int.add_zero] at hnx
   by_cases c1:f≤i4
   ·by_cases c2:i4≤t
    ·have c3 : ¬(p<0)∧¬i5=p:=by
      constructor
      ·intro h;exact hc ⟨c1,c2,.inl (by rw [hany];simpa using h)⟩
      ·intro h;exact hc ⟨c1,c2,.inr h⟩
     have c5:(i5==p)=false:=by simpa using c3.2
     (try simp -implicitDefEqProofs [h,hxc,hxc',Item.c,c1,c2,c3.1,c5,e3,hbl])
     exact⟨k+1,by omega,by omega,by simp [hn',hS',hnx];exact A6.ext _ q1⟩
    ·(try simp -implicitDefEqProofs [h,hxc,hxc',Item.c,c1,c2,e3,hbl])
     exact⟨k+1,by omega,by omega,by simp [hn',hS',hnx];exact A6.ext _ q1⟩
   ·(try simp -implicitDefEqProofs [h,hxc,hxc',Item.c,c1,e3,hbl])
    exact⟨k+1,by omega,by omega,by simp [hn',hS',hnx];exact A6.ext _ q1⟩
 ·have hk':k=s.items.length:=by omega
  subst hk'
  rw [List.take_of_length_le (Nat.le_refl _)]
  have ha:=O9 (B5 s.items f t any p)
  ((try simp at ha);(try simp -implicitDefEqProofs [hS']);repeat' first|(with_reducible apply A0<;>first|(simp only [eras,era,A1];first|with_reducible assumption)|(simp -implicitDefEqProofs [hS'])))
theorem Sr (n:Int) (s:Src):Em n s=((Fs n s.num s.den).1,(Fs n s.num s.den).2==0):=by
 unfold Em Fs
 cases h1:Ah n<;>simp
 cases h2:Ah (rnd (n*s.num) s.den)<;>simp
theorem Uv (b:Nat) (n:Int) (S:St) (hS:OkS S) (s:Src) (oth:Int) (lv:V) (mb:Nat) (sum:Int) (hs:s.Ok) (hb:S.boxes[b]?=some (.cells (mC s oth lv mb sum))) :
  FnS Tryz.prog 49 [.ptr b 0,vI n] S (.tup [vI (Em n s).1,vB (Em n s).2]) S:=by
 have hsc:=Ut n s.num s.den hs.num hs.den0 hs.den
 rw [Sr]
 generalize Fs n s.num s.den=r at *
 have hS':=hS
 simp [OkS] at hS'
 unfold mC at hb
 unfold rV at hsc
 (refine FnS.of_code mix Tryz.call49 k_49 (by simp) (fun hB=>?_);(try simp at hB);(try simp -implicitDefEqProofs))
 ((try simp at hsc);(try simp -implicitDefEqProofs [hb,hS']);repeat' first|(with_reducible apply A0<;>first|(simp only [eras,era,A1];first|with_reducible assumption)|(simp -implicitDefEqProofs [hb,hS'])))
theorem Ss (b mb:Nat) (acc n:Int) (S:St) (hS:OkS S) (s:Src) (oth:Int) (lv:V) (sum:Int) (es:List (Int×Int)) (hb:S.boxes[b]?=some (.cells (mC s oth lv mb sum))) (hmb:S.boxes[mb]?=some (.mp (mI vI es))) (hes:es.length≤10000)
  (hlv:okN S.boxes.length S.toks.length lv=true)
  (h1:IntKind.i64.wrap ((Bw es acc).getD 0+n)=(Bw es acc).getD 0+n) (h2:IntKind.i64.wrap (sum+n)=sum+n) :
  FnS Tryz.prog 50 [.ptr b 0,vI acc,vI n] S (.tup []) { S with boxes:=(S.boxes.set mb (.mp (mI vI (Cv es acc ((Bw es acc).getD 0+n))))).set b (.cells (mC s oth lv mb (sum+n))) }:=by
 obtain⟨L,tk⟩:=S
 simp only [] at hb hmb hlv
 have hne:b≠mb:=fun e=>by rw [e,hmb] at hb;cases hb
 have hbl:=A5 hb
 have hml:=A5 hmb
 have hfm:=Ov vI acc es
 have hsm:=Wh vI acc ((Bw es acc).getD 0+n) es
 have hal:=H9 es acc ((Bw es acc).getD 0+n)
 have hmx:(Cv es acc ((Bw es acc).getD 0+n)).length≤maxLen:=by unfold maxLen;omega
 have hget:Ph false false [vI 0] ((Bw es acc).map vI)=vI ((Bw es acc).getD 0):=by cases Bw es acc<;>rfl
 have hS':=hS
 simp [OkS] at hS'
 have hb2 : ∀v,(L.set mb v)[b]?=some (.cells (mC s oth lv mb sum)):=fun v=>by rw [List.getElem?_set_ne (Ne.symm hne)];exact hb
 unfold mC at hb hb2 ⊢
 (refine FnS.of_code mix Tryz.call50 k_50 (by simp) (fun hB=>?_);(try simp at hB);(try simp -implicitDefEqProofs))
 (try simp -implicitDefEqProofs [hb,hb2,hmb,hfm,hsm,hmx,h1,h2])
 exact⟨A6.set (show E.leB L.length tk.length (.cells _) (.cells _) from ⟨A3 _,by simp [okNs,okN,hlv,hml]⟩) b (A6.set (D1 _) mb hS.1),hS.2⟩
end Go.Proofs.YtmlpmdccfmmpoaaGreat
