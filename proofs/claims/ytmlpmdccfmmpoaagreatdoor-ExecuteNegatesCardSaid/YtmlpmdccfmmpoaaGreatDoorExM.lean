/- Chapter 35: the machine reads, scales and posts. -/
import Derived.Test.YtmlpmdccfmmpoaaGreatDoorIn2
import Derived.Test.YtmlpmdccfmmpoaaGreatDoorIn6
import Derived.Test.YtmlpmdccfmmpoaaGreatDoorMaps
set_option linter.unusedSimpArgs false
set_option linter.unusedVariables false
set_option maxHeartbeats 2000000
set_option maxRecDepth 8000
namespace Go.Proofs.YtmlpmdccfmmpoaaGreatDoor
open E
@[ext] structure Src where
 ent:Int
 full:Bool
 num:Int
 den:Nat
 items:List Item
def Az (l:List Item) (f t:Int) (any:Bool) (p:Int):Int:=(l.map fun x=>if f≤x.acc∧x.acc≤t∧(any=true∨x.par=p) then x.amt else 0).sum
def El (n:Int) (s:Src):Int×Bool:=if Ah n=true∧Ah (rnd (n*s.num) s.den)=true then (rnd (n*s.num) s.den,true) else (0,false)
def Jq (k:Int):List Int→List Int
 | []=>[k]
 | x::l=>if k<x then k::x::l else if k=x then x::l else x::Jq k l
def Aq (ps:List Part):List Int:=ps.foldr (fun p l=>Jq p.acc l) []
def As (ps:List Part) (k:Int):Int:=(ps.map fun p=>if p.acc=k then p.amt else 0).sum
def Cc (ps:List Part):Option (List Part):=
 if (Aq ps).all (fun k=>Ah (As ps k))=true then some (((Aq ps).filter fun k=>As ps k != 0).map fun k=>⟨k,As ps k⟩) else none
def Cm (s:Src) (oth:Int) (x:Ins) (st loc:List Int):Int×Bool:=
 if x.op=1 then (x.a,true)
 else if x.op=2 then (loc.getD x.a.toNat 0,true)
 else if x.op=3 then (Az s.items x.a x.b true 0,Ah (Az s.items x.a x.b true 0))
 else if x.op=4 then (Az s.items x.a x.b false oth,Ah (Az s.items x.a x.b false oth))
 else if x.op=7 then El (st.headD 0) s
 else if tk x.op=1 then opC x.op x.a (st.headD 0) 0
 else opC x.op 0 (st.getD 1 0) (st.headD 0)
def Aw (s:Src) (oth:Int):List Ins→List Int→List Int→List Part→Option (List Part)
 | [],_,_,_=>some []
 | x::l,st,loc,ps=>
  if x.op=23 then Aw s oth l st.tail (loc++[st.headD 0]) ps
  else if x.op=24 then if st.headD 0=0 then some [] else Aw s oth l st.tail loc ps
  else if x.op=25 then Aw s oth l st.tail loc (ps++[⟨x.a,st.headD 0⟩])
  else if x.op=26 then Cc (ps++[⟨x.a,-(ps.map Part.amt).sum⟩])
  else if (Cm s oth x st loc).2=true then Aw s oth l ((Cm s oth x st loc).1::st.drop (tk x.op).toNat) loc ps
  else none
def F8 (s:Src) (oth rule:Int) (ps:List Part):Posting:=if ps=[] then ⟨0,0,0,0,[]⟩ else ⟨10,s.ent,oth,rule,ps⟩
def Ce (c:Code) (s:Src) (oth rule:Int):Option Posting:=(Aw s oth c.ins [] [] []).map (F8 s oth rule)
def Dc (l:List Src):Bool:=(l.all fun s=>decide (0≤s.ent)&&decide (s.ent<12)&&s.items.all fun x=>Ah x.amt)&&(List.range l.length).all fun i=>i==0||decide ((l.getD (i-1) ⟨0,false,0,0,[]⟩).ent<(l.getD i ⟨0,false,0,0,[]⟩).ent)
def G2 (l:List Src) (pair:Bool) (s:Src):List Int:=if pair=true then (l.filter fun o=>o.full&&o.ent != s.ent).map Src.ent else [-1]
def Em (l:List Src) (pair:Bool):List (Src×Int):=(l.filter Src.full).flatMap fun s=>(G2 l pair s).map fun o=>(s,o)
def Bi:List (Option Posting)→Option (List Posting)
 | []=>some []
 | none::_=>none
 | some p::l=>(Bi l).map fun ps=>if p.parts=[] then ps else p::ps
def Zy (l:List Src) (rs:List (Bool×(Src→Int→Option Posting))):List (Option Posting):=rs.flatMap fun r=>(Em l r.1).map fun x=>r.2 x.1 x.2
def Ff (c:List Code) (l:List Src):Option (List Posting):=Bi (Zy l (c.zipIdx.map fun x=>(x.1.pair,fun s o=>Ce x.1 s o x.2)))
theorem Me {k x:Int} : ∀{l:List Int},x∈Jq k l↔x=k∨x∈l
 | []=>by simp [Jq]
 | y::l=>by
  unfold Jq
  split
  ·simp
  ·split
   ·rename_i h;subst h;simp
   ·simp [Me (l:=l)];constructor
    ·rintro (h|h|h)<;>simp [h]
    ·rintro (h|h|h)<;>simp [h]
theorem Kh {k:Int} : ∀{l:List Int},l.Pairwise (· < ·)→(Jq k l).Pairwise (· < ·)
 | [],_=>by simp [Jq]
 | y::l,h=>by
  have h1:=List.pairwise_cons.1 h
  unfold Jq
  split
  ·rename_i hk
   refine List.pairwise_cons.2 ⟨fun z hz=>?_,h⟩
   rcases List.mem_cons.1 hz with rfl|hz
   ·exact hk
   ·exact Int.lt_trans hk (h1.1 z hz)
  ·split
   ·exact h
   ·refine List.pairwise_cons.2 ⟨fun z hz=>?_,Kh h1.2⟩
    rcases Me.1 hz with rfl|hz
    ·omega
    ·exact h1.1 z hz
theorem Dk : ∀(ps:List Part),(Aq ps).Pairwise (· < ·)
 | []=>List.Pairwise.nil
 | _::l=>Kh (Dk l)
theorem Dg {k:Int} : ∀{ps:List Part},k∈Aq ps↔∃p∈ps,p.acc=k
 | []=>by simp [Aq]
 | q::l=>by
  have ih:=Dg (k:=k) (ps:=l)
  have e:Aq (q::l)=Jq q.acc (Aq l):=rfl
  rw [e,Me,ih]
  constructor
  ·rintro (h|⟨p,h1,h2⟩)
   ·exact⟨q,by simp,h.symm⟩
   ·exact⟨p,by simp [h1],h2⟩
  ·rintro ⟨p,h1,h2⟩
   rcases List.mem_cons.1 h1 with rfl|h1
   ·exact .inl h2.symm
   ·exact .inr ⟨p,h1,h2⟩
theorem Gy : ∀{a b:List Int},a.Pairwise (· < ·)→b.Pairwise (· < ·)→(∀x,x∈a↔x∈b)→a=b
 | [],[],_,_,_=>rfl
 | [],y::b,_,_,h=>by have:=(h y).2 (by simp);simp at this
 | x::a,[],_,_,h=>by have:=(h x).1 (by simp);simp at this
 | x::a,y::b,ha,hb,h=>by
  have h1:=List.pairwise_cons.1 ha
  have h2:=List.pairwise_cons.1 hb
  have e:x=y:=by
   rcases List.mem_cons.1 ((h x).1 (by simp)) with e|e
   ·exact e
   ·rcases List.mem_cons.1 ((h y).2 (by simp)) with e'|e'
    ·exact e'.symm
    ·have:=h1.1 y e';have:=h2.1 x e;omega
  subst e
  congr 1
  refine Gy h1.2 h2.2 fun z=>⟨fun hz=>?_,fun hz=>?_⟩
  ·rcases List.mem_cons.1 ((h z).1 (by simp [hz])) with e|e
   ·subst e;exact absurd (h1.1 z hz) (by omega)
   ·exact e
  ·rcases List.mem_cons.1 ((h z).2 (by simp [hz])) with e|e
   ·subst e;exact absurd (h2.1 z hz) (by omega)
   ·exact e
theorem E9 {α:Type} {f:α→Int} : ∀{l:List α},(∀x∈l,f x=0)→(l.map f).sum=0
 | [],_=>rfl
 | x::l,h=>by
  have:=E9 (f:=f) (l:=l) fun y hy=>h y (by simp [hy])
  simp [h x (by simp),this]
theorem Ki {α:Type} {f g:α→Int} : ∀{l:List α},(l.map fun x=>f x+g x).sum=(l.map f).sum+(l.map g).sum
 | []=>rfl
 | x::l=>by have:=Ki (f:=f) (g:=g) (l:=l);simp at this ⊢;omega
theorem Rd {k v:Int} : ∀{l:List Int},l.Pairwise (· < ·)→k∈l→(l.map fun x=>if k=x then v else 0).sum=v
 | [],_,h=>by simp at h
 | x::l,hs,h=>by
  have h1:=List.pairwise_cons.1 hs
  rw [List.map_cons,List.sum_cons]
  by_cases hx:k=x
  ·subst hx
   have:(l.map fun x=>if k=x then v else 0).sum=0:=E9 fun y hy=>by
    have:=h1.1 y hy
    rw [if_neg (by omega)]
   rw [this,if_pos rfl];omega
  ·rw [if_neg hx,Rd h1.2 (by rcases List.mem_cons.1 h with e|e;exact absurd e hx;exact e)];omega
theorem U7 (p:Part) (ps:List Part) (k:Int):As (p::ps) k=(if p.acc=k then p.amt else 0)+As ps k:=rfl
theorem Mf {ps:List Part} {k:Int} (h:k∉Aq ps):As ps k=0:=E9 fun p hp=>by
 rw [if_neg fun e=>h (Dg.2 ⟨p,hp,e⟩)]
theorem Re {l:List Int} (hl:l.Pairwise (· < ·)) : ∀{ps:List Part},(∀p∈ps,p.acc∈l)→(l.map (As ps)).sum=(ps.map Part.amt).sum
 | [],_=>by rw [E9];rfl;intro x _;rfl
 | p::ps,h=>by
  have ih:=Re hl (ps:=ps) fun q hq=>h q (by simp [hq])
  have e:(l.map (As (p::ps)))=l.map fun x=>(if p.acc=x then p.amt else 0)+As ps x:=rfl
  rw [e,Ki,Rd hl (h p (by simp)),List.map_cons,List.sum_cons]
  have e2:(l.map fun x=>As ps x)=l.map (As ps):=rfl
  rw [e2,ih]
theorem Mg {f:Int→Int} : ∀{l:List Int},((l.filter fun k=>f k != 0).map f).sum=(l.map f).sum
 | []=>rfl
 | x::l=>by
  have ih:=Mg (f:=f) (l:=l)
  by_cases h:f x=0
  ·rw [List.filter_cons_of_neg (by simp [h]),ih,List.map_cons,List.sum_cons,h];omega
  ·rw [List.filter_cons_of_pos (by simp [h]),List.map_cons,List.sum_cons,ih,List.map_cons,List.sum_cons]
structure PartsOk (l:List Part):Prop where
 srt:(l.map Part.acc).Pairwise (· < ·)
 nz : ∀p∈l,p.amt≠0
 am : ∀p∈l,Ah p.amt=true
 sum:(l.map Part.amt).sum=0
 two:l≠[]→2≤l.length
theorem X8 {ps l:List Part} (h:Cc ps=some l) (hs:(ps.map Part.amt).sum=0):PartsOk l:=by
 unfold Cc at h
 split at h
 ·rename_i ha
  cases h
  have hsum:(((((Aq ps).filter fun k=>As ps k != 0).map fun k=>(⟨k,As ps k⟩:Part)).map Part.amt).sum)=0:=by
   rw [List.map_map]
   have e:(Part.amt∘fun k=>(⟨k,As ps k⟩:Part))=As ps:=rfl
   rw [e,Mg,Re (Dk ps) fun p hp=>Dg.2 ⟨p,hp,rfl⟩,hs]
  have hnz : ∀p∈((Aq ps).filter fun k=>As ps k != 0).map fun k=>(⟨k,As ps k⟩:Part),p.amt≠0:=fun p hp=>by
   obtain⟨k,hk,rfl⟩:=List.mem_map.1 hp
   have:=(List.mem_filter.1 hk).2
   simpa using this
  refine⟨?_,hnz,fun p hp=>?_,hsum,fun hne=>?_⟩
  ·rw [List.map_map]
   have e:(Part.acc∘fun k=>(⟨k,As ps k⟩:Part))=id:=rfl
   rw [e,List.map_id]
   exact (Dk ps).filter _
  ·obtain⟨k,hk,rfl⟩:=List.mem_map.1 hp
   exact List.all_eq_true.1 ha k (List.mem_filter.1 hk).1
  ·generalize ((Aq ps).filter fun k=>As ps k != 0).map (fun k=>(⟨k,As ps k⟩:Part))=q at *
   match q with
   | []=>exact absurd rfl hne
   | [x]=>simp at hsum;exact absurd hsum (hnz x (by simp))
   | _::_::_=>simp
 ·cases h
theorem Gz {s:Src} {oth:Int} : ∀{l:List Ins} {st loc:List Int} {ps q:List Part},Aw s oth l st loc ps=some q→PartsOk q
 | [],st,loc,ps,q,h=>by cases h;exact⟨by simp,by simp,by simp,rfl,by simp⟩
 | x::l,st,loc,ps,q,h=>by
  unfold Aw at h
  split at h
  ·exact Gz h
  split at h
  ·split at h
   ·cases h;exact⟨by simp,by simp,by simp,rfl,by simp⟩
   ·exact Gz h
  split at h
  ·exact Gz h
  split at h
  ·refine X8 h ?_
   rw [List.map_append,List.sum_append]
   simp;omega
  split at h
  ·exact Gz h
  ·cases h
theorem H0 {p:Posting} : ∀{l:List (Option Posting)} {q:List Posting},Bi l=some q→p∈q→some p∈l∧p.parts≠[]
 | [],q,h,hp=>by cases h;simp at hp
 | none::l,q,h,hp=>by cases h
 | some x::l,q,h,hp=>by
  simp only [Bi] at h
  cases hg:Bi l with
  | none=>rw [hg] at h;cases h
  | some y=>
   rw [hg] at h
   simp only [Option.map_some,Option.some.injEq] at h
   by_cases hx:x.parts=[]
   ·rw [if_pos hx] at h;subst h
    obtain⟨h1,h2⟩:=H0 hg hp
    exact⟨by simp [h1],h2⟩
   ·rw [if_neg hx] at h;subst h
    rcases List.mem_cons.1 hp with rfl|hp
    ·exact⟨by simp,hx⟩
    ·obtain⟨h1,h2⟩:=H0 hg hp
     exact⟨by simp [h1],h2⟩
def Src.c (s:Src):List T:=[.int .i64 s.ent,.bool s.full]++rC s.num s.den++[.sl (s.items.map Item.c)]
def Src.v (s:Src):V:=.agg (s.c.map .t)
def Src.l (l:List Src):V:=.t (.sl (l.map Src.c))
def mC (s:Src) (oth:Int) (lv:V) (mb:Nat) (sum:Int):List V:=[vI s.ent,vB s.full,.t (.bool (nB s.num)),.t (.sl (pE s.num)),.t (.bool (nB s.den)),.t (.sl (pE s.den)),.t (.sl (s.items.map Item.c)),vI oth,lv,.mp mb,vI sum]
structure Src.Ok (s:Src):Prop where
 num:s.num.natAbs≤100000
 den0:0<s.den
 den:s.den≤100000
 len:s.items.length≤1000
 amt : ∀x∈s.items,Ah x.amt=true
theorem G3 {n:Int} (h:Ah n=true) : -1000000000000≤n∧n≤1000000000000:=by unfold Ah at h;simpa using h
theorem Rf {f t p:Int} {any:Bool} : ∀{l:List Item},(∀x∈l,Ah x.amt=true)→-(1000000000000*(l.length:Int))≤Az l f t any p∧Az l f t any p≤1000000000000*(l.length:Int)
 | [],_=>by simp [Az]
 | x::l,h=>by
  have ih:=Rf (f:=f) (t:=t) (p:=p) (any:=any) (l:=l) fun y hy=>h y (by simp [hy])
  have h1:=G3 (h x (by simp))
  have e:Az (x::l) f t any p=(if f≤x.acc∧x.acc≤t∧(any=true∨x.par=p) then x.amt else 0)+Az l f t any p:=rfl
  rw [e,List.length_cons]
  push_cast
  split<;>omega
theorem U8 {l:List Item} {k:Nat} {x:Item} (h:l[k]?=some x) (f t p:Int) (any:Bool):Az (l.take (k+1)) f t any p=Az (l.take k) f t any p+(if f≤x.acc∧x.acc≤t∧(any=true∨x.par=p) then x.amt else 0):=by
 rw [Ag h]
 unfold Az
 rw [List.map_append,List.sum_append]
 simp
theorem P8 (n:Int):A8 Tryz.prog 67 [vI n] (vB (Ah n)):=by
 unfold Ah
 (refine A8.of_code mix Tryz.call67 k_67 (by simp) (fun hB=>?_);(try simp at hB);(try simp -implicitDefEqProofs))
 ((try simp -implicitDefEqProofs);repeat' first|((with_reducible first|apply Ac|apply Ad|apply A5)<;>(intro hc;have hc':=hc;(try simp at hc');simp -implicitDefEqProofs [hc,hc'])))
theorem A6.ext {n m:Nat} : ∀{A B:List Bx} (l:List Bx),A6 n m A B→A6 n m (A++l) B
 | [],[],l,_=>by cases l<;>trivial
 | a::A,[],l,_=>trivial
 | [],b::B,l,h=>h.elim
 | a::A,b::B,l,h=>⟨h.1,A6.ext (A:=A) (B:=B) l h.2⟩
theorem A6.set {n m:Nat} {x y:Bx} (hxy:E.leB n m x y) : ∀{A B:List Bx} (i:Nat),A6 n m A B→A6 n m (A.set i x) (B.set i y)
 | [],[],i,_=>trivial
 | a::A,[],0,_=>trivial
 | a::A,[],i+1,_=>trivial
 | [],b::B,i,h=>h.elim
 | a::A,b::B,0,h=>⟨hxy,h.2⟩
 | a::A,b::B,i+1,h=>⟨h.1,A6.set hxy (A:=A) (B:=B) i h.2⟩
theorem Zz {l:List V} {a b:Nat} (h : ∀v∈l,∃x,v=.t x):okNs a b l=true:=by
 induction l with
 | nil=>rfl
 | cons v l ih=>
  obtain⟨x,rfl⟩:=h v (by simp)
  simp only [okNs,okN,ih fun w hw=>h w (by simp [hw]),Bool.and_self]
theorem Ea {n m:Nat} (es:List (Int×Int)):E.leB n m (.mp (mI vI es)) (.mp (mI vI es)):=
 ⟨rfl,Zz fun v hv=>by simp only [mI,List.map_map,List.mem_map] at hv;obtain⟨p,_,rfl⟩:=hv;exact⟨_,rfl⟩,Zz fun v hv=>by simp only [mI,List.map_map,List.mem_map] at hv;obtain⟨p,_,rfl⟩:=hv;exact⟨_,rfl⟩⟩
theorem P9 (b:Nat) (f t p:Int) (S:St) (hS:OkS S) (s:Src) (oth:Int) (lv:V) (mb:Nat) (sum:Int) (hs:s.Ok) (hb:S.boxes[b]?=some (.cells (mC s oth lv mb sum))) :
  FnS Tryz.prog 71 [.ptr b 0,vI f,vI t,vI p] S (.tup [vI (Az s.items f t (decide (p<0)) p),vB (Ah (Az s.items f t (decide (p<0)) p))]) S:=by
 obtain⟨L,tk⟩:=S
 simp only [] at hb
 have hbl:=A4 hb
 have hb' : ∀l:List Bx,(L++l)[b]?=some (.cells (mC s oth lv mb sum)):=fun l=>by rw [List.getElem?_append_left hbl];exact hb
 have hS':=hS
 simp [OkS] at hS'
 obtain⟨q1,q2⟩:A6 L.length tk.length L L∧Cv tk tk:=hS
 have hlen:=hs.len
 unfold mC at hb hb'
 obtain⟨any,hany⟩ : ∃any,any=decide (p<0):=⟨_,rfl⟩
 rw [←hany]
 (refine FnS.of_code mix Tryz.call71 k_71 (by simp) (fun hB=>?_);(try simp at hB);(try simp -implicitDefEqProofs))
 (try simp -implicitDefEqProofs [hb,hb'])
 refine A7 (X:=Nat) (fun k=>k≤s.items.length) (fun k=>[(1,vI f),(2,vI t),(3,vI p),(10,vI (Az (s.items.take k) f t any p)),(17,.t (.sl (s.items.map Item.c))),(18,vI s.items.length),(19,vI k)]) (fun _=>⟨L,tk⟩) (fun k=>s.items.length-k) 0 (by omega) ?hs ?_
 case hs=>simp [Az,hS']
 rintro k hk hbd
 clear hbd
 have e3:IntKind.i64.wrap ((k:Int)+1)=(k:Int)+1:=wrap64 (by omega) (by omega)
 rcases Nat.lt_or_ge k s.items.length with h|h
 ·obtain⟨x,hx⟩:=Aa h
  have hnx:=U8 hx f t p any
  have hbd:=Rf (f:=f) (t:=t) (p:=p) (any:=any) (l:=s.items.take (k+1)) (fun y hy=>hs.amt y (List.mem_of_mem_take hy))
  have hle:(s.items.take (k+1)).length≤1000:=by rw [List.length_take];omega
  generalize Az (s.items.take k) f t any p=n at *
  generalize hn':Az (s.items.take (k+1)) f t any p=n' at *
  have hxc:(s.items.map Item.c)[k]?=some x.c:=by simp [hx]
  have hxc' : ∀h,(s.items.map Item.c)[k]'h=x.c:=fun h=>by rw [List.getElem?_eq_getElem h] at hxc;exact Option.some.inj hxc
  obtain⟨i1,i2,i3,i4,i5,i6,i7⟩:=x
  simp only [] at hnx
  by_cases hc:f≤i4∧i4≤t∧(any=true∨i5=p)
  ·rw [if_pos hc] at hnx
   obtain⟨c1,c2,c3⟩:=hc
   have w1:IntKind.i64.wrap (n+i7)=n':=by rw [←hnx];exact wrap64 (by omega) (by omega)
   by_cases c4:p<0
   ·(try simp -implicitDefEqProofs [h,hxc,hxc',Item.c,c1,c2,c4,w1,e3,hbl])
    exact⟨k+1,by omega,by omega,by simp [hn',hS'];exact A6.ext _ q1⟩
   ·have c5:i5=p:=by rcases c3 with h|h;exact absurd (by rw [hany] at h;simpa using h) c4;exact h
    subst c5
    (try simp -implicitDefEqProofs [h,hxc,hxc',Item.c,c1,c2,c4,w1,e3,hbl])
    exact⟨k+1,by omega,by omega,by simp [hn',hS'];exact A6.ext _ q1⟩
  ·rw [if_neg hc,Int.add_zero] at hnx
   by_cases c1:f≤i4
   ·by_cases c2:i4≤t
    ·have c3 : ¬(p<0)∧¬i5=p:=by
      constructor
      ·intro h;exact hc ⟨c1,c2,.inl (by rw [hany];simpa using h)⟩
      ·intro h;exact hc ⟨c1,c2,.inr h⟩
     have c5:(i5==p)=false:=by simpa using c3.2
     (try simp -implicitDefEqProofs [h,hxc,hxc',Item.c,c1,c2,c3.1,c5,e3,hbl])
     exact⟨k+1,by omega,by omega,by simp [hn',hS',hnx];exact A6.ext _ q1⟩
    ·(try simp -implicitDefEqProofs [h,hxc,hxc',Item.c,c1,c2,e3,hbl])
     exact⟨k+1,by omega,by omega,by simp [hn',hS',hnx];exact A6.ext _ q1⟩
   ·(try simp -implicitDefEqProofs [h,hxc,hxc',Item.c,c1,e3,hbl])
    exact⟨k+1,by omega,by omega,by simp [hn',hS',hnx];exact A6.ext _ q1⟩
 ·have hk':k=s.items.length:=by omega
  subst hk'
  rw [List.take_of_length_le (Nat.le_refl _)]
  have ha:=P8 (Az s.items f t any p)
  ((try simp at ha);(try simp -implicitDefEqProofs [hS']);repeat' first|(with_reducible apply A0<;>first|(simp only [eras,era,A1];first|with_reducible assumption)|(simp -implicitDefEqProofs [hS'])))
theorem A00 (n:Int) (s:Src):El n s=((I8 n s.num s.den).1,(I8 n s.num s.den).2==0):=by
 unfold El I8
 cases h1:Ah n<;>simp
 cases h2:Ah (rnd (n*s.num) s.den)<;>simp
theorem Vm (b:Nat) (n:Int) (S:St) (hS:OkS S) (s:Src) (oth:Int) (lv:V) (mb:Nat) (sum:Int) (hs:s.Ok) (hb:S.boxes[b]?=some (.cells (mC s oth lv mb sum))) :
  FnS Tryz.prog 72 [.ptr b 0,vI n] S (.tup [vI (El n s).1,vB (El n s).2]) S:=by
 have hsc:=A2s n s.num s.den hs.num hs.den0 hs.den
 rw [A00]
 generalize I8 n s.num s.den=r at *
 have hS':=hS
 simp [OkS] at hS'
 unfold mC at hb
 unfold rV at hsc
 (refine FnS.of_code mix Tryz.call72 k_72 (by simp) (fun hB=>?_);(try simp at hB);(try simp -implicitDefEqProofs))
 ((try simp at hsc);(try simp -implicitDefEqProofs [hb,hS']);repeat' first|(with_reducible apply A0<;>first|(simp only [eras,era,A1];first|with_reducible assumption)|(simp -implicitDefEqProofs [hb,hS'])))
theorem Mh (b mb:Nat) (acc n:Int) (S:St) (hS:OkS S) (s:Src) (oth:Int) (lv:V) (sum:Int) (es:List (Int×Int)) (hb:S.boxes[b]?=some (.cells (mC s oth lv mb sum))) (hmb:S.boxes[mb]?=some (.mp (mI vI es))) (hes:es.length≤10000)
  (hlv:okN S.boxes.length S.toks.length lv=true)
  (h1:IntKind.i64.wrap ((B7 es acc).getD 0+n)=(B7 es acc).getD 0+n) (h2:IntKind.i64.wrap (sum+n)=sum+n) :
  FnS Tryz.prog 86 [.ptr b 0,vI acc,vI n] S (.tup []) { S with boxes:=(S.boxes.set mb (.mp (mI vI (Ca es acc ((B7 es acc).getD 0+n))))).set b (.cells (mC s oth lv mb (sum+n))) }:=by
 obtain⟨L,tk⟩:=S
 simp only [] at hb hmb hlv
 have hne:b≠mb:=fun e=>by rw [e,hmb] at hb;cases hb
 have hbl:=A4 hb
 have hml:=A4 hmb
 have hfm:=L7 vI acc es
 have hsm:=Z9 vI acc ((B7 es acc).getD 0+n) es
 have hal:=F6 es acc ((B7 es acc).getD 0+n)
 have hmx:(Ca es acc ((B7 es acc).getD 0+n)).length≤maxLen:=by unfold maxLen;omega
 have hget:Oi false false [vI 0] ((B7 es acc).map vI)=vI ((B7 es acc).getD 0):=by cases B7 es acc<;>rfl
 have hS':=hS
 simp [OkS] at hS'
 have hb2 : ∀v,(L.set mb v)[b]?=some (.cells (mC s oth lv mb sum)):=fun v=>by rw [List.getElem?_set_ne (Ne.symm hne)];exact hb
 unfold mC at hb hb2 ⊢
 (refine FnS.of_code mix Tryz.call86 k_86 (by simp) (fun hB=>?_);(try simp at hB);(try simp -implicitDefEqProofs))
 (try simp -implicitDefEqProofs [hb,hb2,hmb,hfm,hsm,hmx,h1,h2])
 exact⟨A6.set (show E.leB L.length tk.length (.cells _) (.cells _) from ⟨A3 _,by simp [okNs,okN,hlv,hml]⟩) b (A6.set (Ea _) mb hS.1),hS.2⟩
end Go.Proofs.YtmlpmdccfmmpoaaGreatDoor
