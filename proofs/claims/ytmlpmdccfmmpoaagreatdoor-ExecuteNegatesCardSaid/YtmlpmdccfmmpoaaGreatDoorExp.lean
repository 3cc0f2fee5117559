/- Chapter 33: the checker's types of expressions. -/
import Derived.Test.YtmlpmdccfmmpoaaGreatDoorMaps
import Derived.Test.YtmlpmdccfmmpoaaGreatDoorInf
import Derived.Test.YtmlpmdccfmmpoaaGreatDoorCodeB
section
set_option linter.unusedSimpArgs false
set_option linter.unusedVariables false
set_option maxHeartbeats 4000000
set_option maxRecDepth 8000
namespace Go.Proofs.YtmlpmdccfmmpoaaGreatDoor
open E

abbrev D8 (b:Bool):V:=.t (.bool b)
structure Hlds (b:Nat) (M:List (List UInt8)) (B:List Bx):Prop where
 at':B[b]?=some (.mp (mS D8 (Bp M)))
 le : ∀n m,B.length≤n→A6 n m B B
theorem A6.app' {n m:Nat} {A:List Bx} : ∀{l l':List Bx},A6 n m A A→(A6 n m (A++l) (A++l')↔A6 n m l l'):=by
 intro l l' h
 induction A with
 | nil=>rfl
 | cons a A ih=>exact⟨fun k=>(ih h.2).1 k.2,fun k=>⟨h.1,(ih h.2).2 k⟩⟩
theorem A6.drop' {n m:Nat} {A:List Bx} (l:List Bx) (h:A6 n m A A):A6 n m (A++l) A:=by
 have:=(A6.app' (l:=l) (l':=[]) h).2 (by cases l<;>trivial)
 rwa [List.append_nil] at this
theorem Pc (B:List Bx) (l:List Bx):(B++l)[B.length]?=l[0]?:=by rw [List.getElem?_append_right (by omega)];congr 1;omega
theorem Rt (B:List Bx) (l:List Bx):(B++l)[B.length+1]?=l[1]?:=by rw [List.getElem?_append_right (by omega)];congr 1;omega
theorem Hlds.app {b:Nat} {M:List (List UInt8)} {B:List Bx} (h:Hlds b M B) (l:List Bx):(B++l)[b]?=some (.mp (mS D8 (Bp M))):=by
 have:=h.at'
 rw [List.getElem?_append_left (by rcases Nat.lt_or_ge b B.length with h'|h';exact h';simp [List.getElem?_eq_none h'] at this)]
 exact this
abbrev vC (b:Nat) (pair:Bool):V:=.agg [.mp b,vB pair]
def F9 (e:Int):V:=.t (.ifc 219 false [tI e])
def Ru (b:Nat) (M:List (List UInt8)) (pair:Bool) (x:Xp):Prop:=∀B,Hlds b M B→
 ((x.inf (fun s=>decide (s∈M)) pair).2=0→FnS Tryz.prog 64 [vC b pair,x.v] ⟨B,[]⟩ (vI (x.inf (fun s=>decide (s∈M)) pair).1) ⟨B,[]⟩)∧
 ((x.inf (fun s=>decide (s∈M)) pair).2≠0→FnP Tryz.prog 64 [vC b pair,x.v] ⟨B,[]⟩ (F9 (x.inf (fun s=>decide (s∈M)) pair).2) ⟨B,[]⟩)
theorem A2z (b:Nat) (M:List (List UInt8)) (pair:Bool) (vl fr to:Int) (nm:List UInt8) (xs:List Xp) (hxs:xs=[]):Ru b M pair (.mk 2 vl fr to nm xs):=by
 subst hxs
 intro B hB
 have hg:=hB.app
 have hg0:=Pc B
 have hg1:=Rt B
 have hfm:=Ha D8 nm (Bp M)
 rw [Ei] at hfm
 have hle:=fun l l' n m h=>A6.app' (l:=l) (l':=l') (hB.le n m h)
 have hdr:=fun l n m h=>A6.drop' (n:=n) (m:=m) l (hB.le n m h)
 have hbd:b<B.length:=by
  have:=hB.at'
  rcases Nat.lt_or_ge b B.length with h'|h'
  ·exact h'
  ·simp [List.getElem?_eq_none h'] at this
 by_cases hm:nm∈M
 ·rw [if_pos hm] at hfm
  refine⟨fun _=>?_,fun h=>?_⟩
  ·have:(Xp.inf (fun s=>decide (s∈M)) pair (.mk 2 vl fr to nm []))=(1,0):=by simp [Xp.inf,Xp.infs,G8,hm,Jx]
   rw [this,Xp.v,Xp.c_mk]
   (refine FnS.of_code mix Tryz.call64 k_64 (by simp) (fun hB=>?_);(try simp at hB);(try simp -implicitDefEqProofs))
   (try simp -implicitDefEqProofs [hg,hg0,hg1,hfm,hle,hdr])
  ·exact absurd (by simp [Xp.inf,Xp.infs,G8,hm]) h
 ·rw [if_neg hm] at hfm
  refine⟨fun h=>?_,fun _=>?_⟩
  ·exact absurd h (by simp [Xp.inf,Xp.infs,G8,hm])
  ·have:(Xp.inf (fun s=>decide (s∈M)) pair (.mk 2 vl fr to nm []))=(0,17):=by simp [Xp.inf,Xp.infs,G8,hm]
   rw [this,Xp.v,Xp.c_mk]
   unfold F9
   (refine FnP.of_code mix Tryz.call64 k_64 (by simp) (fun hB=>?_);(try simp at hB);(try simp -implicitDefEqProofs))
   (try simp -implicitDefEqProofs [hg,hg0,hg1,hfm,hle,hdr])
theorem Hlds.more {b:Nat} {M:List (List UInt8)} {B:List Bx} (h:Hlds b M B) (l:List Bx) (hl : ∀n m,B.length+l.length≤n→A6 n m l l):Hlds b M (B++l):=
 ⟨h.app l,fun n m hn=>by
  rw [List.length_append] at hn
  exact (A6.app' (h.le n m (by omega))).2 (hl n m hn)⟩
theorem Hlds.lt {b:Nat} {M:List (List UInt8)} {B:List Bx} (h:Hlds b M B):b<B.length:=by
 have:=h.at'
 rcases Nat.lt_or_ge b B.length with h'|h'
 ·exact h'
 ·simp [List.getElem?_eq_none h'] at this
theorem A30 (b:Nat) (M:List (List UInt8)) (pair:Bool) (kd vl fr to:Int) (nm:List UInt8) (xs:List Xp) (want:Int) (ih : ∀a∈xs,Ru b M pair a) (B:List Bx) (hB:Hlds b M B)
  (h0:Xp.infs (fun s=>decide (s∈M)) pair want xs=(0,false)):FnS Tryz.prog 113 [vC b pair,(Xp.mk kd vl fr to nm xs).v,vI want] ⟨B,[]⟩ (.tup []) ⟨B,[]⟩:=by
 have hg:=hB.app
 have hg0:=Pc B
 have hg1:=Rt B
 have hle:=fun l l' n m h=>A6.app' (l:=l) (l':=l') (hB.le n m h)
 have hdr:=fun l n m h=>A6.drop' (n:=n) (m:=m) l (hB.le n m h)
 have hbl:=hB.lt
 have hB0:=hB
 rw [Xp.v,Xp.c_mk]
 (refine FnS.of_code mix Tryz.call113 k_113 (by simp) (fun hB=>?_);(try simp at hB);(try simp -implicitDefEqProofs))
 refine A7 (X:=Nat) (fun k=>k≤xs.length∧Xp.infs (fun s=>decide (s∈M)) pair want (xs.drop k)=(0,false)) (fun k=>[(2,vI want),(3,.ptr B.length 0),(4,.ptr (B.length+1) 0),(6,vB false),(10,Xp.l xs),(11,vI xs.length),(12,vI k)])
  (fun k=>⟨B++[.cells [.mp b,vB pair],.cells [vI kd,vI vl,vI fr,vI to,vS nm,Xp.l xs]],[]⟩) (fun k=>xs.length-k) 0 ⟨by simp,by simpa using h0⟩ ?_ ?_
 ·simp [hle]
  omega
 rintro k ⟨hk,hi⟩ hbd
 rcases Nat.lt_or_ge k xs.length with h|h
 ·have hx:xs[k]?=some xs[k]:=by simp [h]
  have hrec:=ih xs[k] (List.getElem_mem h)
  have e3:IntKind.i64.wrap ((k:Int)+1)=(k:Int)+1:=wrap64 (by omega) (by simp [maxLen] at hB;omega)
  have hlc:=Du xs[k]
  have htc:=Cw xs[k]
  rw [List.drop_eq_getElem_cons h,Xp.infs] at hi
  have hie:(Xp.inf (fun s=>decide (s∈M)) pair xs[k]).2=0:=by
   by_cases hq:(Xp.inf (fun s=>decide (s∈M)) pair xs[k]).2=0
   ·exact hq
   ·rw [if_pos hq] at hi
    exact absurd (congrArg Prod.fst hi) hq
  rw [if_neg (by simpa using hie)] at hi
  have hi1:=congrArg Prod.fst hi
  have hi2:=congrArg Prod.snd hi
  simp only [Bool.or_eq_false_iff] at hi1 hi2
  have hcall:=(hrec (B++[.cells [.mp b,vB pair],.cells [vI kd,vI vl,vI fr,vI to,vS nm,Xp.l xs],.cells (xs[k].c.map V.t)]) (hB0.more _ (fun n m hn=>by
   simp only [List.length_cons,List.length_nil] at hn
   refine⟨⟨A3 _,?_⟩,⟨A3 _,?_⟩,⟨A3 _,?_⟩,trivial⟩
   ·simp [okNs,okN];omega
   ·simp [okNs,okN]
   ·exact Au (fun v hv=>by obtain⟨t,_,rfl⟩:=List.mem_map.1 hv;rfl)))).1 hie
  generalize (Xp.inf (fun s=>decide (s∈M)) pair xs[k]).1=it at *
  have hw:it=want:=by simpa using hi2.1
  (try simp -implicitDefEqProofs [h,e3,hlc,htc,hg,hg0,hg1,hle,hdr])
  refine Ab hcall ?_
  (try simp -implicitDefEqProofs [h,e3,hlc,htc,hg,hg0,hg1,hle,hdr,hw])
  exact⟨k+1,⟨by omega,Prod.ext hi1 hi2.2⟩,by omega,by omega,by push_cast;rfl⟩
 ·have:k=xs.length:=by omega
  subst this
  (try simp -implicitDefEqProofs [hg,hg0,hg1,hle,hdr])
theorem A0c (b:Nat) (M:List (List UInt8)) (pair:Bool) (kd vl fr to:Int) (nm:List UInt8) (xs:List Xp) (want:Int) (ih : ∀a∈xs,Ru b M pair a) (B:List Bx) (hB:Hlds b M B) (r:Int×Bool)
  (h0:Xp.infs (fun s=>decide (s∈M)) pair want xs=r) (hr:r.1≠0∨r.2=true):FnP Tryz.prog 113 [vC b pair,(Xp.mk kd vl fr to nm xs).v,vI want] ⟨B,[]⟩ (F9 (if r.1≠0 then r.1 else 16)) ⟨B,[]⟩:=by
 have hg:=hB.app
 have hg0:=Pc B
 have hg1:=Rt B
 have hle:=fun l l' n m h=>A6.app' (l:=l) (l':=l') (hB.le n m h)
 have hdr:=fun l n m h=>A6.drop' (n:=n) (m:=m) l (hB.le n m h)
 have hbl:=hB.lt
 have hB0:=hB
 unfold F9
 rw [Xp.v,Xp.c_mk]
 generalize hR:(if r.1≠0 then r.1 else (16:Int))=R
 (refine FnP.of_code mix Tryz.call113 k_113 (by simp) (fun hB=>?_);(try simp at hB);(try simp -implicitDefEqProofs))
 refine A7 (X:=Nat×Bool) (fun X=>X.1≤xs.length∧(Xp.infs (fun s=>decide (s∈M)) pair want (xs.drop X.1)).1=r.1∧(r.1=0→(X.2||(Xp.infs (fun s=>decide (s∈M)) pair want (xs.drop X.1)).2)=r.2)) (fun X=>[(2,vI want),(3,.ptr B.length 0),(4,.ptr (B.length+1) 0),(6,vB X.2),(10,Xp.l xs),(11,vI xs.length),(12,vI X.1)])
  (fun k=>⟨B++[.cells [.mp b,vB pair],.cells [vI kd,vI vl,vI fr,vI to,vS nm,Xp.l xs]],[]⟩) (fun X=>xs.length-X.1) (0,false) ⟨by simp,by simp [h0],by simp [h0]⟩ ?_ ?_
 ·simp [hle]
  omega
 rintro ⟨k,wr⟩ ⟨hk,h1,h2⟩ hbd
 simp only [] at hk h1 h2
 rcases Nat.lt_or_ge k xs.length with h|h
 ·have hx:xs[k]?=some xs[k]:=by simp [h]
  have hrec:=ih xs[k] (List.getElem_mem h)
  have e3:IntKind.i64.wrap ((k:Int)+1)=(k:Int)+1:=wrap64 (by omega) (by simp [maxLen] at hB;omega)
  have hlc:=Du xs[k]
  have htc:=Cw xs[k]
  rw [List.drop_eq_getElem_cons h,Xp.infs] at h1 h2
  have hcall:=(hrec (B++[.cells [.mp b,vB pair],.cells [vI kd,vI vl,vI fr,vI to,vS nm,Xp.l xs],.cells (xs[k].c.map V.t)]) (hB0.more _ (fun n m hn=>by
   simp only [List.length_cons,List.length_nil] at hn
   refine⟨⟨A3 _,?_⟩,⟨A3 _,?_⟩,⟨A3 _,?_⟩,trivial⟩
   ·simp [okNs,okN];omega
   ·simp [okNs,okN]
   ·exact Au (fun v hv=>by obtain⟨t,_,rfl⟩:=List.mem_map.1 hv;rfl))))
  generalize hix:Xp.inf (fun s=>decide (s∈M)) pair xs[k]=ix at *
  obtain⟨it,ie⟩:=ix
  simp only [] at h1 h2 hcall
  have hp1:((k+1:Nat):Int)=(k:Int)+1:=by push_cast;rfl
  by_cases he:ie=0
  ·rw [if_neg (by simpa using he)] at h1 h2
   simp only [] at h1 h2
   have hc:=hcall.1 he
   cases wr
   ·by_cases hw:it=want
    ·have hw':(it != want)=false:=by simpa using hw
     (try simp -implicitDefEqProofs [h,e3,hlc,htc,hg,hg0,hg1,hle,hdr])
     refine Ab hc ?_
     (try simp -implicitDefEqProofs [h,e3,hlc,htc,hg,hg0,hg1,hle,hdr,hw'])
     exact⟨k+1,⟨by omega,h1,fun q=>by simpa [hw'] using h2 q⟩,by omega,by omega,hp1⟩
    ·have hw':(it != want)=true:=by simpa using hw
     (try simp -implicitDefEqProofs [h,e3,hlc,htc,hg,hg0,hg1,hle,hdr])
     refine Ab hc ?_
     (try simp -implicitDefEqProofs [h,e3,hlc,htc,hg,hg0,hg1,hle,hdr,hw'])
     exact⟨k+1,⟨by omega,h1,fun q=>by have:=h2 q;simpa [hw'] using this.symm⟩,by omega,by omega,hp1⟩
   ·(try simp -implicitDefEqProofs [h,e3,hlc,htc,hg,hg0,hg1,hle,hdr])
    refine Ab hc ?_
    ((try simp -implicitDefEqProofs [h,e3,hlc,htc,hg,hg0,hg1,hle,hdr]);repeat' first|((with_reducible first|apply Ac|apply Ad|apply A5)<;>(intro hc;have hc':=hc;(try simp at hc');simp -implicitDefEqProofs [hc,hc',h,e3,hlc,htc,hg,hg0,hg1,hle,hdr])))
    all_goals exact⟨k+1,⟨by omega,h1,fun q=>by have:=h2 q;simpa using this.symm⟩,by omega,by omega,hp1⟩
  ·rw [if_pos he] at h1
   simp only [] at h1
   rw [←h1,if_pos he] at hR
   subst hR
   have hc:=hcall.2 he
   unfold F9 at hc
   (try simp -implicitDefEqProofs [h,e3,hlc,htc,hg,hg0,hg1,hle,hdr])
   refine Be hc ?_
   (try simp -implicitDefEqProofs [h,e3,hlc,htc,hg,hg0,hg1,hle,hdr])
 ·have:k=xs.length:=by omega
  subst this
  simp only [List.drop_length,Xp.infs] at h1 h2
  have h2:=h2 h1.symm
  simp only [Bool.or_false] at h2
  have hw:wr=true:=by
   rcases hr with hr|hr
   ·exact absurd h1.symm hr
   ·rw [h2,hr]
  subst hw
  rw [if_neg (by simpa using h1.symm)] at hR
  subst hR
  (try simp -implicitDefEqProofs [hg,hg0,hg1,hle,hdr])
end Go.Proofs.YtmlpmdccfmmpoaaGreatDoor
end

/- Chapter 33: the checker's types of expressions, all kinds. -/
section
section
set_option linter.unusedSimpArgs false
set_option linter.unusedVariables false
set_option maxHeartbeats 4000000
set_option maxRecDepth 8000
namespace Go.Proofs.YtmlpmdccfmmpoaaGreatDoor
open E

theorem A31 (b:Nat) (M:List (List UInt8)) (pair:Bool) (kd vl fr to:Int) (nm:List UInt8) (xs:List Xp) (ih : ∀a∈xs,Ru b M pair a) (hk:kd≠1∧kd≠2∧kd≠21∧kd≠22):Ru b M pair (.mk kd vl fr to nm xs):=by
 obtain⟨m1,m2,m3,m4⟩:=hk
 intro B hB
 have hg:=hB.app
 have hg0:=Pc B
 have hg1:=Rt B
 have hle:=fun l l' n m h=>A6.app' (l:=l) (l':=l') (hB.le n m h)
 have hdr:=fun l n m h=>A6.drop' (n:=n) (m:=m) l (hB.le n m h)
 have hbl:=hB.lt
 have hinf:Xp.inf (fun s=>decide (s∈M)) pair (.mk kd vl fr to nm xs)=(if (Xp.infs (fun s=>decide (s∈M)) pair (Jc kd) xs).1≠0 then (0,(Xp.infs (fun s=>decide (s∈M)) pair (Jc kd) xs).1) else if (Xp.infs (fun s=>decide (s∈M)) pair (Jc kd) xs).2=true then (0,16) else (Jx kd,0)):=by
  rw [Xp.inf,G8]
  rw [if_neg (show ¬(kd=2∧(decide (nm∈M))=false) from fun h=>m2 h.1),if_neg (show ¬((kd=21∨kd=22)∧to<fr) from fun h=>h.1.elim m3 m4),if_neg (show ¬(kd=22∧pair=false) from fun h=>m4 h.1)]
 rw [hinf]
 generalize hr:Xp.infs (fun s=>decide (s∈M)) pair (Jc kd) xs=r
 have hB':Hlds b M (B++[.cells [.mp b,vB pair],.cells [vI kd,vI vl,vI fr,vI to,vS nm,Xp.l xs]]):=hB.more _ (fun n m hn=>by
  simp only [List.length_cons,List.length_nil] at hn
  refine⟨⟨A3 _,?_⟩,⟨A3 _,?_⟩,trivial⟩
  ·simp [okNs,okN];omega
  ·simp [okNs,okN])
 have n1:(kd==1)=false:=by simpa using m1
 have n2:(kd==2)=false:=by simpa using m2
 have n3:(kd==21)=false:=by simpa using m3
 have n4:(kd==22)=false:=by simpa using m4
 have hcases:kd=6∨kd=12∨kd=13∨kd=14∨kd=15∨kd=16∨kd=17∨kd=18∨kd=19∨((kd==6)=false∧(kd==12)=false∧(kd==13)=false∧(kd==14)=false∧(kd==15)=false∧(kd==16)=false∧(kd==17)=false∧(kd==18)=false∧(kd==19)=false):=by
  simp only [beq_eq_false_iff_ne,ne_eq];omega
 refine⟨fun h=>?_,fun h=>?_⟩
 ·have hr1:r.1=0:=by
   by_cases q:r.1=0
   ·exact q
   ·rw [if_pos q] at h;exact absurd h q
  rw [if_neg (by simpa using hr1)] at h ⊢
  have hr2:r.2=false:=by
   cases q:r.2
   ·rfl
   ·rw [q] at h;simp at h
  rw [hr2,if_neg (by simp)]
  have hops:=A30 b M pair kd vl fr to nm xs (Jc kd) ih _ hB' (by rw [hr];exact Prod.ext hr1 hr2)
  rw [Xp.v,Xp.c_mk] at hops ⊢
  unfold Jc at hops
  unfold Jx
  rcases hcases with rfl|rfl|rfl|rfl|rfl|rfl|rfl|rfl|rfl|⟨a6,a12,a13,a14,a15,a16,a17,a18,a19⟩
  ·(refine FnS.of_code mix Tryz.call64 k_64 (by simp) (fun hB=>?_);(try simp at hB);(try simp -implicitDefEqProofs))
   (try simp -implicitDefEqProofs [hg,hg0,hg1,hle,hdr])
   refine Ab hops ?_
   (try simp -implicitDefEqProofs [hg,hg0,hg1,hle,hdr])
  ·(refine FnS.of_code mix Tryz.call64 k_64 (by simp) (fun hB=>?_);(try simp at hB);(try simp -implicitDefEqProofs))
   (try simp -implicitDefEqProofs [hg,hg0,hg1,hle,hdr])
   refine Ab hops ?_
   (try simp -implicitDefEqProofs [hg,hg0,hg1,hle,hdr])
  ·(refine FnS.of_code mix Tryz.call64 k_64 (by simp) (fun hB=>?_);(try simp at hB);(try simp -implicitDefEqProofs))
   (try simp -implicitDefEqProofs [hg,hg0,hg1,hle,hdr])
   refine Ab hops ?_
   (try simp -implicitDefEqProofs [hg,hg0,hg1,hle,hdr])
  ·(refine FnS.of_code mix Tryz.call64 k_64 (by simp) (fun hB=>?_);(try simp at hB);(try simp -implicitDefEqProofs))
   (try simp -implicitDefEqProofs [hg,hg0,hg1,hle,hdr])
   refine Ab hops ?_
   (try simp -implicitDefEqProofs [hg,hg0,hg1,hle,hdr])
  ·(refine FnS.of_code mix Tryz.call64 k_64 (by simp) (fun hB=>?_);(try simp at hB);(try simp -implicitDefEqProofs))
   (try simp -implicitDefEqProofs [hg,hg0,hg1,hle,hdr])
   refine Ab hops ?_
   (try simp -implicitDefEqProofs [hg,hg0,hg1,hle,hdr])
  ·(refine FnS.of_code mix Tryz.call64 k_64 (by simp) (fun hB=>?_);(try simp at hB);(try simp -implicitDefEqProofs))
   (try simp -implicitDefEqProofs [hg,hg0,hg1,hle,hdr])
   refine Ab hops ?_
   (try simp -implicitDefEqProofs [hg,hg0,hg1,hle,hdr])
  ·(refine FnS.of_code mix Tryz.call64 k_64 (by simp) (fun hB=>?_);(try simp at hB);(try simp -implicitDefEqProofs))
   (try simp -implicitDefEqProofs [hg,hg0,hg1,hle,hdr])
   refine Ab hops ?_
   (try simp -implicitDefEqProofs [hg,hg0,hg1,hle,hdr])
  ·(refine FnS.of_code mix Tryz.call64 k_64 (by simp) (fun hB=>?_);(try simp at hB);(try simp -implicitDefEqProofs))
   (try simp -implicitDefEqProofs [hg,hg0,hg1,hle,hdr])
   refine Ab hops ?_
   (try simp -implicitDefEqProofs [hg,hg0,hg1,hle,hdr])
  ·(refine FnS.of_code mix Tryz.call64 k_64 (by simp) (fun hB=>?_);(try simp at hB);(try simp -implicitDefEqProofs))
   (try simp -implicitDefEqProofs [hg,hg0,hg1,hle,hdr])
   refine Ab hops ?_
   (try simp -implicitDefEqProofs [hg,hg0,hg1,hle,hdr])
  ·have hw:(if kd=6∨kd=12∨kd=13 then (2:Int) else 1)=1:=if_neg (by simp only [beq_eq_false_iff_ne,ne_eq] at a6 a12 a13 a14 a15 a16 a17 a18 a19;omega)
   rw [hw] at hops
   rw [if_neg (by simp only [beq_eq_false_iff_ne,ne_eq] at a6 a12 a13 a14 a15 a16 a17 a18 a19;omega)]
   (refine FnS.of_code mix Tryz.call64 k_64 (by simp) (fun hB=>?_);(try simp at hB);(try simp -implicitDefEqProofs))
   (try simp -implicitDefEqProofs [hg,hg0,hg1,hle,hdr,n1,n2,n3,n4,a6,a12,a13,a14,a15,a16,a17,a18,a19])
   refine Ab hops ?_
   (try simp -implicitDefEqProofs [hg,hg0,hg1,hle,hdr,n1,n2,n3,n4,a6,a12,a13,a14,a15,a16,a17,a18,a19])
 ·have hr':r.1≠0∨r.2=true:=by
   by_cases q:r.1=0
   ·rw [if_neg (by simpa using q)] at h
    by_cases q2:r.2=true
    ·exact .inr q2
    ·rw [if_neg q2] at h;exact absurd rfl h
   ·exact .inl q
  have hres:(if r.1≠0 then ((0:Int),r.1) else if r.2=true then (0,16) else (Jx kd,0)).2=(if r.1≠0 then r.1 else 16):=by
   by_cases q:r.1=0
   ·have q2:r.2=true:=hr'.resolve_left (fun h=>h q)
    simp [q,q2]
   ·simp [q]
  rw [hres]
  have hops:=A0c b M pair kd vl fr to nm xs (Jc kd) ih _ hB' r hr hr'
  generalize (if r.1≠0 then r.1 else (16:Int))=er at *
  rw [Xp.v,Xp.c_mk] at hops ⊢
  unfold Jc at hops
  unfold F9 at hops ⊢
  rcases hcases with rfl|rfl|rfl|rfl|rfl|rfl|rfl|rfl|rfl|⟨a6,a12,a13,a14,a15,a16,a17,a18,a19⟩
  ·(refine FnP.of_code mix Tryz.call64 k_64 (by simp) (fun hB=>?_);(try simp at hB);(try simp -implicitDefEqProofs))
   (try simp -implicitDefEqProofs [hg,hg0,hg1,hle,hdr])
   refine Be hops ?_
   (try simp -implicitDefEqProofs [hg,hg0,hg1,hle,hdr])
  ·(refine FnP.of_code mix Tryz.call64 k_64 (by simp) (fun hB=>?_);(try simp at hB);(try simp -implicitDefEqProofs))
   (try simp -implicitDefEqProofs [hg,hg0,hg1,hle,hdr])
   refine Be hops ?_
   (try simp -implicitDefEqProofs [hg,hg0,hg1,hle,hdr])
  ·(refine FnP.of_code mix Tryz.call64 k_64 (by simp) (fun hB=>?_);(try simp at hB);(try simp -implicitDefEqProofs))
   (try simp -implicitDefEqProofs [hg,hg0,hg1,hle,hdr])
   refine Be hops ?_
   (try simp -implicitDefEqProofs [hg,hg0,hg1,hle,hdr])
  ·(refine FnP.of_code mix Tryz.call64 k_64 (by simp) (fun hB=>?_);(try simp at hB);(try simp -implicitDefEqProofs))
   (try simp -implicitDefEqProofs [hg,hg0,hg1,hle,hdr])
   refine Be hops ?_
   (try simp -implicitDefEqProofs [hg,hg0,hg1,hle,hdr])
  ·(refine FnP.of_code mix Tryz.call64 k_64 (by simp) (fun hB=>?_);(try simp at hB);(try simp -implicitDefEqProofs))
   (try simp -implicitDefEqProofs [hg,hg0,hg1,hle,hdr])
   refine Be hops ?_
   (try simp -implicitDefEqProofs [hg,hg0,hg1,hle,hdr])
  ·(refine FnP.of_code mix Tryz.call64 k_64 (by simp) (fun hB=>?_);(try simp at hB);(try simp -implicitDefEqProofs))
   (try simp -implicitDefEqProofs [hg,hg0,hg1,hle,hdr])
   refine Be hops ?_
   (try simp -implicitDefEqProofs [hg,hg0,hg1,hle,hdr])
  ·(refine FnP.of_code mix Tryz.call64 k_64 (by simp) (fun hB=>?_);(try simp at hB);(try simp -implicitDefEqProofs))
   (try simp -implicitDefEqProofs [hg,hg0,hg1,hle,hdr])
   refine Be hops ?_
   (try simp -implicitDefEqProofs [hg,hg0,hg1,hle,hdr])
  ·(refine FnP.of_code mix Tryz.call64 k_64 (by simp) (fun hB=>?_);(try simp at hB);(try simp -implicitDefEqProofs))
   (try simp -implicitDefEqProofs [hg,hg0,hg1,hle,hdr])
   refine Be hops ?_
   (try simp -implicitDefEqProofs [hg,hg0,hg1,hle,hdr])
  ·(refine FnP.of_code mix Tryz.call64 k_64 (by simp) (fun hB=>?_);(try simp at hB);(try simp -implicitDefEqProofs))
   (try simp -implicitDefEqProofs [hg,hg0,hg1,hle,hdr])
   refine Be hops ?_
   (try simp -implicitDefEqProofs [hg,hg0,hg1,hle,hdr])
  ·have hw:(if kd=6∨kd=12∨kd=13 then (2:Int) else 1)=1:=if_neg (by simp only [beq_eq_false_iff_ne,ne_eq] at a6 a12 a13 a14 a15 a16 a17 a18 a19;omega)
   rw [hw] at hops
   (refine FnP.of_code mix Tryz.call64 k_64 (by simp) (fun hB=>?_);(try simp at hB);(try simp -implicitDefEqProofs))
   (try simp -implicitDefEqProofs [hg,hg0,hg1,hle,hdr,n1,n2,n3,n4,a6,a12,a13,a14,a15,a16,a17,a18,a19])
   refine Be hops ?_
   (try simp -implicitDefEqProofs [hg,hg0,hg1,hle,hdr,n1,n2,n3,n4,a6,a12,a13,a14,a15,a16,a17,a18,a19])
end Go.Proofs.YtmlpmdccfmmpoaaGreatDoor
end

/- Chapter 33: the checker's types of expressions without operands. -/
section
set_option linter.unusedSimpArgs false
set_option linter.unusedVariables false
set_option maxHeartbeats 4000000
set_option maxRecDepth 8000
namespace Go.Proofs.YtmlpmdccfmmpoaaGreatDoor
open E

theorem A32 (b:Nat) (M:List (List UInt8)) (pair:Bool) (kd vl fr to:Int) (nm:List UInt8) (hk:kd=1∨kd=21∨kd=22):Ru b M pair (.mk kd vl fr to nm []):=by
 intro B hB
 have hg:=hB.app
 have hg0:=Pc B
 have hg1:=Rt B
 have hle:=fun l l' n m h=>A6.app' (l:=l) (l':=l') (hB.le n m h)
 have hdr:=fun l n m h=>A6.drop' (n:=n) (m:=m) l (hB.le n m h)
 have hbl:=hB.lt
 rw [Xp.v,Xp.c_mk]
 unfold F9
 rcases hk with rfl|rfl|rfl
 ·have hi:Xp.inf (fun s=>decide (s∈M)) pair (.mk 1 vl fr to nm [])=(1,0):=by simp [Xp.inf,Xp.infs,G8,Jx]
  rw [hi]
  refine⟨fun _=>?_,fun h=>absurd rfl h⟩
  (refine FnS.of_code mix Tryz.call64 k_64 (by simp) (fun hB=>?_);(try simp at hB);(try simp -implicitDefEqProofs))
  (try simp -implicitDefEqProofs [hg,hg0,hg1,hle,hdr])
 ·by_cases hft:to<fr
  ·have hft':decide (to<fr)=true:=by simpa using hft
   have hi:Xp.inf (fun s=>decide (s∈M)) pair (.mk 21 vl fr to nm [])=(0,2):=by simp [Xp.inf,Xp.infs,G8,Jx,hft]
   rw [hi]
   refine⟨fun h=>absurd h (by simp),fun _=>?_⟩
   (refine FnP.of_code mix Tryz.call64 k_64 (by simp) (fun hB=>?_);(try simp at hB);(try simp -implicitDefEqProofs))
   (try simp -implicitDefEqProofs [hg,hg0,hg1,hle,hdr,hft'])
  ·have hft':decide (to<fr)=false:=by simpa using hft
   have hi:Xp.inf (fun s=>decide (s∈M)) pair (.mk 21 vl fr to nm [])=(1,0):=by simp [Xp.inf,Xp.infs,G8,Jx,hft]
   rw [hi]
   refine⟨fun _=>?_,fun h=>absurd rfl h⟩
   (refine FnS.of_code mix Tryz.call64 k_64 (by simp) (fun hB=>?_);(try simp at hB);(try simp -implicitDefEqProofs))
   (try simp -implicitDefEqProofs [hg,hg0,hg1,hle,hdr,hft'])
 ·by_cases hft:to<fr
  ·have hft':decide (to<fr)=true:=by simpa using hft
   have hi:Xp.inf (fun s=>decide (s∈M)) pair (.mk 22 vl fr to nm [])=(0,2):=by simp [Xp.inf,Xp.infs,G8,Jx,hft]
   rw [hi]
   refine⟨fun h=>absurd h (by simp),fun _=>?_⟩
   (refine FnP.of_code mix Tryz.call64 k_64 (by simp) (fun hB=>?_);(try simp at hB);(try simp -implicitDefEqProofs))
   (try simp -implicitDefEqProofs [hg,hg0,hg1,hle,hdr,hft'])
  ·have hft':decide (to<fr)=false:=by simpa using hft
   cases pair
   ·have hi:Xp.inf (fun s=>decide (s∈M)) false (.mk 22 vl fr to nm [])=(0,7):=by simp [Xp.inf,Xp.infs,G8,Jx,hft]
    rw [hi]
    refine⟨fun h=>absurd h (by simp),fun _=>?_⟩
    (refine FnP.of_code mix Tryz.call64 k_64 (by simp) (fun hB=>?_);(try simp at hB);(try simp -implicitDefEqProofs))
    (try simp -implicitDefEqProofs [hg,hg0,hg1,hle,hdr,hft'])
   ·have hi:Xp.inf (fun s=>decide (s∈M)) true (.mk 22 vl fr to nm [])=(1,0):=by simp [Xp.inf,Xp.infs,G8,Jx,hft]
    rw [hi]
    refine⟨fun _=>?_,fun h=>absurd rfl h⟩
    (refine FnS.of_code mix Tryz.call64 k_64 (by simp) (fun hB=>?_);(try simp at hB);(try simp -implicitDefEqProofs))
    (try simp -implicitDefEqProofs [hg,hg0,hg1,hle,hdr,hft'])
theorem A0d (b:Nat) (M:List (List UInt8)) (pair:Bool) : ∀(x:Xp),x.prop=true→Ru b M pair x:=by
 refine Xp.ind fun kd vl fr to nm xs ih hp=>?_
 rw [Xp.prop,Bool.and_eq_true] at hp
 obtain⟨hs,hps⟩:=hp
 have hmem : ∀a∈xs,Ru b M pair a:=fun a ha=>ih a ha (by
  rw [Xp.props_all] at hps
  simp only [Bool.not_eq_true',List.any_eq_false] at hps
  simpa using hps a ha)
 have hnil:Cb kd=0→xs=[]:=fun h=>by
  simp only [J0,Bool.and_eq_true,beq_iff_eq,h] at hs
  exact List.length_eq_zero_iff.1 (by have:=hs.1.2;omega)
 by_cases h2:kd=2
 ·have:=hnil (by subst h2;rfl)
  subst h2
  exact A2z b M pair vl fr to nm xs this
 by_cases hk:kd=1∨kd=21∨kd=22
 ·have:=hnil (by rcases hk with rfl|rfl|rfl<;>rfl)
  subst this
  exact A32 b M pair kd vl fr to nm hk
 ·exact A31 b M pair kd vl fr to nm xs hmem ⟨fun h=>hk (.inl h),h2,fun h=>hk (.inr (.inl h)),fun h=>hk (.inr (.inr h))⟩
end Go.Proofs.YtmlpmdccfmmpoaaGreatDoor
end
end
