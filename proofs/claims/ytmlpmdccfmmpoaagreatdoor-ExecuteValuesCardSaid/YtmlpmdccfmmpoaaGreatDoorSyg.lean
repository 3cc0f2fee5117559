/- Chapter 32: the reference's Few. -/
import Derived.Test.YtmlpmdccfmmpoaaGreatDoorLit
import Derived.Test.YtmlpmdccfmmpoaaGreatDoorExC
import Derived.Test.YtmlpmdccfmmpoaaGreatDoorSyc
import Derived.Test.YtmlpmdccfmmpoaaGreatDoorCodeB
import Derived.Test.YtmlpmdccfmmpoaaGreatDoorTyp
import Derived.Test.YtmlpmdccfmmpoaaGreatDoorSyf
import Derived.Test.YtmlpmdccfmmpoaaGreatDoorCps
import Derived.Test.YtmlpmdccfmmpoaaGreatDoorExp
set_option linter.unusedSimpArgs false
set_option linter.unusedVariables false
set_option maxHeartbeats 4000000
set_option maxRecDepth 8000
namespace Go.Proofs.YtmlpmdccfmmpoaaGreatDoor
open E
def SvQ (B:List Bx) (sv:V) (st:List Int) (kb:Nat):Prop:=(sv=.snil∧st=[])∨(sv=.bw kb st.length∧∃cs,B[kb]?=some (.buf 3 1 cs)∧cs.take st.length=st.reverse.map vI)
def LvQ (B:List Bx) (lv:V) (loc:List Int) (lb:Nat):Prop:=(lv=.snil∧loc=[])∨(lv=.bw lb loc.length∧B[lb]?=some (.buf 3 1 (loc.map vI)))
theorem LvQ.okU {B:List Bx} {lv:V} {loc:List Int} {lb:Nat} (h:LvQ B lv loc lb) (n m:Nat) (hn:B.length≤n):okN n m lv=true:=by
 rcases h with ⟨rfl,_⟩|⟨rfl,h⟩
 ·rfl
 ·have:=A7 h;simp [okN];omega
structure QL (B B':List Bx) (b kb:Nat) (s:Src) (oth:Int) (sv lv pv:V) (l:List Int):Prop where
 U:OkU B'
 len:B.length<B'.length
 hb:B'[b]?=some (.cells (qC s oth (.bw (B'.length-1) l.length) lv pv))
 hk:B'[B'.length-1]?=some (.buf 3 1 (l.reverse.map vI))
 get : ∀j,j<B.length→j≠b→(∀n,sv=.bw kb n→j≠kb)→B'[j]?=B[j]?
theorem Ra {B:List Bx} {b kb:Nat} {s:Src} {oth:Int} {lv pv:V} {st:List Int} {cs:List V} (h:QS B b kb s oth lv pv st cs) (l:List Int):QL B (QF B b kb s oth lv pv l.length++[.dead,.buf 3 1 (l.reverse.map vI)]) b kb s oth (.bw kb st.length) lv pv l:=by
 have hb:=A7 h.hb
 have hl:(QF B b kb s oth lv pv l.length).length=B.length:=by unfold QF;simp
 have hl2:(QF B b kb s oth lv pv l.length++[Bx.dead,Bx.buf 3 1 (l.reverse.map vI)]).length-1=B.length+1:=by simp [hl]
 refine⟨fun n m hn=>?_,by simp [hl],?_,?_,fun j h1 h2 h3=>?_⟩
 ·simp [hl] at hn
  exact (Aa.appU (Aa.set (Pf (by simp [okN];omega) (h.lv _ _ (by omega)) (h.pv _ _ (by omega))) b (Aa.set (show E.leB _ _ .dead .dead from trivial) kb (h.U _ _ (by omega))))).2 ⟨trivial,Cl _ _ _,trivial⟩
 ·rw [hl2,List.getElem?_append_left (by omega)]
  unfold QF
  rw [List.getElem?_set_self (by simpa using hb)]
 ·rw [hl2,List.getElem?_append_right (by omega),hl,Nat.add_sub_cancel_left];rfl
 ·rw [List.getElem?_append_left (by omega)]
  unfold QF
  rw [List.getElem?_set_ne (Ne.symm h2),List.getElem?_set_ne (Ne.symm (h3 _ rfl))]
theorem A2q {B:List Bx} {b kb:Nat} {s:Src} {oth:Int} {lv pv:V} (hU:OkU B) (hbl:b<B.length) (hlv : ∀n m,B.length≤n→okN n m lv=true) (hpv : ∀n m,B.length≤n→okN n m pv=true) (v:Int):QL B (B.set b (.cells (qC s oth (.bw (B.length+1) 1) lv pv))++[.dead,.buf 3 1 [vI v]]) b kb s oth .snil lv pv [v]:=by
 have hl2:(B.set b (.cells (qC s oth (.bw (B.length+1) 1) lv pv))++[Bx.dead,Bx.buf 3 1 [vI v]]).length-1=B.length+1:=by simp
 refine⟨fun n m hn=>?_,by simp,?_,?_,fun j h1 h2 h3=>?_⟩
 ·simp at hn
  exact (Aa.appU (Aa.set (Pf (by simp [okN];omega) (hlv _ _ (by omega)) (hpv _ _ (by omega))) b (hU _ _ (by omega)))).2 ⟨trivial,Cl [v] _ _,trivial⟩
 ·rw [hl2,List.getElem?_append_left (by simpa using hbl),List.getElem?_set_self hbl];rfl
 ·rw [hl2,List.getElem?_append_right (by simp),List.length_set,Nat.add_sub_cancel_left];rfl
 ·rw [List.getElem?_append_left (by simpa using h1),List.getElem?_set_ne (Ne.symm h2)]
theorem Xn {B:List Bx} (hU:OkU B) {s:Src} (hs:s.Ok) {oth:Int} (ho:oth≠-2) {b kb lb:Nat} {sv lv pv:V} {st loc:List Int} (hb:B[b]?=some (.cells (qC s oth sv lv pv))) (hsv:SvQ B sv st kb) (hst:st.length≤8000) (hlv:LvQ B lv loc lb) (hloc:loc.length≤8000) (hpv : ∀n m,B.length≤n→okN n m pv=true)
  (x:Ins) (o1:1≤x.op) (o22:x.op≤22) (hd:tk x.op≤st.length) (hl:x.op=2→0≤x.a∧x.a<loc.length) :
  ∃B',FnS Tryz.prog 35 [.ptr b 0,x.v] ⟨B,[]⟩ (vB ((B9 s oth x st loc).2&&Ag (B9 s oth x st loc).1)) ⟨B',[]⟩∧QL B B' b kb s oth sv lv pv ((B9 s oth x st loc).1::st.drop (tk x.op).toNat):=by
 have hbl:=A7 hb
 have hlU:=fun n m hn=>hlv.okU n m hn
 obtain⟨n,hn⟩ : ∃n:Nat,x.op=n:=⟨x.op.toNat,by omega⟩
 have htt:=Ze (n:=n) (by omega)
 rw [←hn] at htt
 have hl2:x.op=2→lb≠b∧lv=.bw lb loc.length∧B[lb]?=some (.buf 3 1 (loc.map vI))∧(loc.map vI)[x.a.toNat]?=some (vI (loc.getD x.a.toNat 0))∧0≤x.a∧x.a.toNat<loc.length∧loc.length≤8000:=fun h2=>by
  obtain⟨q1,q2⟩:=hl h2
  rcases hlv with ⟨_,rfl⟩|⟨r1,r2⟩
  ·simp at q2;omega
  ·have h3:x.a.toNat<loc.length:=by omega
   refine⟨fun e=>?_,r1,r2,?_,q1,h3,hloc⟩
   ·rw [e,hb] at r2;cases r2
   ·rw [List.getElem?_map,List.getD_eq_getElem?_getD,List.getElem?_eq_getElem h3];rfl
 have tk0:x.op=1∨x.op=2∨x.op=3∨x.op=4→tk x.op=0:=fun h=>by rcases h with h|h|h|h<;>rw [h]<;>rfl
 have tk1:5≤x.op→x.op≤9→tk x.op=1:=fun h1 h2=>by
  rcases (by omega:x.op=5∨x.op=6∨x.op=7∨x.op=8∨x.op=9) with h|h|h|h|h<;>rw [h]<;>rfl
 have tk2:10≤x.op→tk x.op=2:=fun h1=>by
  rcases (by omega:x.op=10∨x.op=11∨x.op=12∨x.op=13∨x.op=14∨x.op=15∨x.op=16∨x.op=17∨x.op=18∨x.op=19∨x.op=20∨x.op=21∨x.op=22) with h|h|h|h|h|h|h|h|h|h|h|h|h<;>rw [h]<;>rfl
 rcases hsv with ⟨rfl,rfl⟩|⟨rfl,cs,hk,hct⟩
 ·have h4:x.op=1∨x.op=2∨x.op=3∨x.op=4:=by
   rcases Int.le_total x.op 4 with h|h
   ·omega
   ·rcases Int.le_total x.op 9 with h9|h9
    ·rcases Int.lt_or_le 4 x.op with h5|h5
     ·rw [tk1 (by omega) h9] at hd;simp at hd
     ·omega
    ·rcases Int.lt_or_le 9 x.op with h5|h5
     ·rw [tk2 (by omega)] at hd;simp at hd
     ·rw [tk1 (by omega) (by omega)] at hd;simp at hd
  rw [tk0 h4]
  exact⟨_,Xi b B hU s hs oth ho lv pv x loc h4 hb lb (loc.map vI) (fun h2=>(hl2 h2).2) (fun n hn=>hlU n 0 hn) (fun n hn=>hpv n 0 hn),A2q hU hbl hlU hpv _⟩
 ·have hQ:QS B b kb s oth lv pv st cs:=⟨hU,hb,hk,hct,hst,hlU,hpv⟩
  by_cases h4:x.op≤4
  ·have h4:x.op=1∨x.op=2∨x.op=3∨x.op=4:=by omega
   rw [tk0 h4]
   exact⟨_,Xj hQ hs ho x loc h4 lb (loc.map vI) hl2,Ra hQ (_::st)⟩
  ·by_cases h9:x.op≤9
   ·have ht:=tk1 (by omega) h9
    rw [ht] at hd ⊢
    match st,hd,hQ with
    | v0::st',hd,hQ=>
     refine⟨_,Xk hQ hs x loc ?_,Ra hQ (_::st')⟩
     by_cases h7:x.op=7
     ·exact .inl h7
     ·exact .inr ⟨by omega,by omega,by omega,by omega,h7,by rw [htt.1];exact ht,ht⟩
    | [],hd,_=>simp at hd
   ·have ht:=tk2 (by omega)
    rw [ht] at hd ⊢
    match st,hd,hQ with
    | v0::v1::st',hd,hQ=>exact⟨_,Xl hQ hs x loc ⟨by omega,by omega,by omega,by omega,by omega,by rw [htt.1];exact ht,ht⟩,Ra hQ (_::st')⟩
    | [],hd,_=>simp at hd
    | [_],hd,_=>simp at hd
theorem Up {s:Src} {oth:Int} {x:Ins} {st loc:List Int} {pair:Bool} (hn:Di x pair loc.length=true) (hl : ∀v∈loc,Ag v=true) (o1:1≤x.op) (o22:x.op≤22):(Bv s oth x st loc).2=((B9 s oth x st loc).2&&Ag (B9 s oth x st loc).1)∧((Bv s oth x st loc).2=true→(Bv s oth x st loc).1=(B9 s oth x st loc).1):=by
 unfold Bv B9
 by_cases h1:x.op=1
 ·simp only [h1,if_true]
  simp only [Di,h1,if_true,Bool.and_eq_true] at hn
  simp [hn.1]
 by_cases h2:x.op=2
 ·simp only [h2,if_true,show ¬(2:Int)=1 by decide,if_false]
  simp only [Di,h2,if_true,show ¬(2:Int)=1 by decide,if_false,Bool.and_eq_true,decide_eq_true_eq] at hn
  have h3:x.a.toNat<loc.length:=by omega
  have:Ag (loc.getD x.a.toNat 0)=true:=hl _ (by rw [List.getD_eq_getElem?_getD,List.getElem?_eq_getElem h3];exact List.getElem_mem h3)
  rw [this];exact⟨rfl,fun _=>by trivial⟩
 by_cases h3:x.op=3
 ·simp only [h3,if_true,show ¬(3:Int)=1 by decide,show ¬(3:Int)=2 by decide,if_false]
  rw [Lm s.items x.a x.b (-2) 0]
  simp
 by_cases h4:x.op=4
 ·simp only [h4,if_true,show ¬(4:Int)=1 by decide,show ¬(4:Int)=2 by decide,show ¬(4:Int)=3 by decide,if_false]
  simp
 by_cases h7:x.op=7
 ·simp only [h7,if_true,show ¬(7:Int)=1 by decide,show ¬(7:Int)=2 by decide,show ¬(7:Int)=3 by decide,show ¬(7:Int)=4 by decide,if_false]
  unfold Dg
  split
  ·rename_i h;rw [h.2];exact⟨rfl,fun _=>by trivial⟩
  ·exact⟨rfl,fun _=>by trivial⟩
 simp only [h1,h2,h3,h4,h7,if_false]
 have key : ∀r:Int×Bool,AmP r→r.2=(r.2&&Ag r.1):=fun r hr=>by
  cases h:r.2
  ·simp
  ·simp [hr h]
 by_cases ht:tk x.op=1
 ·simp only [ht,if_true]
  rw [Ot]
  exact⟨key _ (fun h=>by rw [←Ot] at h ⊢;exact Ew h),fun _=>rfl⟩
 ·simp only [ht,if_false]
  have h10:10≤x.op:=by
   rcases Int.lt_or_le x.op 10 with h|h
   ·exfalso;apply ht
    rcases (by omega:x.op=5∨x.op=6∨x.op=8∨x.op=9) with h|h|h|h<;>rw [h]<;>rfl
   ·exact h
  have ha:x.a=0:=by
   simp only [Di,h1,h2,h3,h4,show ¬x.op=9 by omega,show ¬x.op=23 by omega,show ¬x.op=25 by omega,show ¬x.op=26 by omega,or_self,if_false,Bool.and_eq_true,beq_iff_eq] at hn
   exact hn.1
  rw [Ot,ha]
  exact⟨key _ (fun h=>by rw [←Ot] at h ⊢;exact Ew h),fun _=>rfl⟩
def F3 (l:List Src) (ent:Int):Option Src:=l.find? fun s=>s.ent==ent&&s.full
def Xo:V:=.agg [vI 0,vB false,vB false,.t (.sl []),vB false,.t (.sl []),.t (.sl [])]
def Kl (r:Option Src):V:=match r with
 | some s=>.tup [s.qv,vB true]
 | none=>.tup [Xo,vB false]
theorem Uq {l:List Src} {ent:Int} (h : ∀s∈l,(s.ent==ent&&s.full)=false):F3 l ent=none:=List.find?_eq_none.2 fun s hs=>by rw [h s hs];decide
theorem Ur {l:List Src} {ent:Int} {k:Nat} {s:Src} (hs:l[k]?=some s) (h:(s.ent==ent&&s.full)=true) (hb : ∀t∈l.take k,(t.ent==ent&&t.full)=false):F3 l ent=some s:=by
 obtain⟨hk,rfl⟩:=List.getElem?_eq_some_iff.1 hs
 unfold F3
 rw [List.find?_eq_some_iff_getElem]
 refine⟨h,k,hk,rfl,fun j hj=>?_⟩
 have:=hb l[j] (List.mem_take_iff_getElem.2 ⟨j,by omega,rfl⟩)
 simp only [this];decide
theorem Se (l:List Src) (ent:Int) (hl:l.length≤1000):A3 Tryz.prog 33 [Src.ql l,vI ent] (Kl (F3 l ent)):=by
 generalize hR:Kl (F3 l ent)=R
 (refine A3.of_code mix Tryz.call33 k_33 (by simp) (fun hB=>?_);(try simp at hB);(try simp -implicitDefEqProofs))
 refine A6 (X:=Nat) (fun k=>k≤l.length∧∀t∈l.take k,(t.ent==ent&&t.full)=false) (fun k=>[(0,Src.ql l),(1,vI ent),(4,.ptr 0 0),(6,vI k)]) (fun _=>⟨[.cells [vI 0,vB false,vB false,.snil,vB false,.snil,.snil]],[]⟩) (fun k=>l.length-k) 0 ⟨by omega,by simp⟩ (by simp [Src.ql,okN]) ?_
 rintro k ⟨hk,hb⟩ hbd
 clear hbd
 rcases Nat.lt_or_ge k l.length with h|h
 ·obtain⟨s,hs⟩:=Ab h
  have e3:IntKind.i64.wrap ((k:Int)+1)=(k:Int)+1:=wrap64 (by omega) (by omega)
  have hsc:(l.map Src.q)[k]?=some s.q:=by simp [hs]
  have hsc' : ∀h,(l.map Src.q)[k]'h=s.q:=fun h=>by rw [List.getElem?_eq_getElem h] at hsc;exact Option.some.inj hsc
  have hcc:s.q=[.int .i64 s.ent,.bool s.full,.bool (nB s.num),.sl (qE s.num),.bool (nB s.den),.sl (qE s.den),.sl (s.items.map Item.c)]:=rfl
  rw [hcc] at hsc hsc'
  have hfin:(s.ent==ent&&s.full)=false→∃z':Nat,(z'≤l.length∧∀t∈l.take z',(t.ent==ent&&t.full)=false)∧l.length-z'<l.length-k∧(z':Int)=(k:Int)+1:=fun hq=>by
   refine⟨k+1,⟨by omega,fun y hy=>?_⟩,by omega,by push_cast;rfl⟩
   rw [Ah hs] at hy
   rcases List.mem_append.1 hy with h1|h1
   ·exact hb y h1
   ·simp at h1;subst h1;exact hq
  by_cases c1:s.ent=ent
  ·cases c2:s.full
   ·have hq:=hfin (by rw [c2];simp)
    rw [c2] at hsc hsc'
    (try simp -implicitDefEqProofs [h,hsc,hsc',Src.ql,c1,e3])
    simpa using hq
   ·rw [Ur hs (by rw [c2,c1];simp) hb] at hR
    rw [←hR]
    simp only [Kl,Src.qv,c2,c1]
    rw [c2,c1] at hsc hsc'
    (try simp -implicitDefEqProofs [h,hsc,hsc',Src.ql,e3])
  ·have c3:(s.ent==ent)=false:=by simpa using c1
   have hq:=hfin (by rw [c3];rfl)
   (try simp -implicitDefEqProofs [h,hsc,hsc',Src.ql,c1,c3,e3])
   simpa using hq
 ·have hke:k=l.length:=by omega
  subst hke
  rw [List.take_of_length_le (Nat.le_refl _)] at hb
  rw [Uq hb] at hR
  rw [←hR]
  (try simp -implicitDefEqProofs [Kl,Xo,Src.ql])

end Go.Proofs.YtmlpmdccfmmpoaaGreatDoor
section
section
set_option linter.unusedSimpArgs false
set_option linter.unusedVariables false
set_option maxHeartbeats 4000000
set_option maxRecDepth 8000
namespace Go.Proofs.YtmlpmdccfmmpoaaGreatDoor
open E

end Go.Proofs.YtmlpmdccfmmpoaaGreatDoor
end

/- Chapter 33: the checker's rules. -/
section
set_option linter.unusedSimpArgs false
set_option linter.unusedVariables false
set_option maxHeartbeats 4000000
set_option maxRecDepth 8000
namespace Go.Proofs.YtmlpmdccfmmpoaaGreatDoor
open E

end Go.Proofs.YtmlpmdccfmmpoaaGreatDoor
end

/- Chapter 33: check.Check. -/
section
set_option linter.unusedSimpArgs false
set_option linter.unusedVariables false
set_option maxHeartbeats 4000000
set_option maxRecDepth 8000
namespace Go.Proofs.YtmlpmdccfmmpoaaGreatDoor
open E

end Go.Proofs.YtmlpmdccfmmpoaaGreatDoor
end
end
section
section
set_option linter.unusedSimpArgs false
set_option linter.unusedVariables false
set_option maxHeartbeats 4000000
set_option maxRecDepth 8000
namespace Go.Proofs.YtmlpmdccfmmpoaaGreatDoor
open E

def Zx (k m:Nat) (es:List Ins):Bx:=.cells [.own k 93 3 (es.map Ins.c),.mp m]
def Us (B:List Bx) (K:List Nat):Prop:=∀n m,B.length≤n→K.length≤m→Aa n m B B
theorem Zy {n h:Nat} {k m:Nat} (es:List Ins) (hm:m<n) (hk:k<h):E.leB n h (Zx k m es) (Zx k m es):=by
 unfold Zx
 simp [E.leB,A4,okNs,okN,hm,hk]
theorem Us.set {B:List Bx} {K:List Nat} {b k m:Nat} (h:Us B K) (es:List Ins) (hm:m<B.length) (hk:k<K.length) (j:Nat):Us (B.set b (Zx k m es)) (K.set k j):=fun n h' hn hh=>by
 rw [List.length_set] at hn hh
 exact Aa.setR (Zy es (by omega) (by omega)) b (h n h' hn hh)
theorem Us.more {B:List Bx} {K:List Nat} (h:Us B K) (l:List Bx) (hl : ∀n m,B.length+l.length≤n→K.length≤m→Aa n m l l):Us (B++l) K:=fun n m hn hm=>by
 rw [List.length_append] at hn
 exact (Aa.app' (h n m (by omega) hm)).2 (hl n m hn hm)
end Go.Proofs.YtmlpmdccfmmpoaaGreatDoor
end

/- Chapter 34: compile.rule, Compile. -/
section
set_option linter.unusedSimpArgs false
set_option linter.unusedVariables false
set_option maxHeartbeats 4000000
set_option maxRecDepth 8000
namespace Go.Proofs.YtmlpmdccfmmpoaaGreatDoor
open E

end Go.Proofs.YtmlpmdccfmmpoaaGreatDoor
end
end
namespace Go.Proofs.YtmlpmdccfmmpoaaGreatDoor
open E
@[simp] abbrev A59 (i:Nat) (l:List (List UInt8)):V:=.own i 9 1 (l.map fun y=>[T.str y])
def Ph (s:Stm):Bool:=decide (s.name.length≤100)&&decide (s.ex.cnt≤200)
def Ku (r:Rul):Bool:=decide (r.name.length≤100)&&decide (r.stmts.length≤40)&&r.stmts.all Ph
def Xq (p:List Rul):Bool:=p.all Ku&&decide (p.length≤50)
theorem A4d (p:List Rul):A3 Tryz.prog 8 [Rul.l p] (vB (Xq p)):=by
 generalize hR:vB (Xq p)=R
 unfold Xq at hR
 (refine A3.of_code mix Tryz.call8 k_8 (by simp) (fun hB=>?_);(try simp at hB);(try simp -implicitDefEqProofs))
 refine A6 (X:=Nat) (fun k=>k≤p.length∧∀y∈p.take k,Ku y=true) (fun k=>[(0,Rul.l p),(3,vI k)]) (fun _=>St0) (fun k=>p.length-k) 0 ⟨by simp,by simp⟩ (by simp) ?_
 rintro k ⟨hk,hn⟩ hbd
 rcases Nat.lt_or_ge k p.length with h|h
 ·have hx:p[k]?=some p[k]:=by simp [h]
  have e3:IntKind.i64.wrap ((k:Int)+1)=(k:Int)+1:=wrap64 (by omega) (by simp [maxLen] at hB;omega)
  have hlc:=Ma p[k]
  have htc:=Mc p[k]
  have hstep:Ku p[k]=true→∃z':Nat,(z'≤p.length∧∀y∈p.take z',Ku y=true)∧p.length-z'<p.length-k∧(z':Int)=(k:Int)+1:=by
   intro hr
   refine⟨k+1,⟨by omega,fun y hy=>?_⟩,by omega,by push_cast;rfl⟩
   rw [Ah hx] at hy
   rcases List.mem_append.1 hy with h1|h1
   ·exact hn y h1
   ·simp at h1;subst h1;exact hr
  have hout:Ku p[k]=false→p.all Ku=false:=by
   intro hr
   rw [List.all_eq_false]
   exact⟨p[k],List.getElem_mem h,by simp [hr]⟩
  have hrul:Ku p[k]=(decide (p[k].name.length≤100)&&decide (p[k].stmts.length≤40)&&p[k].stmts.all Ph):=rfl
  have hcc:p[k].c=[.str p[k].name,.bool p[k].pair,.sl (p[k].stmts.map Stm.c),.int .i64 p[k].to]:=rfl
  generalize hrk:p[k]=r at *
  obtain⟨nm,pr,ss,to⟩:=r
  simp only [] at *
  by_cases hnm:nm.length≤100
  ·have hnm':decide ((100:Int)<nm.length)=false:=by simp;omega
   by_cases h40:ss.length≤40
   ·have h40':decide ((40:Int)<ss.length)=false:=by simp;omega
    rw [decide_eq_true hnm,decide_eq_true h40] at hrul
    simp only [Bool.true_and] at hrul
    (try simp -implicitDefEqProofs [h,hrk,hcc,hnm',h40',e3,hlc,htc])
    refine A6 (X:=Nat) (fun j=>j≤ss.length∧∀y∈ss.take j,Ph y=true) (fun j=>[(0,Rul.l p),(3,vI k),(4,vI j)]) (fun _=>St0) (fun j=>ss.length-j) 0 ⟨by simp,by simp⟩ (by simp) ?_
    rintro j ⟨hj,hjn⟩ hbd2
    clear hbd2
    rcases Nat.lt_or_ge j ss.length with g|g
    ·have gx:ss[j]?=some ss[j]:=by simp [g]
     have gl:=Ju ss[j]
     have gt:=Ix ss[j]
     have g3:IntKind.i64.wrap ((j:Int)+1)=(j:Int)+1:=wrap64 (by omega) (by omega)
     have gstep:Ph ss[j]=true→∃z':Nat,(z'≤ss.length∧∀y∈ss.take z',Ph y=true)∧ss.length-z'<ss.length-j∧(z':Int)=(j:Int)+1:=by
      intro hr
      refine⟨j+1,⟨by omega,fun y hy=>?_⟩,by omega,by push_cast;rfl⟩
      rw [Ah gx] at hy
      rcases List.mem_append.1 hy with h1|h1
      ·exact hjn y h1
      ·simp at h1;subst h1;exact hr
     have gout:Ph ss[j]=false→p.all Ku=false:=by
      intro hr
      refine hout ?_
      rw [hrul,List.all_eq_false]
      exact⟨ss[j],List.getElem_mem g,by simp [hr]⟩
     have gcc:ss[j].c=.int .i64 ss[j].kind::.int .i64 ss[j].acc::.str ss[j].name::ss[j].ex.c:=rfl
     have gd:Ph ss[j]=(decide (ss[j].name.length≤100)&&decide (ss[j].ex.cnt≤200)):=rfl
     generalize gsj:ss[j]=st at *
     obtain⟨sk,sa,sn,sx⟩:=st
     simp only [] at *
     have q1:=A1k sx 201 (by omega) (by omega)
     have ql:=C1 sx
     have qt:=Bf sx
     by_cases f1:sn.length≤100
     ·have f1':decide ((100:Int)<sn.length)=false:=by simp;omega
      rw [decide_eq_true f1,Bool.true_and] at gd
      by_cases f2:sx.cnt≤200
      ·have gst:=gstep (by rw [gd];simpa using f2)
       have f2':decide ((200:Int)<((min sx.cnt 201:Nat):Int))=false:=by simp;omega
       generalize min sx.cnt 201=z at *
       ((try simp at q1);(try simp -implicitDefEqProofs [h,hrk,hcc,g,gsj,gcc,gl,gt,ql,qt,e3,g3,hlc,htc,f1',f2']);repeat' first|(with_reducible apply A0<;>first|(simp only [eras,era,A1];first|with_reducible assumption)|(simp -implicitDefEqProofs [h,hrk,hcc,g,gsj,gcc,gl,gt,ql,qt,e3,g3,hlc,htc,f1',f2'])))
       exact gst
      ·rw [gout (by rw [gd];simpa using f2),Bool.false_and] at hR
       subst hR
       have f2':decide ((200:Int)<((min sx.cnt 201:Nat):Int))=true:=by simp;omega
       generalize min sx.cnt 201=z at *
       ((try simp at q1);(try simp -implicitDefEqProofs [h,hrk,hcc,g,gsj,gcc,gl,gt,ql,qt,e3,g3,hlc,htc,f1',f2']);repeat' first|(with_reducible apply A0<;>first|(simp only [eras,era,A1];first|with_reducible assumption)|(simp -implicitDefEqProofs [h,hrk,hcc,g,gsj,gcc,gl,gt,ql,qt,e3,g3,hlc,htc,f1',f2'])))
     ·have f1':decide ((100:Int)<sn.length)=true:=by simp;omega
      rw [gout (by rw [gd];simp [f1]),Bool.false_and] at hR
      subst hR
      ((try simp at q1);(try simp -implicitDefEqProofs [h,hrk,hcc,g,gsj,gcc,gl,gt,ql,qt,e3,g3,hlc,htc,f1']);repeat' first|(with_reducible apply A0<;>first|(simp only [eras,era,A1];first|with_reducible assumption)|(simp -implicitDefEqProofs [h,hrk,hcc,g,gsj,gcc,gl,gt,ql,qt,e3,g3,hlc,htc,f1'])))
    ·have:j=ss.length:=by omega
     subst this
     rw [List.take_length] at hjn
     have hst:=hstep (by rw [hrul];exact List.all_eq_true.2 hjn)
     (try simp -implicitDefEqProofs [h,hrk,hcc,e3,hlc,htc])
     exact hst
   ·have h40':decide ((40:Int)<ss.length)=true:=by simp;omega
    rw [hout (by rw [hrul];simp [h40]),Bool.false_and] at hR
    subst hR
    (try simp -implicitDefEqProofs [h,hrk,hcc,hnm',h40',e3,hlc,htc])
  ·have hnm':decide ((100:Int)<nm.length)=true:=by simp;omega
   rw [hout (by rw [hrul];simp [hnm]),Bool.false_and] at hR
   subst hR
   (try simp -implicitDefEqProofs [h,hrk,hcc,hnm',e3,hlc,htc])
 ·have:k=p.length:=by omega
  subst this
  rw [List.take_length] at hn
  have hall:p.all Ku=true:=List.all_eq_true.2 hn
  rw [hall,Bool.true_and] at hR
  subst hR
  (try simp -implicitDefEqProofs)
  omega
end Go.Proofs.YtmlpmdccfmmpoaaGreatDoor
