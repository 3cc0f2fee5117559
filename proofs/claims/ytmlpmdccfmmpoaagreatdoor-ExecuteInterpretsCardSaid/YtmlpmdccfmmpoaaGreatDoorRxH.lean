/- Chapter 35's reference: the boxes of instance. -/
import Derived.Test.YtmlpmdccfmmpoaaGreatDoorRxC
import Derived.Test.YtmlpmdccfmmpoaaGreatDoorLit
import Derived.Test.YtmlpmdccfmmpoaaGreatDoorExC
set_option linter.unusedSimpArgs false
set_option linter.unusedVariables false
set_option maxHeartbeats 4000000
set_option maxRecDepth 8000
namespace Go.Proofs.YtmlpmdccfmmpoaaGreatDoor
open E
def SvQ (B:List Bx) (sv:V) (st:List Int) (kb:Nat):Prop:=(sv=.snil∧st=[])∨(sv=.bw kb st.length∧∃cs,B[kb]?=some (.buf 3 1 cs)∧cs.take st.length=st.reverse.map vI)
def LvQ (B:List Bx) (lv:V) (loc:List Int) (lb:Nat):Prop:=(lv=.snil∧loc=[])∨(lv=.bw lb loc.length∧B[lb]?=some (.buf 3 1 (loc.map vI)))
theorem LvQ.okU {B:List Bx} {lv:V} {loc:List Int} {lb:Nat} (h:LvQ B lv loc lb) (n m:Nat) (hn:B.length≤n):okN n m lv=true:=by
 rcases h with ⟨rfl,_⟩|⟨rfl,h⟩
 ·rfl
 ·have:=A6 h;simp [okN];omega
structure QL (B B':List Bx) (b kb:Nat) (s:Src) (oth:Int) (sv lv pv:V) (l:List Int):Prop where
 U:OkU B'
 len:B.length<B'.length
 hb:B'[b]?=some (.cells (qC s oth (.bw (B'.length-1) l.length) lv pv))
 hk:B'[B'.length-1]?=some (.buf 3 1 (l.reverse.map vI))
 get : ∀j,j<B.length→j≠b→(∀n,sv=.bw kb n→j≠kb)→B'[j]?=B[j]?
theorem Ue {B:List Bx} {b kb:Nat} {s:Src} {oth:Int} {lv pv:V} {st:List Int} {cs:List V} (h:QS B b kb s oth lv pv st cs) (l:List Int):QL B (QF B b kb s oth lv pv l.length++[.dead,.buf 3 1 (l.reverse.map vI)]) b kb s oth (.bw kb st.length) lv pv l:=by
 have hb:=A6 h.hb
 have hl:(QF B b kb s oth lv pv l.length).length=B.length:=by unfold QF;simp
 have hl2:(QF B b kb s oth lv pv l.length++[Bx.dead,Bx.buf 3 1 (l.reverse.map vI)]).length-1=B.length+1:=by simp [hl]
 refine⟨fun n m hn=>?_,by simp [hl],?_,?_,fun j h1 h2 h3=>?_⟩
 ·simp [hl] at hn
  exact (Ab.appU (Ab.set (Hv (by simp [okN];omega) (h.lv _ _ (by omega)) (h.pv _ _ (by omega))) b (Ab.set (show E.leB _ _ .dead .dead from trivial) kb (h.U _ _ (by omega))))).2 ⟨trivial,Cr _ _ _,trivial⟩
 ·rw [hl2,List.getElem?_append_left (by omega)]
  unfold QF
  rw [List.getElem?_set_self (by simpa using hb)]
 ·rw [hl2,List.getElem?_append_right (by omega),hl,Nat.add_sub_cancel_left];rfl
 ·rw [List.getElem?_append_left (by omega)]
  unfold QF
  rw [List.getElem?_set_ne (Ne.symm h2),List.getElem?_set_ne (Ne.symm (h3 _ rfl))]
theorem A6b {B:List Bx} {b kb:Nat} {s:Src} {oth:Int} {lv pv:V} (hU:OkU B) (hbl:b<B.length) (hlv : ∀n m,B.length≤n→okN n m lv=true) (hpv : ∀n m,B.length≤n→okN n m pv=true) (v:Int):QL B (B.set b (.cells (qC s oth (.bw (B.length+1) 1) lv pv))++[.dead,.buf 3 1 [vI v]]) b kb s oth .snil lv pv [v]:=by
 have hl2:(B.set b (.cells (qC s oth (.bw (B.length+1) 1) lv pv))++[Bx.dead,Bx.buf 3 1 [vI v]]).length-1=B.length+1:=by simp
 refine⟨fun n m hn=>?_,by simp,?_,?_,fun j h1 h2 h3=>?_⟩
 ·simp at hn
  exact (Ab.appU (Ab.set (Hv (by simp [okN];omega) (hlv _ _ (by omega)) (hpv _ _ (by omega))) b (hU _ _ (by omega)))).2 ⟨trivial,Cr [v] _ _,trivial⟩
 ·rw [hl2,List.getElem?_append_left (by simpa using hbl),List.getElem?_set_self hbl];rfl
 ·rw [hl2,List.getElem?_append_right (by simp),List.length_set,Nat.add_sub_cancel_left];rfl
 ·rw [List.getElem?_append_left (by simpa using h1),List.getElem?_set_ne (Ne.symm h2)]
theorem A0z {B:List Bx} (hU:OkU B) {s:Src} (hs:s.Ok) {oth:Int} (ho:oth≠-2) {b kb lb:Nat} {sv lv pv:V} {st loc:List Int} (hb:B[b]?=some (.cells (qC s oth sv lv pv))) (hsv:SvQ B sv st kb) (hst:st.length≤8000) (hlv:LvQ B lv loc lb) (hloc:loc.length≤8000) (hpv : ∀n m,B.length≤n→okN n m pv=true)
  (x:Ins) (o1:1≤x.op) (o22:x.op≤22) (hd:tk x.op≤st.length) (hl:x.op=2→0≤x.a∧x.a<loc.length) :
  ∃B',FnS Tryz.prog 35 [.ptr b 0,x.v] ⟨B,[]⟩ (vB ((C7 s oth x st loc).2&&Ah (C7 s oth x st loc).1)) ⟨B',[]⟩∧QL B B' b kb s oth sv lv pv ((C7 s oth x st loc).1::st.drop (tk x.op).toNat):=by
 have hbl:=A6 hb
 have hlU:=fun n m hn=>hlv.okU n m hn
 obtain⟨n,hn⟩ : ∃n:Nat,x.op=n:=⟨x.op.toNat,by omega⟩
 have htt:=Vh (n:=n) (by omega)
 rw [←hn] at htt
 have hl2:x.op=2→lb≠b∧lv=.bw lb loc.length∧B[lb]?=some (.buf 3 1 (loc.map vI))∧(loc.map vI)[x.a.toNat]?=some (vI (loc.getD x.a.toNat 0))∧0≤x.a∧x.a.toNat<loc.length∧loc.length≤8000:=fun h2=>by
  obtain⟨q1,q2⟩:=hl h2
  rcases hlv with ⟨_,rfl⟩|⟨r1,r2⟩
  ·simp at q2;omega
  ·have h3:x.a.toNat<loc.length:=by omega
   refine⟨fun e=>?_,r1,r2,?_,q1,h3,hloc⟩
   ·rw [e,hb] at r2;cases r2
   ·rw [List.getElem?_map,List.getD_eq_getElem?_getD,List.getElem?_eq_getElem h3];rfl
 have tk0:x.op=1∨x.op=2∨x.op=3∨x.op=4→tk x.op=0:=fun h=>by rcases h with h|h|h|h<;>rw [h]<;>rfl
 have tk1:5≤x.op→x.op≤9→tk x.op=1:=fun h1 h2=>by
  rcases (by omega:x.op=5∨x.op=6∨x.op=7∨x.op=8∨x.op=9) with h|h|h|h|h<;>rw [h]<;>rfl
 have tk2:10≤x.op→tk x.op=2:=fun h1=>by
  rcases (by omega:x.op=10∨x.op=11∨x.op=12∨x.op=13∨x.op=14∨x.op=15∨x.op=16∨x.op=17∨x.op=18∨x.op=19∨x.op=20∨x.op=21∨x.op=22) with h|h|h|h|h|h|h|h|h|h|h|h|h<;>rw [h]<;>rfl
 rcases hsv with ⟨rfl,rfl⟩|⟨rfl,cs,hk,hct⟩
 ·have h4:x.op=1∨x.op=2∨x.op=3∨x.op=4:=by
   rcases Int.le_total x.op 4 with h|h
   ·omega
   ·rcases Int.le_total x.op 9 with h9|h9
    ·rcases Int.lt_or_le 4 x.op with h5|h5
     ·rw [tk1 (by omega) h9] at hd;simp at hd
     ·omega
    ·rcases Int.lt_or_le 9 x.op with h5|h5
     ·rw [tk2 (by omega)] at hd;simp at hd
     ·rw [tk1 (by omega) (by omega)] at hd;simp at hd
  rw [tk0 h4]
  exact⟨_,A0s b B hU s hs oth ho lv pv x loc h4 hb lb (loc.map vI) (fun h2=>(hl2 h2).2) (fun n hn=>hlU n 0 hn) (fun n hn=>hpv n 0 hn),A6b hU hbl hlU hpv _⟩
 ·have hQ:QS B b kb s oth lv pv st cs:=⟨hU,hb,hk,hct,hst,hlU,hpv⟩
  by_cases h4:x.op≤4
  ·have h4:x.op=1∨x.op=2∨x.op=3∨x.op=4:=by omega
   rw [tk0 h4]
   exact⟨_,A0t hQ hs ho x loc h4 lb (loc.map vI) hl2,Ue hQ (_::st)⟩
  ·by_cases h9:x.op≤9
   ·have ht:=tk1 (by omega) h9
    rw [ht] at hd ⊢
    match st,hd,hQ with
    | v0::st',hd,hQ=>
     refine⟨_,A0u hQ hs x loc ?_,Ue hQ (_::st')⟩
     by_cases h7:x.op=7
     ·exact .inl h7
     ·exact .inr ⟨by omega,by omega,by omega,by omega,h7,by rw [htt.1];exact ht,ht⟩
    | [],hd,_=>simp at hd
   ·have ht:=tk2 (by omega)
    rw [ht] at hd ⊢
    match st,hd,hQ with
    | v0::v1::st',hd,hQ=>exact⟨_,A0v hQ hs x loc ⟨by omega,by omega,by omega,by omega,by omega,by rw [htt.1];exact ht,ht⟩,Ue hQ (_::st')⟩
    | [],hd,_=>simp at hd
    | [_],hd,_=>simp at hd
theorem Xw {s:Src} {oth:Int} {x:Ins} {st loc:List Int} {pair:Bool} (hn:Cv x pair loc.length=true) (hl : ∀v∈loc,Ah v=true) (o1:1≤x.op) (o22:x.op≤22):(Cq s oth x st loc).2=((C7 s oth x st loc).2&&Ah (C7 s oth x st loc).1)∧((Cq s oth x st loc).2=true→(Cq s oth x st loc).1=(C7 s oth x st loc).1):=by
 unfold Cq C7
 by_cases h1:x.op=1
 ·simp only [h1,if_true]
  simp only [Cv,h1,if_true,Bool.and_eq_true] at hn
  simp [hn.1]
 by_cases h2:x.op=2
 ·simp only [h2,if_true,show ¬(2:Int)=1 by decide,if_false]
  simp only [Cv,h2,if_true,show ¬(2:Int)=1 by decide,if_false,Bool.and_eq_true,decide_eq_true_eq] at hn
  have h3:x.a.toNat<loc.length:=by omega
  have:Ah (loc.getD x.a.toNat 0)=true:=hl _ (by rw [List.getD_eq_getElem?_getD,List.getElem?_eq_getElem h3];exact List.getElem_mem h3)
  rw [this];exact⟨rfl,fun _=>by trivial⟩
 by_cases h3:x.op=3
 ·simp only [h3,if_true,show ¬(3:Int)=1 by decide,show ¬(3:Int)=2 by decide,if_false]
  rw [Nt s.items x.a x.b (-2) 0]
  simp
 by_cases h4:x.op=4
 ·simp only [h4,if_true,show ¬(4:Int)=1 by decide,show ¬(4:Int)=2 by decide,show ¬(4:Int)=3 by decide,if_false]
  simp
 by_cases h7:x.op=7
 ·simp only [h7,if_true,show ¬(7:Int)=1 by decide,show ¬(7:Int)=2 by decide,show ¬(7:Int)=3 by decide,show ¬(7:Int)=4 by decide,if_false]
  unfold Dx
  split
  ·rename_i h;rw [h.2];exact⟨rfl,fun _=>by trivial⟩
  ·exact⟨rfl,fun _=>by trivial⟩
 simp only [h1,h2,h3,h4,h7,if_false]
 have key : ∀r:Int×Bool,AmP r→r.2=(r.2&&Ah r.1):=fun r hr=>by
  cases h:r.2
  ·simp
  ·simp [hr h]
 by_cases ht:tk x.op=1
 ·simp only [ht,if_true]
  rw [R3]
  exact⟨key _ (fun h=>by rw [←R3] at h ⊢;exact Fb h),fun _=>rfl⟩
 ·simp only [ht,if_false]
  have h10:10≤x.op:=by
   rcases Int.lt_or_le x.op 10 with h|h
   ·exfalso;apply ht
    rcases (by omega:x.op=5∨x.op=6∨x.op=8∨x.op=9) with h|h|h|h<;>rw [h]<;>rfl
   ·exact h
  have ha:x.a=0:=by
   simp only [Cv,h1,h2,h3,h4,show ¬x.op=9 by omega,show ¬x.op=23 by omega,show ¬x.op=25 by omega,show ¬x.op=26 by omega,or_self,if_false,Bool.and_eq_true,beq_iff_eq] at hn
   exact hn.1
  rw [R3,ha]
  exact⟨key _ (fun h=>by rw [←R3] at h ⊢;exact Fb h),fun _=>rfl⟩
end Go.Proofs.YtmlpmdccfmmpoaaGreatDoor
section
set_option linter.unusedSimpArgs false
set_option linter.unusedVariables false
set_option maxHeartbeats 4000000
set_option maxRecDepth 8000
namespace Go.Proofs.YtmlpmdccfmmpoaaGreatDoor
open E

def PvQ (B:List Bx) (pv:V) (ps:List Part) (pb:Nat):Prop:=(pv=.snil∧ps=[])∨(pv=.bw pb ps.length∧B[pb]?=some (.buf 77 2 ((ps.flatMap Part.c).map .t)))
theorem PvQ.okU {B:List Bx} {pv:V} {ps:List Part} {pb:Nat} (h:PvQ B pv ps pb) (n m:Nat) (hn:B.length≤n):okN n m pv=true:=by
 rcases h with ⟨rfl,_⟩|⟨rfl,h⟩
 ·rfl
 ·have:=A6 h;simp [okN];omega
theorem SvQ.okU {B:List Bx} {sv:V} {st:List Int} {kb:Nat} (h:SvQ B sv st kb) (n m:Nat) (hn:B.length≤n):okN n m sv=true:=by
 rcases h with ⟨rfl,_⟩|⟨rfl,cs,h,_⟩
 ·rfl
 ·have:=A6 h;simp [okN];omega
structure QB (C0 C1 C2:List V) (s:Src) (oth:Int) (st loc:List Int) (ps:List Part) (sv lv pv:V) (kb lb pb:Nat) (B:List Bx):Prop where
 U:OkU B
 b0:B[0]?=some (.cells C0)
 b1:B[1]?=some (.cells C1)
 b2:B[2]?=some (.cells C2)
 b3:B[3]?=some (.cells (qC s oth sv lv pv))
 fs:SvQ B sv st kb
 fl:LvQ B lv loc lb
 fp:PvQ B pv ps pb
 ne:sv≠V.snil→lv≠V.snil→kb≠lb
section
variable {C0 C1 C2:List V} {s:Src} {oth:Int} {st loc:List Int} {ps:List Part} {sv lv pv:V} {kb lb pb:Nat} {B:List Bx}
theorem QB.far (h:QB C0 C1 C2 s oth st loc ps sv lv pv kb lb pb B) {j z:Nat} {e:TypeId} {cs:List V} (hj:B[j]?=some (.buf e z cs)):4≤j:=by
 rcases Nat.lt_or_ge j 4 with h4|h4
 ·rcases (by omega:j=0∨j=1∨j=2∨j=3) with rfl|rfl|rfl|rfl
  ·rw [h.b0] at hj;cases hj
  ·rw [h.b1] at hj;cases hj
  ·rw [h.b2] at hj;cases hj
  ·rw [h.b3] at hj;cases hj
 ·exact h4
theorem QB.x (h:QB C0 C1 C2 s oth st loc ps sv lv pv kb lb pb B) {l:List V} (hl : ∀n m,E.leB n m (.cells l) (.cells l)):QB C0 C1 C2 s oth st loc ps sv lv pv kb lb pb (B++[.cells l]):=by
 refine⟨fun n m hn=>(Ab.appU (h.U n m (by simp at hn;omega))).2 ⟨hl _ _,trivial⟩,Aj h.b0 _,Aj h.b1 _,Aj h.b2 _,Aj h.b3 _,?_,?_,?_,h.ne⟩
 ·rcases h.fs with h1|⟨h1,cs,h2,h3⟩
  ·exact .inl h1
  ·exact .inr ⟨h1,cs,Aj h2 _,h3⟩
 ·rcases h.fl with h1|⟨h1,h2⟩
  ·exact .inl h1
  ·exact .inr ⟨h1,Aj h2 _⟩
 ·rcases h.fp with h1|⟨h1,h2⟩
  ·exact .inl h1
  ·exact .inr ⟨h1,Aj h2 _⟩
theorem QB.step {B':List Bx} {l:List Int} (h:QB C0 C1 C2 s oth st loc ps sv lv pv kb lb pb B) (hq:QL B B' 3 kb s oth sv lv pv l):QB C0 C1 C2 s oth l loc ps (.bw (B'.length-1) l.length) lv pv (B'.length-1) lb pb B':=by
 have hkb : ∀n,sv=.bw kb n→4≤kb∧∃cs,B[kb]?=some (.buf 3 1 cs):=fun n e=>by
  rcases h.fs with ⟨h1,_⟩|⟨_,cs,h2,_⟩
  ·rw [h1] at e;cases e
  ·exact⟨h.far h2,cs,h2⟩
 have hg : ∀j,j<3→B'[j]?=B[j]?:=fun j hj=>hq.get j (by have:=A6 h.b3;omega) (by omega) (fun n e=>by have:=(hkb n e).1;omega)
 refine⟨hq.U,by rw [hg 0 (by omega)];exact h.b0,by rw [hg 1 (by omega)];exact h.b1,by rw [hg 2 (by omega)];exact h.b2,hq.hb,.inr ⟨rfl,_,hq.hk,by rw [List.take_of_length_le (by simp)]⟩,?_,?_,?_⟩
 ·rcases h.fl with h1|⟨h1,h2⟩
  ·exact .inl h1
  ·refine .inr ⟨h1,?_⟩
   have:=h.far h2
   rw [hq.get lb (A6 h2) (by omega) (fun n e=>fun hh=>h.ne (by rw [e];simp) (by rw [h1];simp) hh.symm)]
   exact h2
 ·rcases h.fp with h1|⟨h1,h2⟩
  ·exact .inl h1
  ·refine .inr ⟨h1,?_⟩
   have:=h.far h2
   rw [hq.get pb (A6 h2) (by omega) (fun n e=>fun hh=>by
    obtain⟨_,cs,h3⟩:=hkb n e
    rw [←hh,h2] at h3;cases h3)]
   exact h2
 ·intro _ hn
  rcases h.fl with ⟨h1,_⟩|⟨h1,h2⟩
  ·exact absurd h1 hn
  ·have:=A6 h2
   have:=hq.len
   omega
theorem QB.pop {v:Int} (h:QB C0 C1 C2 s oth (v::st) loc ps sv lv pv kb lb pb B):QB C0 C1 C2 s oth st loc ps (.bw kb st.length) lv pv kb lb pb (B.set 3 (.cells (qC s oth (.bw kb st.length) lv pv))):=by
 have h3l:=A6 h.b3
 obtain⟨hsv,cs,hk,hct⟩:sv=.bw kb (st.length+1)∧∃cs,B[kb]?=some (.buf 3 1 cs)∧cs.take (st.length+1)=(v::st).reverse.map vI:=by
  rcases h.fs with ⟨_,h2⟩|h2
  ·cases h2
  ·exact h2
 have hgb : ∀{j z:Nat} {e:TypeId} {cs:List V},B[j]?=some (.buf e z cs)→(B.set 3 (.cells (qC s oth (.bw kb st.length) lv pv)))[j]?=some (.buf e z cs):=fun hj=>by
  have:=h.far hj
  rw [List.getElem?_set_ne (by omega)];exact hj
 have hkl:=A6 hk
 refine⟨fun n m hn=>?_,?_,?_,?_,?_,.inr ⟨rfl,cs,hgb hk,?_⟩,?_,?_,fun _ h2=>h.ne (by rw [hsv];simp) h2⟩
 ·simp at hn
  exact Ab.set (Hv (by simp [okN];omega) (h.fl.okU _ _ hn) (h.fp.okU _ _ hn)) 3 (h.U n m hn)
 ·rw [List.getElem?_set_ne (by decide)];exact h.b0
 ·rw [List.getElem?_set_ne (by decide)];exact h.b1
 ·rw [List.getElem?_set_ne (by decide)];exact h.b2
 ·rw [List.getElem?_set_self h3l]
 ·have:=congrArg (List.take st.length) hct
  rw [List.take_take,Nat.min_eq_left (by omega)] at this
  rw [this];simp [List.take_left']
 ·rcases h.fl with h1|⟨h1,h2⟩
  ·exact .inl h1
  ·exact .inr ⟨h1,hgb h2⟩
 ·rcases h.fp with h1|⟨h1,h2⟩
  ·exact .inl h1
  ·exact .inr ⟨h1,hgb h2⟩
theorem QB.w_pop {v:Int} (h:QB C0 C1 C2 s oth (v::st) loc ps sv lv pv kb lb pb B) (hst:st.length≤8000):FnS Tryz.prog 36 [.ptr 3 0] ⟨B,[]⟩ (vI v) ⟨B.set 3 (.cells (qC s oth (.bw kb st.length) lv pv)),[]⟩:=by
 obtain⟨rfl,cs,hk,hct⟩:sv=.bw kb (st.length+1)∧∃cs,B[kb]?=some (.buf 3 1 cs)∧cs.take (st.length+1)=(v::st).reverse.map vI:=by
  rcases h.fs with ⟨_,h2⟩|h2
  ·cases h2
  ·exact h2
 refine A0r 3 kb st.length B (fun m=>h.U _ m (Nat.le_refl _)) s oth lv pv cs v h.b3 hk ?_ (by omega) (h.fl.okU _ _ (Nat.le_refl _)) (h.fp.okU _ _ (Nat.le_refl _))
 have:=congrArg (fun l:List V=>l[st.length]?) hct
 simp only [List.getElem?_take] at this
 rw [if_pos (by omega)] at this
 rw [this];simp
theorem QB.store0 (h:QB C0 C1 C2 s oth st [] ps sv .snil pv kb lb pb B) (v:Int):QB C0 C1 C2 s oth st [v] ps sv (.bw B.length 1) pv kb B.length pb (B.set 3 (.cells (qC s oth sv (.bw B.length 1) pv))++[.buf 3 1 [vI v]]):=by
 have h3l:=A6 h.b3
 have hg : ∀{j:Nat} {x:Bx},B[j]?=some x→j≠3→(B.set 3 (.cells (qC s oth sv (.bw B.length 1) pv))++[.buf 3 1 [vI v]])[j]?=some x:=fun hj hn=>by
  rw [List.getElem?_append_left (by simpa using A6 hj),List.getElem?_set_ne (Ne.symm hn)];exact hj
 refine⟨fun n m hn=>?_,hg h.b0 (by decide),hg h.b1 (by decide),hg h.b2 (by decide),?_,?_,.inr ⟨rfl,?_⟩,?_,fun h1 _=>?_⟩
 ·simp at hn
  exact (Ab.appU (Ab.set (Hv (h.fs.okU _ _ (by omega)) (by simp [okN];omega) (h.fp.okU _ _ (by omega))) 3 (h.U _ _ (by omega)))).2 ⟨Cr [v] _ _,trivial⟩
 ·rw [List.getElem?_append_left (by simpa using h3l),List.getElem?_set_self h3l]
 ·rcases h.fs with h1|⟨h1,cs,h2,h3⟩
  ·exact .inl h1
  ·exact .inr ⟨h1,cs,hg h2 (by have:=h.far h2;omega),h3⟩
 ·rw [List.getElem?_append_right (by simp)];simp
 ·rcases h.fp with h1|⟨h1,h2⟩
  ·exact .inl h1
  ·exact .inr ⟨h1,hg h2 (by have:=h.far h2;omega)⟩
 ·rcases h.fs with ⟨h2,_⟩|⟨_,cs,h2,_⟩
  ·exact absurd h2 h1
  ·have:=A6 h2;omega
theorem QB.store1 {n:Nat} (h:QB C0 C1 C2 s oth st loc ps sv (.bw lb n) pv kb lb pb B) (v:Int):QB C0 C1 C2 s oth st (loc++[v]) ps sv (.bw B.length (loc.length+1)) pv kb B.length pb ((B.set lb .dead).set 3 (.cells (qC s oth sv (.bw B.length (loc.length+1)) pv))++[.buf 3 1 (loc.map vI++[vI v])]):=by
 have h3l:=A6 h.b3
 have hlb:B[lb]?=some (.buf 3 1 (loc.map vI)):=by
  rcases h.fl with ⟨h1,_⟩|⟨_,h2⟩
  ·cases h1
  ·exact h2
 have hl4:=h.far hlb
 have hg : ∀{j:Nat} {x:Bx},B[j]?=some x→j≠3→j≠lb→((B.set lb .dead).set 3 (.cells (qC s oth sv (.bw B.length (loc.length+1)) pv))++[.buf 3 1 (loc.map vI++[vI v])])[j]?=some x:=fun hj hn hn2=>by
  rw [List.getElem?_append_left (by simpa using A6 hj),List.getElem?_set_ne (Ne.symm hn),List.getElem?_set_ne (Ne.symm hn2)];exact hj
 refine⟨fun n m hn=>?_,hg h.b0 (by decide) (by omega),hg h.b1 (by decide) (by omega),hg h.b2 (by decide) (by omega),?_,?_,.inr ⟨by simp,?_⟩,?_,fun h1 _=>?_⟩
 ·simp at hn
  exact (Ab.appU (Ab.set (Hv (h.fs.okU _ _ (by omega)) (by simp [okN];omega) (h.fp.okU _ _ (by omega))) 3 (Ab.set (show E.leB _ _ .dead .dead from trivial) lb (h.U _ _ (by omega))))).2 ⟨by have:=Cr (loc++[v]) n m;simpa using this,trivial⟩
 ·rw [List.getElem?_append_left (by simpa using h3l),List.getElem?_set_self (by simpa using h3l)]
 ·rcases h.fs with h1|⟨h1,cs,h2,h3⟩
  ·exact .inl h1
  ·exact .inr ⟨h1,cs,hg h2 (by have:=h.far h2;omega) (h.ne (by rw [h1];simp) (by simp)),h3⟩
 ·rw [List.getElem?_append_right (by simp)];simp
 ·rcases h.fp with h1|⟨h1,h2⟩
  ·exact .inl h1
  ·exact .inr ⟨h1,hg h2 (by have:=h.far h2;omega) (fun e=>by rw [e,hlb] at h2;cases h2)⟩
 ·rcases h.fs with ⟨h2,_⟩|⟨_,cs,h2,_⟩
  ·exact absurd h2 h1
  ·have:=A6 h2;omega
theorem S6 (l:List Part) (n m:Nat):E.leB n m (.buf 77 2 ((l.flatMap Part.c).map .t)) (.buf 77 2 ((l.flatMap Part.c).map .t)):=A6a _ _ _ _ _
theorem QB.post0 (h:QB C0 C1 C2 s oth st loc [] sv lv .snil kb lb pb B) (p:Part):QB C0 C1 C2 s oth st loc [p] sv lv (.bw B.length 1) kb lb B.length (B.set 3 (.cells (qC s oth sv lv (.bw B.length 1)))++[.buf 77 2 [vI p.acc,vI p.amt]]):=by
 have h3l:=A6 h.b3
 have hg : ∀{j:Nat} {x:Bx},B[j]?=some x→j≠3→(B.set 3 (.cells (qC s oth sv lv (.bw B.length 1)))++[.buf 77 2 [vI p.acc,vI p.amt]])[j]?=some x:=fun hj hn=>by
  rw [List.getElem?_append_left (by simpa using A6 hj),List.getElem?_set_ne (Ne.symm hn)];exact hj
 refine⟨fun n m hn=>?_,hg h.b0 (by decide),hg h.b1 (by decide),hg h.b2 (by decide),?_,?_,?_,.inr ⟨rfl,?_⟩,h.ne⟩
 ·simp at hn
  exact (Ab.appU (Ab.set (Hv (h.fs.okU _ _ (by omega)) (h.fl.okU _ _ (by omega)) (by simp [okN];omega)) 3 (h.U _ _ (by omega)))).2 ⟨S6 [p] _ _,trivial⟩
 ·rw [List.getElem?_append_left (by simpa using h3l),List.getElem?_set_self h3l]
 ·rcases h.fs with h1|⟨h1,cs,h2,h3⟩
  ·exact .inl h1
  ·exact .inr ⟨h1,cs,hg h2 (by have:=h.far h2;omega),h3⟩
 ·rcases h.fl with h1|⟨h1,h2⟩
  ·exact .inl h1
  ·exact .inr ⟨h1,hg h2 (by have:=h.far h2;omega)⟩
 ·rw [List.getElem?_append_right (by simp)];simp [Part.c]
theorem QB.post1 {n:Nat} (h:QB C0 C1 C2 s oth st loc ps sv lv (.bw pb n) kb lb pb B) (p:Part):QB C0 C1 C2 s oth st loc (ps++[p]) sv lv (.bw B.length (ps.length+1)) kb lb B.length ((B.set pb .dead).set 3 (.cells (qC s oth sv lv (.bw B.length (ps.length+1))))++[.buf 77 2 ((ps.flatMap Part.c).map .t++[vI p.acc,vI p.amt])]):=by
 have h3l:=A6 h.b3
 have hpb:B[pb]?=some (.buf 77 2 ((ps.flatMap Part.c).map .t)):=by
  rcases h.fp with ⟨h1,_⟩|⟨_,h2⟩
  ·cases h1
  ·exact h2
 have hp4:=h.far hpb
 have hg : ∀{j:Nat} {x:Bx},B[j]?=some x→j≠3→j≠pb→((B.set pb .dead).set 3 (.cells (qC s oth sv lv (.bw B.length (ps.length+1))))++[.buf 77 2 ((ps.flatMap Part.c).map .t++[vI p.acc,vI p.amt])])[j]?=some x:=fun hj hn hn2=>by
  rw [List.getElem?_append_left (by simpa using A6 hj),List.getElem?_set_ne (Ne.symm hn),List.getElem?_set_ne (Ne.symm hn2)];exact hj
 refine⟨fun n m hn=>?_,hg h.b0 (by decide) (by omega),hg h.b1 (by decide) (by omega),hg h.b2 (by decide) (by omega),?_,?_,?_,.inr ⟨by simp,?_⟩,h.ne⟩
 ·simp at hn
  exact (Ab.appU (Ab.set (Hv (h.fs.okU _ _ (by omega)) (h.fl.okU _ _ (by omega)) (by simp [okN];omega)) 3 (Ab.set (show E.leB _ _ .dead .dead from trivial) pb (h.U _ _ (by omega))))).2 ⟨by have:=S6 (ps++[p]) n m;simpa [Part.c] using this,trivial⟩
 ·rw [List.getElem?_append_left (by simpa using h3l),List.getElem?_set_self (by simpa using h3l)]
 ·rcases h.fs with h1|⟨h1,cs,h2,h3⟩
  ·exact .inl h1
  ·exact .inr ⟨h1,cs,hg h2 (by have:=h.far h2;omega) (fun e=>by rw [e,hpb] at h2;cases h2),h3⟩
 ·rcases h.fl with h1|⟨h1,h2⟩
  ·exact .inl h1
  ·exact .inr ⟨h1,hg h2 (by have:=h.far h2;omega) (fun e=>by rw [e,hpb] at h2;cases h2)⟩
 ·rw [List.getElem?_append_right (by simp)];simp [Part.c]
end
end Go.Proofs.YtmlpmdccfmmpoaaGreatDoor
end
