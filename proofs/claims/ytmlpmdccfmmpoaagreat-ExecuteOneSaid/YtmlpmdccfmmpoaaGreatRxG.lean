/- Chapter 35's reference: any step that puts a value, and what it leaves. -/
import Derived.Test.YtmlpmdccfmmpoaaGreatRxC
import Derived.Test.YtmlpmdccfmmpoaaGreatRxD
import Derived.Test.YtmlpmdccfmmpoaaGreatExC
import Derived.Test.YtmlpmdccfmmpoaaGreatLit
set_option linter.unusedSimpArgs false
set_option linter.unusedVariables false
set_option maxHeartbeats 4000000
set_option maxRecDepth 8000
namespace Go.Proofs.YtmlpmdccfmmpoaaGreat
open E

def SvQ (B:List Bx) (sv:V) (st:List Int) (kb:Nat):Prop:=(sv=.snil∧st=[])∨(sv=.bw kb st.length∧∃cs,B[kb]?=some (.buf 3 1 cs)∧cs.take st.length=st.reverse.map vI)
def LvQ (B:List Bx) (lv:V) (loc:List Int) (lb:Nat):Prop:=(lv=.snil∧loc=[])∨(lv=.bw lb loc.length∧B[lb]?=some (.buf 3 1 (loc.map vI)))
theorem LvQ.okU {B:List Bx} {lv:V} {loc:List Int} {lb:Nat} (h:LvQ B lv loc lb) (n m:Nat) (hn:B.length≤n):okN n m lv=true:=by
 rcases h with ⟨rfl,_⟩ | ⟨rfl,h⟩
 ·rfl
 ·have:=lt_of_get h; simp [okN]; omega
structure QL (B B':List Bx) (b kb:Nat) (s:Src) (oth:Int) (sv lv pv:V) (l:List Int):Prop where
 U:OkU B'
 len:B.length<B'.length
 hb:B'[b]?=some (.cells (qC s oth (.bw (B'.length-1) l.length) lv pv))
 hk:B'[B'.length-1]?=some (.buf 3 1 (l.reverse.map vI))
 get : ∀j,j<B.length→j≠b→(∀n,sv=.bw kb n→j≠kb)→B'[j]?=B[j]?
theorem QF_fin {B:List Bx} {b kb:Nat} {s:Src} {oth:Int} {lv pv:V} {st:List Int} {cs:List V} (h:QS B b kb s oth lv pv st cs) (l:List Int):QL B (QF B b kb s oth lv pv l.length++[.dead,.buf 3 1 (l.reverse.map vI)]) b kb s oth (.bw kb st.length) lv pv l:=by
 have hb:=lt_of_get h.hb
 have hl:(QF B b kb s oth lv pv l.length).length=B.length:=by unfold QF; simp
 have hl2:(QF B b kb s oth lv pv l.length++[Bx.dead,Bx.buf 3 1 (l.reverse.map vI)]).length-1=B.length+1:=by simp [hl]
 refine⟨fun n m hn=>?_,by simp [hl],?_,?_,fun j h1 h2 h3=>?_⟩
 ·simp [hl] at hn
  exact (LeBs.appU (LeBs.set (qC_le (by simp [okN]; omega) (h.lv _ _ (by omega)) (h.pv _ _ (by omega))) b (LeBs.set (show E.leB _ _ .dead .dead from trivial) kb (h.U _ _ (by omega))))).2 ⟨trivial,intb_le _ _ _,trivial⟩
 ·rw [hl2,List.getElem?_append_left (by omega)]
  unfold QF
  rw [List.getElem?_set_self (by simpa using hb)]
 ·rw [hl2,List.getElem?_append_right (by omega),hl,Nat.add_sub_cancel_left]; rfl
 ·rw [List.getElem?_append_left (by omega)]
  unfold QF
  rw [List.getElem?_set_ne (Ne.symm h2),List.getElem?_set_ne (Ne.symm (h3 _ rfl))]
theorem Q0_fin {B:List Bx} {b kb:Nat} {s:Src} {oth:Int} {lv pv:V} (hU:OkU B) (hbl:b<B.length) (hlv : ∀n m,B.length≤n→okN n m lv=true) (hpv : ∀n m,B.length≤n→okN n m pv=true) (v:Int):QL B (B.set b (.cells (qC s oth (.bw (B.length+1) 1) lv pv))++[.dead,.buf 3 1 [vI v]]) b kb s oth .snil lv pv [v]:=by
 have hl2:(B.set b (.cells (qC s oth (.bw (B.length+1) 1) lv pv))++[Bx.dead,Bx.buf 3 1 [vI v]]).length-1=B.length+1:=by simp
 refine⟨fun n m hn=>?_,by simp,?_,?_,fun j h1 h2 h3=>?_⟩
 ·simp at hn
  exact (LeBs.appU (LeBs.set (qC_le (by simp [okN]; omega) (hlv _ _ (by omega)) (hpv _ _ (by omega))) b (hU _ _ (by omega)))).2 ⟨trivial,intb_le [v] _ _,trivial⟩
 ·rw [hl2,List.getElem?_append_left (by simpa using hbl),List.getElem?_set_self hbl]; rfl
 ·rw [hl2,List.getElem?_append_right (by simp),List.length_set,Nat.add_sub_cancel_left]; rfl
 ·rw [List.getElem?_append_left (by simpa using h1),List.getElem?_set_ne (Ne.symm h2)]
theorem w_qstepE {B:List Bx} (hU:OkU B) {s:Src} (hs:s.Ok) {oth:Int} (ho:oth≠-2) {b kb lb:Nat} {sv lv pv:V} {st loc:List Int} (hb:B[b]?=some (.cells (qC s oth sv lv pv))) (hsv:SvQ B sv st kb) (hst:st.length≤1000) (hlv:LvQ B lv loc lb) (hloc:loc.length≤1000) (hpv : ∀n m,B.length≤n→okN n m pv=true)
  (x:Ins) (o1:1≤x.op) (o22:x.op≤22) (hd:tk x.op≤st.length) (hl:x.op=2→0≤x.a∧x.a<loc.length) :
  ∃B',FnS Tryz.prog 55 [.ptr b 0,x.v] ⟨B,[]⟩ (vB ((stepV s oth x st loc).2&&amtB (stepV s oth x st loc).1)) ⟨B',[]⟩∧QL B B' b kb s oth sv lv pv ((stepV s oth x st loc).1::st.drop (tk x.op).toNat):=by
 have hbl:=lt_of_get hb
 have hlU:=fun n m hn=>hlv.okU n m hn
 obtain⟨n,hn⟩ : ∃n:Nat,x.op=n:=⟨x.op.toNat,by omega⟩
 have htt:=tak_tab (n:=n) (by omega)
 rw [←hn] at htt
 have hl2:x.op=2→lb≠b∧lv=.bw lb loc.length∧B[lb]?=some (.buf 3 1 (loc.map vI))∧(loc.map vI)[x.a.toNat]?=some (vI (loc.getD x.a.toNat 0))∧0≤x.a∧x.a.toNat<loc.length∧loc.length≤1000:=fun h2=>by
  obtain⟨q1,q2⟩:=hl h2
  rcases hlv with ⟨_,rfl⟩ | ⟨r1,r2⟩
  ·simp at q2; omega
  ·have h3:x.a.toNat<loc.length:=by omega
   refine⟨fun e=>?_,r1,r2,?_,q1,h3,hloc⟩
   ·rw [e,hb] at r2; cases r2
   ·rw [List.getElem?_map,List.getD_eq_getElem?_getD,List.getElem?_eq_getElem h3]; rfl
 have tk0:x.op=1∨x.op=2∨x.op=3∨x.op=4→tk x.op=0:=fun h=>by rcases h with h | h | h | h<;>rw [h]<;>rfl
 have tk1:5≤x.op→x.op≤9→tk x.op=1:=fun h1 h2=>by
  rcases (by omega:x.op=5∨x.op=6∨x.op=7∨x.op=8∨x.op=9) with h | h | h | h | h<;>rw [h]<;>rfl
 have tk2:10≤x.op→tk x.op=2:=fun h1=>by
  rcases (by omega:x.op=10∨x.op=11∨x.op=12∨x.op=13∨x.op=14∨x.op=15∨x.op=16∨x.op=17∨x.op=18∨x.op=19∨x.op=20∨x.op=21∨x.op=22) with h | h | h | h | h | h | h | h | h | h | h | h | h<;>rw [h]<;>rfl
 rcases hsv with ⟨rfl,rfl⟩ | ⟨rfl,cs,hk,hct⟩
 ·have h4:x.op=1∨x.op=2∨x.op=3∨x.op=4:=by
   rcases Int.le_total x.op 4 with h | h
   ·omega
   ·rcases Int.le_total x.op 9 with h9 | h9
    ·rcases Int.lt_or_le 4 x.op with h5 | h5
     ·rw [tk1 (by omega) h9] at hd; simp at hd
     ·omega
    ·rcases Int.lt_or_le 9 x.op with h5 | h5
     ·rw [tk2 (by omega)] at hd; simp at hd
     ·rw [tk1 (by omega) (by omega)] at hd; simp at hd
  rw [tk0 h4]
  exact⟨_,w_qstep0 b B hU s hs oth ho lv pv x loc h4 hb lb (loc.map vI) (fun h2=>(hl2 h2).2) (fun n hn=>hlU n 0 hn) (fun n hn=>hpv n 0 hn),Q0_fin hU hbl hlU hpv _⟩
 ·have hQ:QS B b kb s oth lv pv st cs:=⟨hU,hb,hk,hct,hst,hlU,hpv⟩
  by_cases h4:x.op≤4
  ·have h4:x.op=1∨x.op=2∨x.op=3∨x.op=4:=by omega
   rw [tk0 h4]
   exact⟨_,w_qstepA hQ hs ho x loc h4 lb (loc.map vI) hl2,QF_fin hQ (_::st)⟩
  ·by_cases h9:x.op≤9
   ·have ht:=tk1 (by omega) h9
    rw [ht] at hd ⊢
    match st,hd,hQ with
    | v0::st',hd,hQ=>
     refine⟨_,w_qstepB hQ hs x loc ?_,QF_fin hQ (_::st')⟩
     by_cases h7:x.op=7
     ·exact .inl h7
     ·exact .inr ⟨by omega,by omega,by omega,by omega,h7,by rw [htt.1]; exact ht,ht⟩
    | [],hd,_=>simp at hd
   ·have ht:=tk2 (by omega)
    rw [ht] at hd ⊢
    match st,hd,hQ with
    | v0::v1::st',hd,hQ=>exact⟨_,w_qstepC hQ hs x loc ⟨by omega,by omega,by omega,by omega,by omega,by rw [htt.1]; exact ht,ht⟩,QF_fin hQ (_::st')⟩
    | [],hd,_=>simp at hd
    | [_],hd,_=>simp at hd
theorem stepV_val {s:Src} {oth:Int} {x:Ins} {st loc:List Int} {pair:Bool} (hn:numB x pair loc.length=true) (hl : ∀v∈loc,amtB v=true) (o1:1≤x.op) (o22:x.op≤22):(valX s oth x st loc).2=((stepV s oth x st loc).2&&amtB (stepV s oth x st loc).1)∧((valX s oth x st loc).2=true→(valX s oth x st loc).1=(stepV s oth x st loc).1):=by
 unfold valX stepV
 by_cases h1:x.op=1
 ·simp only [h1,if_true]
  simp only [numB,h1,if_true,Bool.and_eq_true] at hn
  simp [hn.1]
 by_cases h2:x.op=2
 ·simp only [h2,if_true,show ¬(2:Int)=1 by decide,if_false]
  simp only [numB,h2,if_true,show ¬(2:Int)=1 by decide,if_false,Bool.and_eq_true,decide_eq_true_eq] at hn
  have h3:x.a.toNat<loc.length:=by omega
  have:amtB (loc.getD x.a.toNat 0)=true:=hl _ (by rw [List.getD_eq_getElem?_getD,List.getElem?_eq_getElem h3]; exact List.getElem_mem h3)
  rw [this]; exact⟨rfl,fun _=>by trivial⟩
 by_cases h3:x.op=3
 ·simp only [h3,if_true,show ¬(3:Int)=1 by decide,show ¬(3:Int)=2 by decide,if_false]
  rw [readN_any s.items x.a x.b (-2) 0]
  simp
 by_cases h4:x.op=4
 ·simp only [h4,if_true,show ¬(4:Int)=1 by decide,show ¬(4:Int)=2 by decide,show ¬(4:Int)=3 by decide,if_false]
  simp
 by_cases h7:x.op=7
 ·simp only [h7,if_true,show ¬(7:Int)=1 by decide,show ¬(7:Int)=2 by decide,show ¬(7:Int)=3 by decide,show ¬(7:Int)=4 by decide,if_false]
  unfold scaleS
  split
  ·rename_i h; rw [h.2]; exact⟨rfl,fun _=>by trivial⟩
  ·exact⟨rfl,fun _=>by trivial⟩
 simp only [h1,h2,h3,h4,h7,if_false]
 have key : ∀r:Int×Bool,AmP r→r.2=(r.2&&amtB r.1):=fun r hr=>by
  cases h:r.2
  ·simp
  ·simp [hr h]
 by_cases ht:tk x.op=1
 ·simp only [ht,if_true]
  rw [op_eq]
  exact⟨key _ (fun h=>by rw [←op_eq] at h ⊢; exact opC_amt h),fun _=>rfl⟩
 ·simp only [ht,if_false]
  have h10:10≤x.op:=by
   rcases Int.lt_or_le x.op 10 with h | h
   ·exfalso; apply ht
    rcases (by omega:x.op=5∨x.op=6∨x.op=8∨x.op=9) with h | h | h | h<;>rw [h]<;>rfl
   ·exact h
  have ha:x.a=0:=by
   simp only [numB,h1,h2,h3,h4,show ¬x.op=9 by omega,show ¬x.op=23 by omega,show ¬x.op=25 by omega,show ¬x.op=26 by omega,or_self,if_false,Bool.and_eq_true,beq_iff_eq] at hn
   exact hn.1
  rw [op_eq,ha]
  exact⟨key _ (fun h=>by rw [←op_eq] at h ⊢; exact opC_amt h),fun _=>rfl⟩
end Go.Proofs.YtmlpmdccfmmpoaaGreat
