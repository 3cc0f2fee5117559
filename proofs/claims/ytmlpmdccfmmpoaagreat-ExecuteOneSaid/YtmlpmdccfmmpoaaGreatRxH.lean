/- Chapter 35's reference: the boxes of instance. -/
import Derived.Test.YtmlpmdccfmmpoaaGreatRxG
set_option linter.unusedSimpArgs false
set_option linter.unusedVariables false
set_option maxHeartbeats 4000000
set_option maxRecDepth 8000
namespace Go.Proofs.YtmlpmdccfmmpoaaGreat
open E

def PvQ (B:List Bx) (pv:V) (ps:List Part) (pb:Nat):Prop:=(pv=.snil∧ps=[])∨(pv=.bw pb ps.length∧B[pb]?=some (.buf 45 2 ((ps.flatMap Part.c).map .t)))
theorem PvQ.okU {B:List Bx} {pv:V} {ps:List Part} {pb:Nat} (h:PvQ B pv ps pb) (n m:Nat) (hn:B.length≤n):okN n m pv=true:=by
 rcases h with ⟨rfl,_⟩ | ⟨rfl,h⟩
 ·rfl
 ·have:=lt_of_get h; simp [okN]; omega
theorem SvQ.okU {B:List Bx} {sv:V} {st:List Int} {kb:Nat} (h:SvQ B sv st kb) (n m:Nat) (hn:B.length≤n):okN n m sv=true:=by
 rcases h with ⟨rfl,_⟩ | ⟨rfl,cs,h,_⟩
 ·rfl
 ·have:=lt_of_get h; simp [okN]; omega
structure QB (C0 C1 C2:List V) (s:Src) (oth:Int) (st loc:List Int) (ps:List Part) (sv lv pv:V) (kb lb pb:Nat) (B:List Bx):Prop where
 U:OkU B
 b0:B[0]?=some (.cells C0)
 b1:B[1]?=some (.cells C1)
 b2:B[2]?=some (.cells C2)
 b3:B[3]?=some (.cells (qC s oth sv lv pv))
 fs:SvQ B sv st kb
 fl:LvQ B lv loc lb
 fp:PvQ B pv ps pb
 ne:sv≠V.snil→lv≠V.snil→kb≠lb
section
variable {C0 C1 C2:List V} {s:Src} {oth:Int} {st loc:List Int} {ps:List Part} {sv lv pv:V} {kb lb pb:Nat} {B:List Bx}
theorem QB.far (h:QB C0 C1 C2 s oth st loc ps sv lv pv kb lb pb B) {j z:Nat} {e:TypeId} {cs:List V} (hj:B[j]?=some (.buf e z cs)):4≤j:=by
 rcases Nat.lt_or_ge j 4 with h4 | h4
 ·rcases (by omega:j=0∨j=1∨j=2∨j=3) with rfl | rfl | rfl | rfl
  ·rw [h.b0] at hj; cases hj
  ·rw [h.b1] at hj; cases hj
  ·rw [h.b2] at hj; cases hj
  ·rw [h.b3] at hj; cases hj
 ·exact h4
theorem QB.x (h:QB C0 C1 C2 s oth st loc ps sv lv pv kb lb pb B) {l:List V} (hl : ∀n m,E.leB n m (.cells l) (.cells l)):QB C0 C1 C2 s oth st loc ps sv lv pv kb lb pb (B++[.cells l]):=by
 refine⟨fun n m hn=>(LeBs.appU (h.U n m (by simp at hn; omega))).2 ⟨hl _ _,trivial⟩,app_ltU h.b0 _,app_ltU h.b1 _,app_ltU h.b2 _,app_ltU h.b3 _,?_,?_,?_,h.ne⟩
 ·rcases h.fs with h1 | ⟨h1,cs,h2,h3⟩
  ·exact .inl h1
  ·exact .inr ⟨h1,cs,app_ltU h2 _,h3⟩
 ·rcases h.fl with h1 | ⟨h1,h2⟩
  ·exact .inl h1
  ·exact .inr ⟨h1,app_ltU h2 _⟩
 ·rcases h.fp with h1 | ⟨h1,h2⟩
  ·exact .inl h1
  ·exact .inr ⟨h1,app_ltU h2 _⟩
theorem QB.step {B':List Bx} {l:List Int} (h:QB C0 C1 C2 s oth st loc ps sv lv pv kb lb pb B) (hq:QL B B' 3 kb s oth sv lv pv l):QB C0 C1 C2 s oth l loc ps (.bw (B'.length-1) l.length) lv pv (B'.length-1) lb pb B':=by
 have hkb : ∀n,sv=.bw kb n→4≤kb∧∃cs,B[kb]?=some (.buf 3 1 cs):=fun n e=>by
  rcases h.fs with ⟨h1,_⟩ | ⟨_,cs,h2,_⟩
  ·rw [h1] at e; cases e
  ·exact⟨h.far h2,cs,h2⟩
 have hg : ∀j,j<3→B'[j]?=B[j]?:=fun j hj=>hq.get j (by have:=lt_of_get h.b3; omega) (by omega) (fun n e=>by have:=(hkb n e).1; omega)
 refine⟨hq.U,by rw [hg 0 (by omega)]; exact h.b0,by rw [hg 1 (by omega)]; exact h.b1,by rw [hg 2 (by omega)]; exact h.b2,hq.hb,.inr ⟨rfl,_,hq.hk,by rw [List.take_of_length_le (by simp)]⟩,?_,?_,?_⟩
 ·rcases h.fl with h1 | ⟨h1,h2⟩
  ·exact .inl h1
  ·refine .inr ⟨h1,?_⟩
   have:=h.far h2
   rw [hq.get lb (lt_of_get h2) (by omega) (fun n e=>fun hh=>h.ne (by rw [e]; simp) (by rw [h1]; simp) hh.symm)]
   exact h2
 ·rcases h.fp with h1 | ⟨h1,h2⟩
  ·exact .inl h1
  ·refine .inr ⟨h1,?_⟩
   have:=h.far h2
   rw [hq.get pb (lt_of_get h2) (by omega) (fun n e=>fun hh=>by
    obtain⟨_,cs,h3⟩:=hkb n e
    rw [←hh,h2] at h3; cases h3)]
   exact h2
 ·intro _ hn
  rcases h.fl with ⟨h1,_⟩ | ⟨h1,h2⟩
  ·exact absurd h1 hn
  ·have:=lt_of_get h2
   have:=hq.len
   omega
theorem QB.pop {v:Int} (h:QB C0 C1 C2 s oth (v::st) loc ps sv lv pv kb lb pb B):QB C0 C1 C2 s oth st loc ps (.bw kb st.length) lv pv kb lb pb (B.set 3 (.cells (qC s oth (.bw kb st.length) lv pv))):=by
 have h3l:=lt_of_get h.b3
 obtain⟨hsv,cs,hk,hct⟩:sv=.bw kb (st.length+1)∧∃cs,B[kb]?=some (.buf 3 1 cs)∧cs.take (st.length+1)=(v::st).reverse.map vI:=by
  rcases h.fs with ⟨_,h2⟩ | h2
  ·cases h2
  ·exact h2
 have hgb : ∀{j z:Nat} {e:TypeId} {cs:List V},B[j]?=some (.buf e z cs)→(B.set 3 (.cells (qC s oth (.bw kb st.length) lv pv)))[j]?=some (.buf e z cs):=fun hj=>by
  have:=h.far hj
  rw [List.getElem?_set_ne (by omega)]; exact hj
 have hkl:=lt_of_get hk
 refine⟨fun n m hn=>?_,?_,?_,?_,?_,.inr ⟨rfl,cs,hgb hk,?_⟩,?_,?_,fun _ h2=>h.ne (by rw [hsv]; simp) h2⟩
 ·simp at hn
  exact LeBs.set (qC_le (by simp [okN]; omega) (h.fl.okU _ _ hn) (h.fp.okU _ _ hn)) 3 (h.U n m hn)
 ·rw [List.getElem?_set_ne (by decide)]; exact h.b0
 ·rw [List.getElem?_set_ne (by decide)]; exact h.b1
 ·rw [List.getElem?_set_ne (by decide)]; exact h.b2
 ·rw [List.getElem?_set_self h3l]
 ·have:=congrArg (List.take st.length) hct
  rw [List.take_take,Nat.min_eq_left (by omega)] at this
  rw [this]; simp [List.take_left']
 ·rcases h.fl with h1 | ⟨h1,h2⟩
  ·exact .inl h1
  ·exact .inr ⟨h1,hgb h2⟩
 ·rcases h.fp with h1 | ⟨h1,h2⟩
  ·exact .inl h1
  ·exact .inr ⟨h1,hgb h2⟩
theorem QB.w_pop {v:Int} (h:QB C0 C1 C2 s oth (v::st) loc ps sv lv pv kb lb pb B) (hst:st.length≤1000):FnS Tryz.prog 54 [.ptr 3 0] ⟨B,[]⟩ (vI v) ⟨B.set 3 (.cells (qC s oth (.bw kb st.length) lv pv)),[]⟩:=by
 obtain⟨rfl,cs,hk,hct⟩:sv=.bw kb (st.length+1)∧∃cs,B[kb]?=some (.buf 3 1 cs)∧cs.take (st.length+1)=(v::st).reverse.map vI:=by
  rcases h.fs with ⟨_,h2⟩ | h2
  ·cases h2
  ·exact h2
 refine w_qpop 3 kb st.length B (fun m=>h.U _ m (Nat.le_refl _)) s oth lv pv cs v h.b3 hk ?_ (by omega) (h.fl.okU _ _ (Nat.le_refl _)) (h.fp.okU _ _ (Nat.le_refl _))
 have:=congrArg (fun l:List V=>l[st.length]?) hct
 simp only [List.getElem?_take] at this
 rw [if_pos (by omega)] at this
 rw [this]; simp
theorem QB.store0 (h:QB C0 C1 C2 s oth st [] ps sv .snil pv kb lb pb B) (v:Int):QB C0 C1 C2 s oth st [v] ps sv (.bw B.length 1) pv kb B.length pb (B.set 3 (.cells (qC s oth sv (.bw B.length 1) pv))++[.buf 3 1 [vI v]]):=by
 have h3l:=lt_of_get h.b3
 have hg : ∀{j:Nat} {x:Bx},B[j]?=some x→j≠3→(B.set 3 (.cells (qC s oth sv (.bw B.length 1) pv))++[.buf 3 1 [vI v]])[j]?=some x:=fun hj hn=>by
  rw [List.getElem?_append_left (by simpa using lt_of_get hj),List.getElem?_set_ne (Ne.symm hn)]; exact hj
 refine⟨fun n m hn=>?_,hg h.b0 (by decide),hg h.b1 (by decide),hg h.b2 (by decide),?_,?_,.inr ⟨rfl,?_⟩,?_,fun h1 _=>?_⟩
 ·simp at hn
  exact (LeBs.appU (LeBs.set (qC_le (h.fs.okU _ _ (by omega)) (by simp [okN]; omega) (h.fp.okU _ _ (by omega))) 3 (h.U _ _ (by omega)))).2 ⟨intb_le [v] _ _,trivial⟩
 ·rw [List.getElem?_append_left (by simpa using h3l),List.getElem?_set_self h3l]
 ·rcases h.fs with h1 | ⟨h1,cs,h2,h3⟩
  ·exact .inl h1
  ·exact .inr ⟨h1,cs,hg h2 (by have:=h.far h2; omega),h3⟩
 ·rw [List.getElem?_append_right (by simp)]; simp
 ·rcases h.fp with h1 | ⟨h1,h2⟩
  ·exact .inl h1
  ·exact .inr ⟨h1,hg h2 (by have:=h.far h2; omega)⟩
 ·rcases h.fs with ⟨h2,_⟩ | ⟨_,cs,h2,_⟩
  ·exact absurd h2 h1
  ·have:=lt_of_get h2; omega
theorem QB.store1 {n:Nat} (h:QB C0 C1 C2 s oth st loc ps sv (.bw lb n) pv kb lb pb B) (v:Int):QB C0 C1 C2 s oth st (loc++[v]) ps sv (.bw B.length (loc.length+1)) pv kb B.length pb ((B.set lb .dead).set 3 (.cells (qC s oth sv (.bw B.length (loc.length+1)) pv))++[.buf 3 1 (loc.map vI++[vI v])]):=by
 have h3l:=lt_of_get h.b3
 have hlb:B[lb]?=some (.buf 3 1 (loc.map vI)):=by
  rcases h.fl with ⟨h1,_⟩ | ⟨_,h2⟩
  ·cases h1
  ·exact h2
 have hl4:=h.far hlb
 have hg : ∀{j:Nat} {x:Bx},B[j]?=some x→j≠3→j≠lb→((B.set lb .dead).set 3 (.cells (qC s oth sv (.bw B.length (loc.length+1)) pv))++[.buf 3 1 (loc.map vI++[vI v])])[j]?=some x:=fun hj hn hn2=>by
  rw [List.getElem?_append_left (by simpa using lt_of_get hj),List.getElem?_set_ne (Ne.symm hn),List.getElem?_set_ne (Ne.symm hn2)]; exact hj
 refine⟨fun n m hn=>?_,hg h.b0 (by decide) (by omega),hg h.b1 (by decide) (by omega),hg h.b2 (by decide) (by omega),?_,?_,.inr ⟨by simp,?_⟩,?_,fun h1 _=>?_⟩
 ·simp at hn
  exact (LeBs.appU (LeBs.set (qC_le (h.fs.okU _ _ (by omega)) (by simp [okN]; omega) (h.fp.okU _ _ (by omega))) 3 (LeBs.set (show E.leB _ _ .dead .dead from trivial) lb (h.U _ _ (by omega))))).2 ⟨by have:=intb_le (loc++[v]) n m; simpa using this,trivial⟩
 ·rw [List.getElem?_append_left (by simpa using h3l),List.getElem?_set_self (by simpa using h3l)]
 ·rcases h.fs with h1 | ⟨h1,cs,h2,h3⟩
  ·exact .inl h1
  ·exact .inr ⟨h1,cs,hg h2 (by have:=h.far h2; omega) (h.ne (by rw [h1]; simp) (by simp)),h3⟩
 ·rw [List.getElem?_append_right (by simp)]; simp
 ·rcases h.fp with h1 | ⟨h1,h2⟩
  ·exact .inl h1
  ·exact .inr ⟨h1,hg h2 (by have:=h.far h2; omega) (fun e=>by rw [e,hlb] at h2; cases h2)⟩
 ·rcases h.fs with ⟨h2,_⟩ | ⟨_,cs,h2,_⟩
  ·exact absurd h2 h1
  ·have:=lt_of_get h2; omega
theorem partb_le (l:List Part) (n m:Nat):E.leB n m (.buf 45 2 ((l.flatMap Part.c).map .t)) (.buf 45 2 ((l.flatMap Part.c).map .t)):=leB_tb _ _ _ _ _
theorem QB.post0 (h:QB C0 C1 C2 s oth st loc [] sv lv .snil kb lb pb B) (p:Part):QB C0 C1 C2 s oth st loc [p] sv lv (.bw B.length 1) kb lb B.length (B.set 3 (.cells (qC s oth sv lv (.bw B.length 1)))++[.buf 45 2 [vI p.acc,vI p.amt]]):=by
 have h3l:=lt_of_get h.b3
 have hg : ∀{j:Nat} {x:Bx},B[j]?=some x→j≠3→(B.set 3 (.cells (qC s oth sv lv (.bw B.length 1)))++[.buf 45 2 [vI p.acc,vI p.amt]])[j]?=some x:=fun hj hn=>by
  rw [List.getElem?_append_left (by simpa using lt_of_get hj),List.getElem?_set_ne (Ne.symm hn)]; exact hj
 refine⟨fun n m hn=>?_,hg h.b0 (by decide),hg h.b1 (by decide),hg h.b2 (by decide),?_,?_,?_,.inr ⟨rfl,?_⟩,h.ne⟩
 ·simp at hn
  exact (LeBs.appU (LeBs.set (qC_le (h.fs.okU _ _ (by omega)) (h.fl.okU _ _ (by omega)) (by simp [okN]; omega)) 3 (h.U _ _ (by omega)))).2 ⟨partb_le [p] _ _,trivial⟩
 ·rw [List.getElem?_append_left (by simpa using h3l),List.getElem?_set_self h3l]
 ·rcases h.fs with h1 | ⟨h1,cs,h2,h3⟩
  ·exact .inl h1
  ·exact .inr ⟨h1,cs,hg h2 (by have:=h.far h2; omega),h3⟩
 ·rcases h.fl with h1 | ⟨h1,h2⟩
  ·exact .inl h1
  ·exact .inr ⟨h1,hg h2 (by have:=h.far h2; omega)⟩
 ·rw [List.getElem?_append_right (by simp)]; simp [Part.c]
theorem QB.post1 {n:Nat} (h:QB C0 C1 C2 s oth st loc ps sv lv (.bw pb n) kb lb pb B) (p:Part):QB C0 C1 C2 s oth st loc (ps++[p]) sv lv (.bw B.length (ps.length+1)) kb lb B.length ((B.set pb .dead).set 3 (.cells (qC s oth sv lv (.bw B.length (ps.length+1))))++[.buf 45 2 ((ps.flatMap Part.c).map .t++[vI p.acc,vI p.amt])]):=by
 have h3l:=lt_of_get h.b3
 have hpb:B[pb]?=some (.buf 45 2 ((ps.flatMap Part.c).map .t)):=by
  rcases h.fp with ⟨h1,_⟩ | ⟨_,h2⟩
  ·cases h1
  ·exact h2
 have hp4:=h.far hpb
 have hg : ∀{j:Nat} {x:Bx},B[j]?=some x→j≠3→j≠pb→((B.set pb .dead).set 3 (.cells (qC s oth sv lv (.bw B.length (ps.length+1))))++[.buf 45 2 ((ps.flatMap Part.c).map .t++[vI p.acc,vI p.amt])])[j]?=some x:=fun hj hn hn2=>by
  rw [List.getElem?_append_left (by simpa using lt_of_get hj),List.getElem?_set_ne (Ne.symm hn),List.getElem?_set_ne (Ne.symm hn2)]; exact hj
 refine⟨fun n m hn=>?_,hg h.b0 (by decide) (by omega),hg h.b1 (by decide) (by omega),hg h.b2 (by decide) (by omega),?_,?_,?_,.inr ⟨by simp,?_⟩,h.ne⟩
 ·simp at hn
  exact (LeBs.appU (LeBs.set (qC_le (h.fs.okU _ _ (by omega)) (h.fl.okU _ _ (by omega)) (by simp [okN]; omega)) 3 (LeBs.set (show E.leB _ _ .dead .dead from trivial) pb (h.U _ _ (by omega))))).2 ⟨by have:=partb_le (ps++[p]) n m; simpa [Part.c] using this,trivial⟩
 ·rw [List.getElem?_append_left (by simpa using h3l),List.getElem?_set_self (by simpa using h3l)]
 ·rcases h.fs with h1 | ⟨h1,cs,h2,h3⟩
  ·exact .inl h1
  ·exact .inr ⟨h1,cs,hg h2 (by have:=h.far h2; omega) (fun e=>by rw [e,hpb] at h2; cases h2),h3⟩
 ·rcases h.fl with h1 | ⟨h1,h2⟩
  ·exact .inl h1
  ·exact .inr ⟨h1,hg h2 (by have:=h.far h2; omega) (fun e=>by rw [e,hpb] at h2; cases h2)⟩
 ·rw [List.getElem?_append_right (by simp)]; simp [Part.c]
end
end Go.Proofs.YtmlpmdccfmmpoaaGreat
