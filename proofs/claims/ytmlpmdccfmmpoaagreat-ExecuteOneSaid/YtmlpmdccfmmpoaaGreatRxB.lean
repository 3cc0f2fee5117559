/- Chapter 35's reference: a step that puts a value. -/
import Derived.Test.YtmlpmdccfmmpoaaGreatRxA
import Derived.Test.YtmlpmdccfmmpoaaGreatCodeW
set_option linter.unusedSimpArgs false
set_option linter.unusedVariables false
set_option maxHeartbeats 4000000
set_option maxRecDepth 8000
namespace Go.Proofs.YtmlpmdccfmmpoaaGreat
open E

def stepV (s:Src) (oth:Int) (x:Ins) (st loc:List Int):Int×Bool:=
 if x.op=1 then (x.a,true)
 else if x.op=2 then (loc.getD x.a.toNat 0,true)
 else if x.op=3 then (readN s.items x.a x.b true (-2),true)
 else if x.op=4 then (readN s.items x.a x.b false oth,true)
 else if x.op=7 then scaleS (st.headD 0) s
 else if tk x.op=1 then opR x.op x.a (st.headD 0) 0
 else opR x.op x.a (st.getD 1 0) (st.headD 0)
theorem w_qstep0 (b:Nat) (B:List Bx) (hU:OkU B) (s:Src) (hs:s.Ok) (oth:Int) (ho:oth≠-2) (lv pv:V) (x:Ins) (loc:List Int) (hx:x.op=1∨x.op=2∨x.op=3∨x.op=4) (h1:B[b]?=some (.cells (qC s oth .snil lv pv)))
  (lb:Nat) (lcs:List V) (hl:x.op=2→lv=.bw lb loc.length∧B[lb]?=some (.buf 3 1 lcs)∧lcs[x.a.toNat]?=some (vI (loc.getD x.a.toNat 0))∧0≤x.a∧x.a.toNat<loc.length∧loc.length≤1000)
  (hlv : ∀n,B.length≤n→okN n 0 lv=true) (hpv : ∀n,B.length≤n→okN n 0 pv=true) :
  FnS Tryz.prog 55 [.ptr b 0,x.v] ⟨B,[]⟩ (vB ((stepV s oth x [] loc).2&&amtB (stepV s oth x [] loc).1)) ⟨B.set b (.cells (qC s oth (.bw (B.length+1) 1) lv pv))++[.dead,.buf 3 1 [vI (stepV s oth x [] loc).1]],[]⟩:=by
 have hbl:=lt_of_get h1
 obtain⟨op,xa,xb⟩:=x
 simp only [] at hx hl
 have htk:=w_rtak op
 have hxU : ∀n m,E.leB n m (.cells [vI op,vI xa,vI xb]) (.cells [vI op,vI xa,vI xb]):=fun n m=>⟨LeL_refl _,rfl⟩
 have hU1:OkU (B++[.cells [vI op,vI xa,vI xb]]):=fun n m hn=>(LeBs.appU (hU n m (by simp at hn; omega))).2 ⟨hxU _ _,trivial⟩
 have h1E : ∀l:List Bx,(B++l)[b]?=some (.cells (qC s oth .snil lv pv)):=fun l=>app_ltU h1 l
 have gz : ∀(l:List Bx),(B++l)[B.length]?=l[0]?:=fun l=>by rw [List.getElem?_append_right (by omega)]; simp
 have hput : ∀v ok,FnS Tryz.prog 76 [.ptr b 0,vI v,vB ok] ⟨B++[.cells [vI op,vI xa,vI xb]],[]⟩ (vB (ok&&amtB v)) ⟨B.set b (.cells (qC s oth (.bw (B.length+1) 1) lv pv))++[.cells [vI op,vI xa,vI xb],.buf 3 1 [vI v]],[]⟩:=fun v ok=>by
  have:=w_qput0 b (B++[.cells [vI op,vI xa,vI xb]]) hU1 s oth lv pv v ok (h1E _) (fun n hn=>hlv n (by simp at hn; omega)) (fun n hn=>hpv n (by simp at hn; omega))
  rw [List.set_append_left _ _ hbl] at this
  simpa [List.append_assoc] using this
 have hfin : ∀v:Int,LeBs (B.length+2) 0 (B.set b (.cells (qC s oth (.bw (B.length+1) 1) lv pv))++[.cells [vI op,vI xa,vI xb],.buf 3 1 [vI v]]) (B.set b (.cells (qC s oth (.bw (B.length+1) 1) lv pv))++[.dead,.buf 3 1 [vI v]]):=fun v=>
  (LeBs.appU (LeBs.set (show E.leB _ _ (.cells _) (.cells _) from ⟨LeL_refl _,by unfold qC; simp [okNs,okN,hlv (B.length+2) (by omega),hpv (B.length+2) (by omega)]⟩) b (hU _ 0 (by omega)))).2 ⟨trivial,intb_le [v] _ _,trivial⟩
 have hsum:=fun f t p=>w_qsum s f t p hs.len hs.amt
 unfold stepV
 simp only []
 rcases hx with rfl | rfl | rfl | rfl
 ·have e:takR 1=(0,1):=by decide
  rw [e] at htk
  have hp:=hput xa true
  generalize hfin xa=hf at *
  unfold qC at h1E
  (refine FnS.of_codeV mix Tryz.call55 kv_55 (by simp) (fun hB=>?_); (try simp at hB); (try simp -implicitDefEqProofs [qv_55]))
  ((try simp at htk); (try simp -implicitDefEqProofs [h1E,gz]); repeat' first | ((with_reducible first | apply gdK_em | apply cdK_em | apply pickK_em)<;>(intro hc; have hc':=hc; (try simp at hc'); simp -implicitDefEqProofs [hc,hc',h1E,gz])) | (with_reducible apply callK_pure<;>first | (simp only [eras,era,eras_map]; first | with_reducible exact htk | simpa using htk) | (simp -implicitDefEqProofs [h1E,gz])))
  refine callKf hp ?_
  ((try simp -implicitDefEqProofs [hf]); repeat' first | ((with_reducible first | apply gdK_em | apply cdK_em | apply pickK_em)<;>(intro hc; have hc':=hc; (try simp at hc'); simp -implicitDefEqProofs [hc,hc',hf])))
 ·have e:takR 2=(0,1):=by decide
  rw [e] at htk
  obtain⟨rfl,l2,l3,l4,l5,l6⟩:=hl rfl
  have hlE : ∀l:List Bx,(B++l)[lb]?=some (.buf 3 1 lcs):=fun l=>app_ltU l2 l
  have hll:=lt_of_get l3
  have l3' : ∀h,lcs[xa.toNat]'h=vI (loc.getD xa.toNat 0):=fun h=>by rw [List.getElem?_eq_getElem h] at l3; exact Option.some.inj l3
  have l7:xa<(loc.length:Int):=by omega
  have l8:xa.toNat+1≤lcs.length:=hll
  have hp:=hput (loc.getD xa.toNat 0) true
  have hf:=hfin (loc.getD xa.toNat 0)
  rw [show (if (2:Int)=1 then (xa,true) else if (2:Int)=2 then (loc.getD xa.toNat 0,true) else if (2:Int)=3 then (readN s.items xa xb true (-2),true) else if (2:Int)=4 then (readN s.items xa xb false oth,true) else if (2:Int)=7 then scaleS (([]:List Int).headD 0) s else if tk 2=1 then opR 2 xa (([]:List Int).headD 0) 0 else opR 2 xa (([]:List Int).getD 1 0) (([]:List Int).headD 0))=(loc.getD xa.toNat 0,true) from by simp]
  generalize loc.getD xa.toNat 0=v at *
  unfold qC at h1E
  (refine FnS.of_codeV mix Tryz.call55 kv_55 (by simp) (fun hB=>?_); (try simp at hB); (try simp -implicitDefEqProofs [qv_55]))
  ((try simp at htk); (try simp -implicitDefEqProofs [h1E,gz,hlE,l3,l3',l4,l7,l8,hll]); repeat' first | ((with_reducible first | apply gdK_em | apply cdK_em | apply pickK_em)<;>(intro hc; have hc':=hc; (try simp at hc'); simp -implicitDefEqProofs [hc,hc',h1E,gz,hlE,l3,l3',l4,l7,l8,hll])) | (with_reducible apply callK_pure<;>first | (simp only [eras,era,eras_map]; first | with_reducible exact htk | simpa using htk) | (simp -implicitDefEqProofs [h1E,gz,hlE,l3,l3',l4,l7,l8,hll])))
  all_goals (repeat' with_reducible apply And.intro)
  all_goals refine callKf hp ?_
  all_goals ((try simp -implicitDefEqProofs [hf]); repeat' first | ((with_reducible first | apply gdK_em | apply cdK_em | apply pickK_em)<;>(intro hc; have hc':=hc; (try simp at hc'); simp -implicitDefEqProofs [hc,hc',hf])))
 ·have e:takR 3=(0,1):=by decide
  rw [e] at htk
  have hsm:=hsum xa xb (-2)
  rw [show ((-2:Int) == -2)=true from rfl] at hsm
  have hp:=hput (readN s.items xa xb true (-2)) true
  have hf:=hfin (readN s.items xa xb true (-2))
  simp only [show ¬(3:Int)=1 by decide,show ¬(3:Int)=2 by decide,if_false,if_true]
  generalize readN s.items xa xb true (-2)=v at *
  unfold Src.qv at hsm
  unfold qC at h1E
  (refine FnS.of_codeV mix Tryz.call55 kv_55 (by simp) (fun hB=>?_); (try simp at hB); (try simp -implicitDefEqProofs [qv_55]))
  ((try simp at htk); (try simp at hsm); (try simp -implicitDefEqProofs [h1E,gz]); repeat' first | ((with_reducible first | apply gdK_em | apply cdK_em | apply pickK_em)<;>(intro hc; have hc':=hc; (try simp at hc'); simp -implicitDefEqProofs [hc,hc',h1E,gz])) | (with_reducible apply callK_pure<;>first | (simp only [eras,era,eras_map]; first | with_reducible exact htk | with_reducible exact hsm | simpa using htk | simpa using hsm) | (simp -implicitDefEqProofs [h1E,gz])))
  all_goals (repeat' with_reducible apply And.intro)
  all_goals ((try simp at hsm); (try simp -implicitDefEqProofs [h1E,gz]); repeat' first | ((with_reducible first | apply gdK_em | apply cdK_em | apply pickK_em)<;>(intro hc; have hc':=hc; (try simp at hc'); simp -implicitDefEqProofs [hc,hc',h1E,gz])) | (with_reducible apply callK_pure<;>first | (simp only [eras,era,eras_map]; first | with_reducible exact hsm | simpa using hsm) | (simp -implicitDefEqProofs [h1E,gz])))
  all_goals (repeat' with_reducible apply And.intro)
  all_goals refine callKf hp ?_
  all_goals ((try simp -implicitDefEqProofs [hf]); repeat' first | ((with_reducible first | apply gdK_em | apply cdK_em | apply pickK_em)<;>(intro hc; have hc':=hc; (try simp at hc'); simp -implicitDefEqProofs [hc,hc',hf])))
 ·have e:takR 4=(0,1):=by decide
  rw [e] at htk
  have hsm:=hsum xa xb oth
  rw [show (oth == -2)=false by simpa using ho] at hsm
  have hp:=hput (readN s.items xa xb false oth) true
  have hf:=hfin (readN s.items xa xb false oth)
  simp only [show ¬(4:Int)=1 by decide,show ¬(4:Int)=2 by decide,show ¬(4:Int)=3 by decide,if_false,if_true]
  generalize readN s.items xa xb false oth=v at *
  unfold Src.qv at hsm
  unfold qC at h1E
  (refine FnS.of_codeV mix Tryz.call55 kv_55 (by simp) (fun hB=>?_); (try simp at hB); (try simp -implicitDefEqProofs [qv_55]))
  ((try simp at htk); (try simp at hsm); (try simp -implicitDefEqProofs [h1E,gz]); repeat' first | ((with_reducible first | apply gdK_em | apply cdK_em | apply pickK_em)<;>(intro hc; have hc':=hc; (try simp at hc'); simp -implicitDefEqProofs [hc,hc',h1E,gz])) | (with_reducible apply callK_pure<;>first | (simp only [eras,era,eras_map]; first | with_reducible exact htk | with_reducible exact hsm | simpa using htk | simpa using hsm) | (simp -implicitDefEqProofs [h1E,gz])))
  all_goals (repeat' with_reducible apply And.intro)
  all_goals ((try simp at hsm); (try simp -implicitDefEqProofs [h1E,gz]); repeat' first | ((with_reducible first | apply gdK_em | apply cdK_em | apply pickK_em)<;>(intro hc; have hc':=hc; (try simp at hc'); simp -implicitDefEqProofs [hc,hc',h1E,gz])) | (with_reducible apply callK_pure<;>first | (simp only [eras,era,eras_map]; first | with_reducible exact hsm | simpa using hsm) | (simp -implicitDefEqProofs [h1E,gz])))
  all_goals (repeat' with_reducible apply And.intro)
  all_goals refine callKf hp ?_
  all_goals ((try simp -implicitDefEqProofs [hf]); repeat' first | ((with_reducible first | apply gdK_em | apply cdK_em | apply pickK_em)<;>(intro hc; have hc':=hc; (try simp at hc'); simp -implicitDefEqProofs [hc,hc',hf])))
structure QS (B:List Bx) (b kb:Nat) (s:Src) (oth:Int) (lv pv:V) (st:List Int) (cs:List V):Prop where
 U:OkU B
 hb:B[b]?=some (.cells (qC s oth (.bw kb st.length) lv pv))
 hk:B[kb]?=some (.buf 3 1 cs)
 ht:cs.take st.length=st.reverse.map vI
 hl:st.length≤1000
 lv : ∀n m,B.length≤n→okN n m lv=true
 pv : ∀n m,B.length≤n→okN n m pv=true
def QM (B:List Bx) (b kb:Nat) (s:Src) (oth:Int) (lv pv:V) (n:Nat):List Bx:=B.set b (.cells (qC s oth (.bw kb n) lv pv))
def QF (B:List Bx) (b kb:Nat) (s:Src) (oth:Int) (lv pv:V) (n:Nat):List Bx:=(B.set kb .dead).set b (.cells (qC s oth (.bw (B.length+1) n) lv pv))
section
variable {B:List Bx} {b kb:Nat} {s:Src} {oth:Int} {lv pv:V} {st:List Int} {cs:List V}
theorem QS.ne (h:QS B b kb s oth lv pv st cs):kb≠b:=fun e=>by have:=h.hk; rw [e,h.hb] at this; cases this
theorem QS.same (h:QS B b kb s oth lv pv st cs):QM B b kb s oth lv pv st.length=B:=by
 obtain⟨h1,h2⟩:=List.getElem?_eq_some_iff.1 h.hb
 unfold QM; rw [←h2,List.set_getElem_self]
theorem qC_le {n m:Nat} {sv lv pv:V} (h1:okN n m sv=true) (h2:okN n m lv=true) (h3:okN n m pv=true):E.leB n m (.cells (qC s oth sv lv pv)) (.cells (qC s oth sv lv pv)):=⟨LeL_refl _,by unfold qC; simp [okNs,okN,h1,h2,h3]⟩
theorem QS.len (x:Bx) (k:Nat):(QM B b kb s oth lv pv k++[x]).length=B.length+1:=by unfold QM; simp
theorem QS.UM (h:QS B b kb s oth lv pv st cs) {x:Bx} (hx : ∀n m,E.leB n m x x) (k:Nat):OkU (QM B b kb s oth lv pv k++[x]):=fun n m hn=>by
 rw [QS.len] at hn
 have hk:=lt_of_get h.hk
 exact (LeBs.appU (LeBs.set (qC_le (by simp [okN]; omega) (h.lv n m (by omega)) (h.pv n m (by omega))) b (h.U n m (by omega)))).2 ⟨hx _ _,trivial⟩
theorem QS.Mb (h:QS B b kb s oth lv pv st cs) (k:Nat) (l:List Bx):(QM B b kb s oth lv pv k++l)[b]?=some (.cells (qC s oth (.bw kb k) lv pv)):=by
 have hb:=lt_of_get h.hb
 unfold QM
 rw [List.getElem?_append_left (by simpa using hb),List.getElem?_set_self hb]
theorem QS.Mk (h:QS B b kb s oth lv pv st cs) (k:Nat) (l:List Bx):(QM B b kb s oth lv pv k++l)[kb]?=some (.buf 3 1 cs):=by
 have hk:=lt_of_get h.hk
 unfold QM
 rw [List.getElem?_append_left (by simpa using hk),List.getElem?_set_ne (fun e=>h.ne e.symm)]
 exact h.hk
theorem QS.get (h:QS B b kb s oth lv pv st cs) {j:Nat} {v:Int} (hj:j<st.length) (hv:st.reverse[j]?=some v):cs[j]?=some (vI v):=by
 have:=congrArg (fun l=>l[j]?) h.ht
 simp only [List.getElem?_take,if_pos hj,List.getElem?_map,hv,Option.map_some] at this
 exact this
theorem QS.takes (h:QS B b kb s oth lv pv st cs) {st' r:List Int} (e:st=r++st'):cs.take st'.length=st'.reverse.map vI:=by
 have h1:=h.ht
 rw [e,List.reverse_append,List.map_append,List.length_append] at h1
 have h2:=congrArg (List.take st'.length) h1
 rw [List.take_take,Nat.min_eq_left (by omega),List.take_left' (by simp)] at h2
 exact h2
theorem w_popM (h:QS B b kb s oth lv pv st cs) {x:Bx} (hx : ∀n m,E.leB n m x x) {n:Nat} {v:Int} (hn:n<st.length) (hv:cs[n]?=some (vI v)) :
  FnS Tryz.prog 54 [.ptr b 0] ⟨QM B b kb s oth lv pv (n+1)++[x],[]⟩ (vI v) ⟨QM B b kb s oth lv pv n++[x],[]⟩:=by
 have hl:=h.hl
 have hbl:=lt_of_get h.hb
 have:=w_qpop b kb n (QM B b kb s oth lv pv (n+1)++[x]) (fun m=>h.UM hx _ _ _ (Nat.le_refl _)) s oth lv pv cs v (h.Mb _ _) (h.Mk _ _) hv (by omega) (h.lv _ _ (by rw [QS.len]; omega)) (h.pv _ _ (by rw [QS.len]; omega))
 rw [List.set_append_left _ _ (by unfold QM; simpa using hbl)] at this
 unfold QM at this ⊢
 rw [List.set_set] at this
 exact this
theorem w_putM (h:QS B b kb s oth lv pv st cs) {x:Bx} (hx : ∀n m,E.leB n m x x) {st' r:List Int} (e:st=r++st') (v:Int) (ok:Bool) :
  FnS Tryz.prog 76 [.ptr b 0,vI v,vB ok] ⟨QM B b kb s oth lv pv st'.length++[x],[]⟩ (vB (ok&&amtB v)) ⟨QF B b kb s oth lv pv (st'.length+1)++[x,.buf 3 1 ((v::st').reverse.map vI)],[]⟩:=by
 have hl:=h.hl
 have hbl:=lt_of_get h.hb
 have hkl:=lt_of_get h.hk
 have hs:st'.length≤st.length:=by rw [e]; simp
 have:=w_qput1 b kb 0 (QM B b kb s oth lv pv st'.length++[x]) (h.UM hx _) s oth lv pv v ok st' cs (h.Mb _ _) (h.Mk _ _) (h.takes e) (by omega) (fun n hn=>h.lv _ _ (by rw [QS.len] at hn; omega)) (fun n hn=>h.pv _ _ (by rw [QS.len] at hn; omega))
 rw [QS.len,List.set_append_left _ _ (by unfold QM; simpa using hkl),List.set_append_left _ _ (by unfold QM; simpa using hbl),List.append_assoc] at this
 have e2:((QM B b kb s oth lv pv st'.length).set kb .dead).set b (.cells (qC s oth (.bw (B.length+1) (st'.length+1)) lv pv))=QF B b kb s oth lv pv (st'.length+1):=by
  unfold QM QF
  rw [List.set_comm _ _ (fun e=>h.ne e.symm),List.set_set]
 rw [e2] at this
 exact this
theorem QS.fin (h:QS B b kb s oth lv pv st cs) (x:Bx) (n:Nat) (l:List Int):LeBs (B.length+2) 0 (QF B b kb s oth lv pv n++[x,.buf 3 1 (l.map vI)]) (QF B b kb s oth lv pv n++[.dead,.buf 3 1 (l.map vI)]):=
 (LeBs.appU (LeBs.set (qC_le (by simp [okN]) (h.lv _ _ (by omega)) (h.pv _ _ (by omega))) b (LeBs.set (show E.leB _ _ .dead .dead from trivial) kb (h.U _ 0 (by omega))))).2 ⟨trivial,intb_le _ _ _,trivial⟩
theorem QS.flen (n:Nat) (l:List Bx):(QF B b kb s oth lv pv n++l).length=B.length+l.length:=by unfold QF; simp
end
end Go.Proofs.YtmlpmdccfmmpoaaGreat
