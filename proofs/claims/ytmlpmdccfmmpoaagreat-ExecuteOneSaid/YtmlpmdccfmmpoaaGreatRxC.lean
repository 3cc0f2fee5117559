/- Chapter 35's reference: a step over a stack that is there. -/
import Derived.Test.YtmlpmdccfmmpoaaGreatRxB
set_option linter.unusedSimpArgs false
set_option linter.unusedVariables false
set_option maxHeartbeats 4000000
set_option maxRecDepth 8000
namespace Go.Proofs.YtmlpmdccfmmpoaaGreat
open E
section
variable {B:List Bx} {b kb:Nat} {s:Src} {oth:Int} {lv pv:V} {st:List Int} {cs:List V}
theorem QM_len (n:Nat):(QM B b kb s oth lv pv n).length=B.length:=by unfold QM; simp
theorem QM_z (n:Nat) (l:List Bx):(QM B b kb s oth lv pv n++l)[B.length]?=l[0]?:=by
 have:=QM_len (B:=B) (b:=b) (kb:=kb) (s:=s) (oth:=oth) (lv:=lv) (pv:=pv) n
 rw [List.getElem?_append_right (by omega),this]; simp
end
theorem w_qstepA {B:List Bx} {b kb:Nat} {s:Src} {oth:Int} {lv pv:V} {st:List Int} {cs:List V} (h:QS B b kb s oth lv pv st cs) (hs:s.Ok) (ho:oth≠-2) (x:Ins) (loc:List Int) (hx:x.op=1∨x.op=2∨x.op=3∨x.op=4)
  (lb:Nat) (lcs:List V) (hl:x.op=2→lb≠b∧lv=.bw lb loc.length∧B[lb]?=some (.buf 3 1 lcs)∧lcs[x.a.toNat]?=some (vI (loc.getD x.a.toNat 0))∧0≤x.a∧x.a.toNat<loc.length∧loc.length≤1000) :
  FnS Tryz.prog 55 [.ptr b 0,x.v] ⟨B,[]⟩ (vB ((stepV s oth x st loc).2&&amtB (stepV s oth x st loc).1)) ⟨QF B b kb s oth lv pv (st.length+1)++[.dead,.buf 3 1 (((stepV s oth x st loc).1::st).reverse.map vI)],[]⟩:=by
 obtain⟨op,xa,xb⟩:=x
 simp only [] at hx hl
 have htk:=w_rtak op
 have hxU : ∀n m,E.leB n m (.cells [vI op,vI xa,vI xb]) (.cells [vI op,vI xa,vI xb]):=fun n m=>⟨LeL_refl _,rfl⟩
 have hput:=fun v ok=>w_putM h hxU (st':=st) (r:=[]) rfl v ok
 have hfin:=fun (v:Int)=>h.fin (.cells [vI op,vI xa,vI xb]) (st.length+1) ((v::st).reverse)
 have hMb:=fun l=>h.Mb st.length l
 have hMl:=QM_len (B:=B) (b:=b) (kb:=kb) (s:=s) (oth:=oth) (lv:=lv) (pv:=pv) st.length
 have gz:=fun l=>QM_z (B:=B) (b:=b) (kb:=kb) (s:=s) (oth:=oth) (lv:=lv) (pv:=pv) st.length l
 have hFl:(QF B b kb s oth lv pv (st.length+1)).length=B.length:=by have:=QS.flen (B:=B) (b:=b) (kb:=kb) (s:=s) (oth:=oth) (lv:=lv) (pv:=pv) (st.length+1) []; simpa using this
 have hbl:=lt_of_get h.hb
 have hlE : ∀m,B[lb]?=some m→lb≠b→∀l,(QM B b kb s oth lv pv st.length++l)[lb]?=some m:=fun m hm hn l=>by
  have:=lt_of_get hm
  unfold QM
  rw [List.getElem?_append_left (by simpa using this),List.getElem?_set_ne (fun e=>hn e.symm)]
  exact hm
 have hsum:=fun f t p=>w_qsum s f t p hs.len hs.amt
 rw [show (⟨B,[]⟩:St)=⟨QM B b kb s oth lv pv st.length,[]⟩ from by rw [h.same]]
 generalize QM B b kb s oth lv pv st.length=M at *
 generalize QF B b kb s oth lv pv (st.length+1)=F at *
 unfold stepV
 simp only []
 unfold qC at hMb
 rcases hx with rfl | rfl | rfl | rfl
 ·have e:takR 1=(0,1):=by decide
  rw [e] at htk
  have hp:=hput xa true
  have hf:=hfin xa
  rw [if_pos rfl]
  simp only []
  generalize (xa::st).reverse.map vI=W at *
  (refine FnS.of_codeV mix Tryz.call55 kv_55 (by simp) (fun hB=>?_); (try simp at hB); (try simp -implicitDefEqProofs [qv_55]))
  ((try simp at htk); (try simp -implicitDefEqProofs [hMb,gz,hMl]); repeat' first | ((with_reducible first | apply gdK_em | apply cdK_em | apply pickK_em)<;>(intro hc; have hc':=hc; (try simp at hc'); simp -implicitDefEqProofs [hc,hc',hMb,gz,hMl])) | (with_reducible apply callK_pure<;>first | (simp only [eras,era,eras_map]; first | with_reducible exact htk | simpa using htk) | (simp -implicitDefEqProofs [hMb,gz,hMl])))
  refine callKf hp ?_
  ((try simp -implicitDefEqProofs [hf,hFl]); repeat' first | ((with_reducible first | apply gdK_em | apply cdK_em | apply pickK_em)<;>(intro hc; have hc':=hc; (try simp at hc'); simp -implicitDefEqProofs [hc,hc',hf,hFl])))
 ·have e:takR 2=(0,1):=by decide
  rw [e] at htk
  obtain⟨l0,rfl,l2,l3,l4,l5,l6⟩:=hl rfl
  have hlE:=hlE _ l2 l0
  have hll:=lt_of_get l3
  have l3' : ∀h,lcs[xa.toNat]'h=vI (loc.getD xa.toNat 0):=fun h=>by rw [List.getElem?_eq_getElem h] at l3; exact Option.some.inj l3
  have l7:xa<(loc.length:Int):=by omega
  have l8:xa.toNat+1≤lcs.length:=hll
  have hp:=hput (loc.getD xa.toNat 0) true
  have hf:=hfin (loc.getD xa.toNat 0)
  rw [if_neg (show ¬(2:Int)=1 by decide),if_pos rfl]
  simp only []
  generalize loc.getD xa.toNat 0=v at *
  generalize (v::st).reverse.map vI=W at *
  (refine FnS.of_codeV mix Tryz.call55 kv_55 (by simp) (fun hB=>?_); (try simp at hB); (try simp -implicitDefEqProofs [qv_55]))
  ((try simp at htk); (try simp -implicitDefEqProofs [hMb,gz,hMl,hlE,l3,l3',l4,l7,l8,hll]); repeat' first | ((with_reducible first | apply gdK_em | apply cdK_em | apply pickK_em)<;>(intro hc; have hc':=hc; (try simp at hc'); simp -implicitDefEqProofs [hc,hc',hMb,gz,hMl,hlE,l3,l3',l4,l7,l8,hll])) | (with_reducible apply callK_pure<;>first | (simp only [eras,era,eras_map]; first | with_reducible exact htk | simpa using htk) | (simp -implicitDefEqProofs [hMb,gz,hMl,hlE,l3,l3',l4,l7,l8,hll])))
  all_goals (repeat' with_reducible apply And.intro)
  all_goals refine callKf hp ?_
  all_goals ((try simp -implicitDefEqProofs [hf,hFl]); repeat' first | ((with_reducible first | apply gdK_em | apply cdK_em | apply pickK_em)<;>(intro hc; have hc':=hc; (try simp at hc'); simp -implicitDefEqProofs [hc,hc',hf,hFl])))
 ·have e:takR 3=(0,1):=by decide
  rw [e] at htk
  have hsm:=hsum xa xb (-2)
  rw [show ((-2:Int) == -2)=true from rfl] at hsm
  have hp:=hput (readN s.items xa xb true (-2)) true
  have hf:=hfin (readN s.items xa xb true (-2))
  simp only [show ¬(3:Int)=1 by decide,show ¬(3:Int)=2 by decide,if_false,if_true]
  generalize readN s.items xa xb true (-2)=v at *
  generalize (v::st).reverse.map vI=W at *
  unfold Src.qv at hsm
  (refine FnS.of_codeV mix Tryz.call55 kv_55 (by simp) (fun hB=>?_); (try simp at hB); (try simp -implicitDefEqProofs [qv_55]))
  ((try simp at htk); (try simp at hsm); (try simp -implicitDefEqProofs [hMb,gz,hMl]); repeat' first | ((with_reducible first | apply gdK_em | apply cdK_em | apply pickK_em)<;>(intro hc; have hc':=hc; (try simp at hc'); simp -implicitDefEqProofs [hc,hc',hMb,gz,hMl])) | (with_reducible apply callK_pure<;>first | (simp only [eras,era,eras_map]; first | with_reducible exact htk | with_reducible exact hsm | simpa using htk | simpa using hsm) | (simp -implicitDefEqProofs [hMb,gz,hMl])))
  all_goals (repeat' with_reducible apply And.intro)
  all_goals ((try simp at hsm); (try simp -implicitDefEqProofs [hMb,gz,hMl]); repeat' first | ((with_reducible first | apply gdK_em | apply cdK_em | apply pickK_em)<;>(intro hc; have hc':=hc; (try simp at hc'); simp -implicitDefEqProofs [hc,hc',hMb,gz,hMl])) | (with_reducible apply callK_pure<;>first | (simp only [eras,era,eras_map]; first | with_reducible exact hsm | simpa using hsm) | (simp -implicitDefEqProofs [hMb,gz,hMl])))
  all_goals (repeat' with_reducible apply And.intro)
  all_goals refine callKf hp ?_
  all_goals ((try simp -implicitDefEqProofs [hf,hFl]); repeat' first | ((with_reducible first | apply gdK_em | apply cdK_em | apply pickK_em)<;>(intro hc; have hc':=hc; (try simp at hc'); simp -implicitDefEqProofs [hc,hc',hf,hFl])))
 ·have e:takR 4=(0,1):=by decide
  rw [e] at htk
  have hsm:=hsum xa xb oth
  rw [show (oth == -2)=false by simpa using ho] at hsm
  have hp:=hput (readN s.items xa xb false oth) true
  have hf:=hfin (readN s.items xa xb false oth)
  simp only [show ¬(4:Int)=1 by decide,show ¬(4:Int)=2 by decide,show ¬(4:Int)=3 by decide,if_false,if_true]
  generalize readN s.items xa xb false oth=v at *
  generalize (v::st).reverse.map vI=W at *
  unfold Src.qv at hsm
  (refine FnS.of_codeV mix Tryz.call55 kv_55 (by simp) (fun hB=>?_); (try simp at hB); (try simp -implicitDefEqProofs [qv_55]))
  ((try simp at htk); (try simp at hsm); (try simp -implicitDefEqProofs [hMb,gz,hMl]); repeat' first | ((with_reducible first | apply gdK_em | apply cdK_em | apply pickK_em)<;>(intro hc; have hc':=hc; (try simp at hc'); simp -implicitDefEqProofs [hc,hc',hMb,gz,hMl])) | (with_reducible apply callK_pure<;>first | (simp only [eras,era,eras_map]; first | with_reducible exact htk | with_reducible exact hsm | simpa using htk | simpa using hsm) | (simp -implicitDefEqProofs [hMb,gz,hMl])))
  all_goals (repeat' with_reducible apply And.intro)
  all_goals ((try simp at hsm); (try simp -implicitDefEqProofs [hMb,gz,hMl]); repeat' first | ((with_reducible first | apply gdK_em | apply cdK_em | apply pickK_em)<;>(intro hc; have hc':=hc; (try simp at hc'); simp -implicitDefEqProofs [hc,hc',hMb,gz,hMl])) | (with_reducible apply callK_pure<;>first | (simp only [eras,era,eras_map]; first | with_reducible exact hsm | simpa using hsm) | (simp -implicitDefEqProofs [hMb,gz,hMl])))
  all_goals (repeat' with_reducible apply And.intro)
  all_goals refine callKf hp ?_
  all_goals ((try simp -implicitDefEqProofs [hf,hFl]); repeat' first | ((with_reducible first | apply gdK_em | apply cdK_em | apply pickK_em)<;>(intro hc; have hc':=hc; (try simp at hc'); simp -implicitDefEqProofs [hc,hc',hf,hFl])))
theorem w_qstepB {B:List Bx} {b kb:Nat} {s:Src} {oth:Int} {lv pv:V} {st:List Int} {cs:List V} {v0:Int} (h:QS B b kb s oth lv pv (v0::st) cs) (hs:s.Ok) (x:Ins) (loc:List Int) (hx:x.op=7∨(x.op≠1∧x.op≠2∧x.op≠3∧x.op≠4∧x.op≠7∧(takR x.op).1=1∧tk x.op=1)) :
  FnS Tryz.prog 55 [.ptr b 0,x.v] ⟨B,[]⟩ (vB ((stepV s oth x (v0::st) loc).2&&amtB (stepV s oth x (v0::st) loc).1)) ⟨QF B b kb s oth lv pv (st.length+1)++[.dead,.buf 3 1 (((stepV s oth x (v0::st) loc).1::st).reverse.map vI)],[]⟩:=by
 obtain⟨op,xa,xb⟩:=x
 simp only [] at hx
 have htk:=w_rtak op
 have hxU : ∀n m,E.leB n m (.cells [vI op,vI xa,vI xb]) (.cells [vI op,vI xa,vI xb]):=fun n m=>⟨LeL_refl _,rfl⟩
 have hput:=fun v ok=>w_putM h hxU (st':=st) (r:=[v0]) rfl v ok
 have hpop:=w_popM h hxU (n:=st.length) (v:=v0) (by simp) (h.get (by simp) (by simp))
 have hfin:=fun (v:Int)=>h.fin (.cells [vI op,vI xa,vI xb]) (st.length+1) ((v::st).reverse)
 have hMb:=fun l=>h.Mb (st.length+1) l
 have hMl:=QM_len (B:=B) (b:=b) (kb:=kb) (s:=s) (oth:=oth) (lv:=lv) (pv:=pv) (st.length+1)
 have gz:=fun l=>QM_z (B:=B) (b:=b) (kb:=kb) (s:=s) (oth:=oth) (lv:=lv) (pv:=pv) (st.length+1) l
 have hMb1:=fun l=>h.Mb st.length l
 have hMl1:=QM_len (B:=B) (b:=b) (kb:=kb) (s:=s) (oth:=oth) (lv:=lv) (pv:=pv) st.length
 have gz1:=fun l=>QM_z (B:=B) (b:=b) (kb:=kb) (s:=s) (oth:=oth) (lv:=lv) (pv:=pv) st.length l
 have hFl:(QF B b kb s oth lv pv (st.length+1)).length=B.length:=by have:=QS.flen (B:=B) (b:=b) (kb:=kb) (s:=s) (oth:=oth) (lv:=lv) (pv:=pv) (st.length+1) []; simpa using this
 have hbl:=lt_of_get h.hb
 rw [show (⟨B,[]⟩:St)=⟨QM B b kb s oth lv pv (st.length+1),[]⟩ from by rw [←List.length_cons (a:=v0),h.same]]
 generalize QM B b kb s oth lv pv (st.length+1)=M at *
 generalize QM B b kb s oth lv pv st.length=M1 at *
 generalize QF B b kb s oth lv pv (st.length+1)=F at *
 unfold qC at hMb hMb1
 rcases hx with rfl | ⟨n1,n2,n3,n4,n7,hk,hkk⟩
 ·have e:takR 7=(1,1):=by decide
  rw [e] at htk
  have hsc:=w_rScale v0 s.num s.den hs.num hs.den0 hs.den
  have hv:stepV s oth ⟨7,xa,xb⟩ (v0::st) loc=((scaleE v0 s.num s.den).1,(scaleE v0 s.num s.den).2==0):=by
   rw [←scaleE_S]; rfl
  rw [hv]
  generalize scaleE v0 s.num s.den=r at *
  obtain⟨r1,r2⟩:=r
  simp only [] at hsc ⊢
  have hp:=hput r1 (r2==0)
  have hf:=hfin r1
  generalize (r1::st).reverse.map vI=W at *
  unfold sV at hsc
  (refine FnS.of_codeV mix Tryz.call55 kv_55 (by simp) (fun hB=>?_); (try simp at hB); (try simp -implicitDefEqProofs [qv_55]))
  ((try simp at htk); (try simp -implicitDefEqProofs [hMb,gz,hMl]); repeat' first | ((with_reducible first | apply gdK_em | apply cdK_em | apply pickK_em)<;>(intro hc; have hc':=hc; (try simp at hc'); simp -implicitDefEqProofs [hc,hc',hMb,gz,hMl])) | (with_reducible apply callK_pure<;>first | (simp only [eras,era,eras_map]; first | with_reducible exact htk | simpa using htk) | (simp -implicitDefEqProofs [hMb,gz,hMl])))
  refine callKf hpop ?_
  ((try simp at hsc); (try simp -implicitDefEqProofs [hMb1,gz1,hMl1]); repeat' first | ((with_reducible first | apply gdK_em | apply cdK_em | apply pickK_em)<;>(intro hc; have hc':=hc; (try simp at hc'); simp -implicitDefEqProofs [hc,hc',hMb1,gz1,hMl1])) | (with_reducible apply callK_pure<;>first | (simp only [eras,era,eras_map]; first | with_reducible exact hsc | simpa using hsc) | (simp -implicitDefEqProofs [hMb1,gz1,hMl1])))
  all_goals (repeat' with_reducible apply And.intro)
  all_goals refine callKf hp ?_
  all_goals ((try simp -implicitDefEqProofs [hf,hFl]); repeat' first | ((with_reducible first | apply gdK_em | apply cdK_em | apply pickK_em)<;>(intro hc; have hc':=hc; (try simp at hc'); simp -implicitDefEqProofs [hc,hc',hf,hFl])))
 ·generalize he:takR op=tk2 at *
  obtain⟨t1,t2⟩:=tk2
  simp only [] at hk
  subst hk
  have hop:=w_rop op xa v0 0
  have hv:stepV s oth ⟨op,xa,xb⟩ (v0::st) loc=opR op xa v0 0:=by
   unfold stepV
   simp only []
   rw [if_neg n1,if_neg n2,if_neg n3,if_neg n4,if_neg n7,if_pos hkk]; rfl
  rw [hv]
  generalize opR op xa v0 0=r at *
  obtain⟨r1,r2⟩:=r
  unfold vO at hop
  simp only [] at hop ⊢
  have hp:=hput r1 r2
  have hf:=hfin r1
  generalize (r1::st).reverse.map vI=W at *
  (refine FnS.of_codeV mix Tryz.call55 kv_55 (by simp) (fun hB=>?_); (try simp at hB); (try simp -implicitDefEqProofs [qv_55]))
  ((try simp at htk); (try simp -implicitDefEqProofs [hMb,gz,hMl]); repeat' first | ((with_reducible first | apply gdK_em | apply cdK_em | apply pickK_em)<;>(intro hc; have hc':=hc; (try simp at hc'); simp -implicitDefEqProofs [hc,hc',hMb,gz,hMl])) | (with_reducible apply callK_pure<;>first | (simp only [eras,era,eras_map]; first | with_reducible exact htk | simpa using htk) | (simp -implicitDefEqProofs [hMb,gz,hMl])))
  refine callKf hpop ?_
  have b1:(op==1)=false:=by simpa using n1
  have b2:(op==2)=false:=by simpa using n2
  have b3:(op==3)=false:=by simpa using n3
  have b4:(op==4)=false:=by simpa using n4
  have b7:(op==7)=false:=by simpa using n7
  ((try simp at hop); (try simp -implicitDefEqProofs [hMb1,gz1,hMl1,b1,b2,b3,b4,b7,n1,n2,n3,n4,n7]); repeat' first | ((with_reducible first | apply gdK_em | apply cdK_em | apply pickK_em)<;>(intro hc; have hc':=hc; (try simp at hc'); simp -implicitDefEqProofs [hc,hc',hMb1,gz1,hMl1,b1,b2,b3,b4,b7,n1,n2,n3,n4,n7])) | (with_reducible apply callK_pure<;>first | (simp only [eras,era,eras_map]; first | with_reducible exact hop | simpa using hop) | (simp -implicitDefEqProofs [hMb1,gz1,hMl1,b1,b2,b3,b4,b7,n1,n2,n3,n4,n7])))
  all_goals (repeat' with_reducible apply And.intro)
  all_goals refine callKf hp ?_
  all_goals ((try simp -implicitDefEqProofs [hf,hFl]); repeat' first | ((with_reducible first | apply gdK_em | apply cdK_em | apply pickK_em)<;>(intro hc; have hc':=hc; (try simp at hc'); simp -implicitDefEqProofs [hc,hc',hf,hFl])))
theorem w_qstepC {B:List Bx} {b kb:Nat} {s:Src} {oth:Int} {lv pv:V} {st:List Int} {cs:List V} {v0 v1:Int} (h:QS B b kb s oth lv pv (v0::v1::st) cs) (hs:s.Ok) (x:Ins) (loc:List Int) (hx:x.op≠1∧x.op≠2∧x.op≠3∧x.op≠4∧x.op≠7∧(takR x.op).1=2∧tk x.op=2) :
  FnS Tryz.prog 55 [.ptr b 0,x.v] ⟨B,[]⟩ (vB ((stepV s oth x (v0::v1::st) loc).2&&amtB (stepV s oth x (v0::v1::st) loc).1)) ⟨QF B b kb s oth lv pv (st.length+1)++[.dead,.buf 3 1 (((stepV s oth x (v0::v1::st) loc).1::st).reverse.map vI)],[]⟩:=by
 obtain⟨op,xa,xb⟩:=x
 simp only [] at hx
 have htk:=w_rtak op
 have hxU : ∀n m,E.leB n m (.cells [vI op,vI xa,vI xb]) (.cells [vI op,vI xa,vI xb]):=fun n m=>⟨LeL_refl _,rfl⟩
 have hput:=fun v ok=>w_putM h hxU (st':=st) (r:=[v0,v1]) rfl v ok
 have hpop:=w_popM h hxU (n:=st.length+1) (v:=v0) (by simp) (h.get (by simp) (by simp))
 have hpop2:=w_popM h hxU (n:=st.length) (v:=v1) (by simp; omega) (h.get (by simp; omega) (by simp [List.getElem?_append_left]))
 have hfin:=fun (v:Int)=>h.fin (.cells [vI op,vI xa,vI xb]) (st.length+1) ((v::st).reverse)
 have hMb:=fun l=>h.Mb (st.length+1+1) l
 have hMb2:=fun l=>h.Mb (st.length+1) l
 have hMl:=QM_len (B:=B) (b:=b) (kb:=kb) (s:=s) (oth:=oth) (lv:=lv) (pv:=pv) (st.length+1+1)
 have gz:=fun l=>QM_z (B:=B) (b:=b) (kb:=kb) (s:=s) (oth:=oth) (lv:=lv) (pv:=pv) (st.length+1+1) l
 have hMl2:=QM_len (B:=B) (b:=b) (kb:=kb) (s:=s) (oth:=oth) (lv:=lv) (pv:=pv) (st.length+1)
 have gz2:=fun l=>QM_z (B:=B) (b:=b) (kb:=kb) (s:=s) (oth:=oth) (lv:=lv) (pv:=pv) (st.length+1) l
 have hMb1:=fun l=>h.Mb st.length l
 have hMl1:=QM_len (B:=B) (b:=b) (kb:=kb) (s:=s) (oth:=oth) (lv:=lv) (pv:=pv) st.length
 have gz1:=fun l=>QM_z (B:=B) (b:=b) (kb:=kb) (s:=s) (oth:=oth) (lv:=lv) (pv:=pv) st.length l
 have hFl:(QF B b kb s oth lv pv (st.length+1)).length=B.length:=by have:=QS.flen (B:=B) (b:=b) (kb:=kb) (s:=s) (oth:=oth) (lv:=lv) (pv:=pv) (st.length+1) []; simpa using this
 have hbl:=lt_of_get h.hb
 rw [show (⟨B,[]⟩:St)=⟨QM B b kb s oth lv pv (st.length+1+1),[]⟩ from by rw [←List.length_cons (a:=v1),←List.length_cons (a:=v0),h.same]]
 generalize QM B b kb s oth lv pv (st.length+1+1)=M at *
 generalize QM B b kb s oth lv pv (st.length+1)=M2 at *
 generalize QM B b kb s oth lv pv st.length=M1 at *
 generalize QF B b kb s oth lv pv (st.length+1)=F at *
 unfold qC at hMb hMb1 hMb2
 obtain⟨n1,n2,n3,n4,n7,hk,hkk⟩:=hx
 generalize he:takR op=tk2 at *
 obtain⟨t1,t2⟩:=tk2
 simp only [] at hk
 subst hk
 have hop:=w_rop op xa v1 v0
 have hv:stepV s oth ⟨op,xa,xb⟩ (v0::v1::st) loc=opR op xa v1 v0:=by
  unfold stepV
  simp only []
  rw [if_neg n1,if_neg n2,if_neg n3,if_neg n4,if_neg n7,if_neg (by omega)]; rfl
 rw [hv]
 generalize opR op xa v1 v0=r at *
 obtain⟨r1,r2⟩:=r
 unfold vO at hop
 simp only [] at hop ⊢
 have hp:=hput r1 r2
 have hf:=hfin r1
 generalize (r1::st).reverse.map vI=W at *
 (refine FnS.of_codeV mix Tryz.call55 kv_55 (by simp) (fun hB=>?_); (try simp at hB); (try simp -implicitDefEqProofs [qv_55]))
 ((try simp at htk); (try simp -implicitDefEqProofs [hMb,gz,hMl]); repeat' first | ((with_reducible first | apply gdK_em | apply cdK_em | apply pickK_em)<;>(intro hc; have hc':=hc; (try simp at hc'); simp -implicitDefEqProofs [hc,hc',hMb,gz,hMl])) | (with_reducible apply callK_pure<;>first | (simp only [eras,era,eras_map]; first | with_reducible exact htk | simpa using htk) | (simp -implicitDefEqProofs [hMb,gz,hMl])))
 refine callKf hpop ?_
 ((try simp -implicitDefEqProofs [hMb2,gz2,hMl2]); repeat' first | ((with_reducible first | apply gdK_em | apply cdK_em | apply pickK_em)<;>(intro hc; have hc':=hc; (try simp at hc'); simp -implicitDefEqProofs [hc,hc',hMb2,gz2,hMl2])))
 refine callKf hpop2 ?_
 have b1:(op==1)=false:=by simpa using n1
 have b2:(op==2)=false:=by simpa using n2
 have b3:(op==3)=false:=by simpa using n3
 have b4:(op==4)=false:=by simpa using n4
 have b7:(op==7)=false:=by simpa using n7
 ((try simp at hop); (try simp -implicitDefEqProofs [hMb1,gz1,hMl1,b1,b2,b3,b4,b7,n1,n2,n3,n4,n7]); repeat' first | ((with_reducible first | apply gdK_em | apply cdK_em | apply pickK_em)<;>(intro hc; have hc':=hc; (try simp at hc'); simp -implicitDefEqProofs [hc,hc',hMb1,gz1,hMl1,b1,b2,b3,b4,b7,n1,n2,n3,n4,n7])) | (with_reducible apply callK_pure<;>first | (simp only [eras,era,eras_map]; first | with_reducible exact hop | simpa using hop) | (simp -implicitDefEqProofs [hMb1,gz1,hMl1,b1,b2,b3,b4,b7,n1,n2,n3,n4,n7])))
 all_goals (repeat' with_reducible apply And.intro)
 all_goals refine callKf hp ?_
 all_goals ((try simp -implicitDefEqProofs [hf,hFl]); repeat' first | ((with_reducible first | apply gdK_em | apply cdK_em | apply pickK_em)<;>(intro hc; have hc':=hc; (try simp at hc'); simp -implicitDefEqProofs [hc,hc',hf,hFl])))
end Go.Proofs.YtmlpmdccfmmpoaaGreat
