/- Chapter 35: the law ExecuteOne, over what the reference's instance returns. -/
import Derived.Test.YtmlpmdccfmmpoaaGreatExW
import Derived.Test.YtmlpmdccfmmpoaaGreatExX
import Derived.Test.YtmlpmdccfmmpoaaGreatLit
section
set_option linter.unusedSimpArgs false
set_option linter.unusedVariables false
set_option maxHeartbeats 4000000
set_option maxRecDepth 8000
namespace Go.Proofs.YtmlpmdccfmmpoaaGreat
open E

theorem w_qOne (c:Code) (l:List Src) (rule ent oth:Int) (hl:l.length≤13) (hci:c.ins.length≤1000) (hit : ∀s∈l,s.items.length≤1000)
  (hI : ∀s∈l,(meaR c).2=true→srcOk l=true→(c.pair=true→0≤oth)→oth≠-2→Pure Tryz.prog 32 [c.v,s.qv,vI rule,vI oth] (peV (instE (instR c s oth rule)))) :
  Pure Tryz.prog 20 [c.v,Src.ql l,vI rule,vI ent,vI oth] (peV (oneE c l rule ent oth)):=by
 have hv:=w_rvalid35 l (by omega) (fun s hs=>by have:=hit s hs; omega)
 have hcv:=w_rvalid c (by omega)
 have hf1:=w_qfind l ent (by omega)
 have hf2:=w_qfind l oth (by omega)
 rw [oneE_fnd]
 have hzero : ∀e:Int,peV (zeroP,e)=.tup [.agg [vI 0,vI 0,vI 0,vI 0,.t (.sl [])],vI e]:=fun e=>rfl
 cases h1:(meaR c).2
 ·rw [h1] at hcv
  rw [if_neg (fun h=>by simp at h),hzero]
  obtain⟨cn,cp,ins⟩:=c
  unfold Src.ql at *
  (refine Pure.of_code mix Tryz.call20 k_20 (by simp) (fun hB=>?_); (try simp at hB); (try simp -implicitDefEqProofs [qc_20]))
  ((try simp at hcv); (try simp -implicitDefEqProofs); repeat' first | ((with_reducible first | apply gdK_em | apply cdK_em | apply pickK_em)<;>(intro hc; have hc':=hc; (try simp at hc'); simp -implicitDefEqProofs [hc,hc'])) | (with_reducible apply callK_pure<;>first | (simp only [eras,era,eras_map]; first | with_reducible exact hcv | simpa using hcv) | (simp -implicitDefEqProofs)))
 rw [h1] at hcv
 cases h2:srcOk l
 ·rw [h2] at hv
  rw [if_neg (fun h=>by simp at h),hzero]
  obtain⟨cn,cp,ins⟩:=c
  unfold Src.ql at *
  (refine Pure.of_code mix Tryz.call20 k_20 (by simp) (fun hB=>?_); (try simp at hB); (try simp -implicitDefEqProofs [qc_20]))
  ((try simp at hcv); (try simp at hv); (try simp -implicitDefEqProofs); repeat' first | ((with_reducible first | apply gdK_em | apply cdK_em | apply pickK_em)<;>(intro hc; have hc':=hc; (try simp at hc'); simp -implicitDefEqProofs [hc,hc'])) | (with_reducible apply callK_pure<;>first | (simp only [eras,era,eras_map]; first | with_reducible exact hcv | with_reducible exact hv | simpa using hcv | simpa using hv) | (simp -implicitDefEqProofs)))
 rw [h2] at hv
 by_cases h3:0≤rule
 case neg=>
  have h3':rule<0:=by omega
  rw [if_neg (fun h=>h3 h.2.2.1),hzero]
  obtain⟨cn,cp,ins⟩:=c
  unfold Src.ql at *
  (refine Pure.of_code mix Tryz.call20 k_20 (by simp) (fun hB=>?_); (try simp at hB); (try simp -implicitDefEqProofs [qc_20]))
  ((try simp at hcv); (try simp at hv); (try simp -implicitDefEqProofs [h3,h3']); repeat' first | ((with_reducible first | apply gdK_em | apply cdK_em | apply pickK_em)<;>(intro hc; have hc':=hc; (try simp at hc'); simp -implicitDefEqProofs [hc,hc',h3,h3'])) | (with_reducible apply callK_pure<;>first | (simp only [eras,era,eras_map]; first | with_reducible exact hcv | with_reducible exact hv | simpa using hcv | simpa using hv) | (simp -implicitDefEqProofs [h3,h3'])))
 have h3' : ¬rule<0:=by omega
 by_cases h4:c.pair=(oth != -1)
 case neg=>
  rw [if_neg (fun h=>h4 h.2.2.2),hzero]
  obtain⟨cn,cp,ins⟩:=c
  simp only [] at h4
  unfold Src.ql at *
  have h6:(oth == -1)=cp:=by cases cp<;>simp_all
  (refine Pure.of_code mix Tryz.call20 k_20 (by simp) (fun hB=>?_); (try simp at hB); (try simp -implicitDefEqProofs [qc_20]))
  ((try simp at hcv); (try simp at hv); (try simp -implicitDefEqProofs [h3,h3',h6]); repeat' first | ((with_reducible first | apply gdK_em | apply cdK_em | apply pickK_em)<;>(intro hc; have hc':=hc; (try simp at hc'); simp -implicitDefEqProofs [hc,hc',h3,h3',h6])) | (with_reducible apply callK_pure<;>first | (simp only [eras,era,eras_map]; first | with_reducible exact hcv | with_reducible exact hv | simpa using hcv | simpa using hv) | (simp -implicitDefEqProofs [h3,h3',h6])))
 rw [if_pos ⟨rfl,rfl,h3,h4⟩]
 obtain⟨cn,cp,ins⟩:=c
 simp only [] at h4 hci
 have h6:(oth == -1) = !cp:=by rw [h4]; cases h:(oth == -1)<;>simp [bne,h]
 have hfr : ∀k,findS l k=findR l k:=fun _=>rfl
 unfold fndR
 rw [hfr,hfr]
 cases hs:findR l ent with
 | none=>
  rw [hs] at hf1
  rw [hzero]
  unfold findV zeroQ at hf1
  cases ho:findR l oth with
  | none=>
   rw [ho] at hf2
   unfold findV zeroQ at hf2
   unfold Src.ql at *
   (refine Pure.of_code mix Tryz.call20 k_20 (by simp) (fun hB=>?_); (try simp at hB); (try simp -implicitDefEqProofs [qc_20]))
   ((try simp at hcv); (try simp at hv); (try simp at hf1); (try simp at hf2); (try simp -implicitDefEqProofs [h3,h3',h6]); repeat' first | ((with_reducible first | apply gdK_em | apply cdK_em | apply pickK_em)<;>(intro hc; have hc':=hc; (try simp at hc'); simp -implicitDefEqProofs [hc,hc',h3,h3',h6])) | (with_reducible apply callK_pure<;>first | (simp only [eras,era,eras_map]; first | with_reducible exact hcv | with_reducible exact hv | with_reducible exact hf1 | with_reducible exact hf2 | simpa using hcv | simpa using hv | simpa using hf1 | simpa using hf2) | (simp -implicitDefEqProofs [h3,h3',h6])))
  | some o=>
   rw [ho] at hf2
   unfold findV Src.qv at hf2
   unfold Src.ql at *
   (refine Pure.of_code mix Tryz.call20 k_20 (by simp) (fun hB=>?_); (try simp at hB); (try simp -implicitDefEqProofs [qc_20]))
   ((try simp at hcv); (try simp at hv); (try simp at hf1); (try simp at hf2); (try simp -implicitDefEqProofs [h3,h3',h6]); repeat' first | ((with_reducible first | apply gdK_em | apply cdK_em | apply pickK_em)<;>(intro hc; have hc':=hc; (try simp at hc'); simp -implicitDefEqProofs [hc,hc',h3,h3',h6])) | (with_reducible apply callK_pure<;>first | (simp only [eras,era,eras_map]; first | with_reducible exact hcv | with_reducible exact hv | with_reducible exact hf1 | with_reducible exact hf2 | simpa using hcv | simpa using hv | simpa using hf1 | simpa using hf2) | (simp -implicitDefEqProofs [h3,h3',h6])))
 | some s=>
  rw [hs] at hf1
  simp only [] at hf1 ⊢
  have hsm:s∈l:=List.mem_of_find?_eq_some hs
  have hI:=hI s hsm h1 h2
  simp only [] at hI
  unfold findV Src.qv at hf1
  cases cp
  ·have e:oth = -1:=by simpa using h6
   rw [if_neg (fun h=>h.1 e)]
   have hI:=hI (fun h=>by cases h) (by omega)
   dsimp only
   generalize instE (instR ⟨cn,false,ins⟩ s oth rule)=R at *
   obtain⟨⟨p1,p2,p3,p4,p5⟩,p6⟩:=R
   unfold peV pV Src.qv at *
   cases ho:findR l oth with
   | none=>
    rw [ho] at hf2
    unfold findV zeroQ at hf2
    unfold Src.ql at *
    (refine Pure.of_code mix Tryz.call20 k_20 (by simp) (fun hB=>?_); (try simp at hB); (try simp -implicitDefEqProofs [qc_20]))
    ((try simp at hcv); (try simp at hv); (try simp at hf1); (try simp at hf2); (try simp at hI); (try simp -implicitDefEqProofs [h3,h3',h6]); repeat' first | ((with_reducible first | apply gdK_em | apply cdK_em | apply pickK_em)<;>(intro hc; have hc':=hc; (try simp at hc'); simp -implicitDefEqProofs [hc,hc',h3,h3',h6])) | (with_reducible apply callK_pure<;>first | (simp only [eras,era,eras_map]; first | with_reducible exact hcv | with_reducible exact hv | with_reducible exact hf1 | with_reducible exact hf2 | with_reducible exact hI | simpa using hcv | simpa using hv | simpa using hf1 | simpa using hf2 | simpa using hI) | (simp -implicitDefEqProofs [h3,h3',h6])))
   | some o=>
    rw [ho] at hf2
    unfold findV Src.qv at hf2
    unfold Src.ql at *
    (refine Pure.of_code mix Tryz.call20 k_20 (by simp) (fun hB=>?_); (try simp at hB); (try simp -implicitDefEqProofs [qc_20]))
    ((try simp at hcv); (try simp at hv); (try simp at hf1); (try simp at hf2); (try simp at hI); (try simp -implicitDefEqProofs [h3,h3',h6]); repeat' first | ((with_reducible first | apply gdK_em | apply cdK_em | apply pickK_em)<;>(intro hc; have hc':=hc; (try simp at hc'); simp -implicitDefEqProofs [hc,hc',h3,h3',h6])) | (with_reducible apply callK_pure<;>first | (simp only [eras,era,eras_map]; first | with_reducible exact hcv | with_reducible exact hv | with_reducible exact hf1 | with_reducible exact hf2 | with_reducible exact hI | simpa using hcv | simpa using hv | simpa using hf1 | simpa using hf2 | simpa using hI) | (simp -implicitDefEqProofs [h3,h3',h6])))
  ·have e : ¬oth = -1:=by simpa using h6
   cases ho:findR l oth with
   | none=>
    rw [if_pos ⟨e,.inl rfl⟩,hzero]
    rw [ho] at hf2
    unfold findV zeroQ at hf2
    unfold Src.ql at *
    (refine Pure.of_code mix Tryz.call20 k_20 (by simp) (fun hB=>?_); (try simp at hB); (try simp -implicitDefEqProofs [qc_20]))
    ((try simp at hcv); (try simp at hv); (try simp at hf1); (try simp at hf2); (try simp -implicitDefEqProofs [h3,h3',h6]); repeat' first | ((with_reducible first | apply gdK_em | apply cdK_em | apply pickK_em)<;>(intro hc; have hc':=hc; (try simp at hc'); simp -implicitDefEqProofs [hc,hc',h3,h3',h6])) | (with_reducible apply callK_pure<;>first | (simp only [eras,era,eras_map]; first | with_reducible exact hcv | with_reducible exact hv | with_reducible exact hf1 | with_reducible exact hf2 | simpa using hcv | simpa using hv | simpa using hf1 | simpa using hf2) | (simp -implicitDefEqProofs [h3,h3',h6])))
   | some o=>
    rw [ho] at hf2
    unfold findV Src.qv at hf2
    have hoe:o.ent=oth:=by
     have:=List.find?_some ho
     simp only [Bool.and_eq_true,beq_iff_eq] at this
     exact this.1
    have ho0:=(src_in h2 (List.mem_of_find?_eq_some ho)).1
    by_cases c3:oth=ent
    ·rw [if_pos ⟨e,.inr c3⟩,hzero]
     subst c3
     unfold Src.ql at *
     (refine Pure.of_code mix Tryz.call20 k_20 (by simp) (fun hB=>?_); (try simp at hB); (try simp -implicitDefEqProofs [qc_20]))
     ((try simp at hcv); (try simp at hv); (try simp at hf1); (try simp at hf2); (try simp -implicitDefEqProofs [h3,h3',h6]); repeat' first | ((with_reducible first | apply gdK_em | apply cdK_em | apply pickK_em)<;>(intro hc; have hc':=hc; (try simp at hc'); simp -implicitDefEqProofs [hc,hc',h3,h3',h6])) | (with_reducible apply callK_pure<;>first | (simp only [eras,era,eras_map]; first | with_reducible exact hcv | with_reducible exact hv | with_reducible exact hf1 | with_reducible exact hf2 | simpa using hcv | simpa using hv | simpa using hf1 | simpa using hf2) | (simp -implicitDefEqProofs [h3,h3',h6])))
    ·rw [if_neg (fun h=>h.2.elim (fun h=>by cases h) c3)]
     have c3':(oth==ent)=false:=by simpa using c3
     have hI:=hI (fun _=>by omega) (by omega)
     dsimp only
     generalize instE (instR ⟨cn,true,ins⟩ s oth rule)=R at *
     obtain⟨⟨p1,p2,p3,p4,p5⟩,p6⟩:=R
     unfold peV pV Src.qv at *
     unfold Src.ql at *
     (refine Pure.of_code mix Tryz.call20 k_20 (by simp) (fun hB=>?_); (try simp at hB); (try simp -implicitDefEqProofs [qc_20]))
     ((try simp at hcv); (try simp at hv); (try simp at hf1); (try simp at hf2); (try simp at hI); (try simp -implicitDefEqProofs [h3,h3',h6,c3,c3']); repeat' first | ((with_reducible first | apply gdK_em | apply cdK_em | apply pickK_em)<;>(intro hc; have hc':=hc; (try simp at hc'); simp -implicitDefEqProofs [hc,hc',h3,h3',h6,c3,c3'])) | (with_reducible apply callK_pure<;>first | (simp only [eras,era,eras_map]; first | with_reducible exact hcv | with_reducible exact hv | with_reducible exact hf1 | with_reducible exact hf2 | with_reducible exact hI | simpa using hcv | simpa using hv | simpa using hf1 | simpa using hf2 | simpa using hI) | (simp -implicitDefEqProofs [h3,h3',h6,c3,c3'])))
end Go.Proofs.YtmlpmdccfmmpoaaGreat
end
section
set_option linter.unusedSimpArgs false
set_option linter.unusedVariables false
set_option maxHeartbeats 4000000
set_option maxRecDepth 8000
namespace Go.Proofs.YtmlpmdccfmmpoaaGreat
open E

theorem oneE_parts (c:Code) (l:List Src) (rule ent oth:Int) (hc:c.ins.length≤1000):(oneE c l rule ent oth).1.parts.length≤1000000:=by
 rw [oneE_fnd]
 split
 ·split
  ·exact Nat.zero_le _
  ·rename_i s _
   unfold instE instR
   cases hx:execR s oth c.ins [] [] [] with
   | none=>exact Nat.zero_le _
   | some ps=>
    have:=execR_len hx
    simp only [Option.map_some,postR]
    split
    ·exact Nat.zero_le _
    ·simp at this; simp only []; omega
 ·exact Nat.zero_le _
theorem l_one (c:Code) (l:List Sou) (hw : ∀x∈l,x.wf) (rule ent oth:Int)
  (hI:c.ins.length≤1000→∀s∈l.map Sou.src,s.Ok→(meaR c).2=true→(c.pair=true→0≤oth)→oth≠-2→Pure Tryz.prog 32 [c.v,s.qv,vI rule,vI oth] (peV (instE (instR c s oth rule)))) :
  Pure Tryz.prog 6 [c.v,Sou.l l,.agg [vI rule,vI ent,vI oth]] (vB true):=by
 have ha:=w_awake35
 have hf:=w_few35 l [c]
 cases h:fewE l [c]
 ·rw [h] at hf
  obtain⟨cn,cp,ins⟩:=c
  simp only [Code.l,Code.c,List.map_cons,List.map_nil] at hf
  (refine Pure.of_code mix Tryz.call6 k_6 (by simp) (fun hB=>?_); (try simp at hB); (try simp -implicitDefEqProofs [qc_6]))
  ((try simp at ha); (try simp at hf); (try simp -implicitDefEqProofs); repeat' first | ((with_reducible first | apply gdK_em | apply cdK_em | apply pickK_em)<;>(intro hc; have hc':=hc; (try simp at hc'); simp -implicitDefEqProofs [hc,hc'])) | (with_reducible apply callK_pure<;>first | (simp only [eras,era,eras_map]; first | with_reducible exact ha | with_reducible exact hf | simpa using ha | simpa using hf) | (simp -implicitDefEqProofs)))
 rw [h] at hf
 obtain⟨f1,f2,f3,f4⟩:=few35_of h
 have hc:=f3 c (by simp)
 have hs:=w_sources l (by omega) hw
 have hrm:=src_room h hw
 have hown:=w_own c (by omega)
 have h1:=w_xOne c (l.map Sou.src) rule ent oth (by simpa using f1) (by omega) hrm
 have h2:=w_qOne c (l.map Sou.src) rule ent oth (by simpa using f1) (by omega) (fun s hs=>(hrm s hs).2.2.2) (fun s hsm g1 g2 g3 g4=>by
  obtain⟨q1,q2,q3,q4⟩:=hrm s hsm
  exact hI (by omega) s hsm ⟨q1,q2,q3,q4,(src_in g2 hsm).2.2⟩ g1 g3 g4)
 have hsm:=w_rsamep [(oneE c (l.map Sou.src) rule ent oth).1] (fun p hp=>by simp at hp; subst hp; exact oneE_parts c _ rule ent oth (by omega))
 generalize oneE c (l.map Sou.src) rule ent oth=R at *
 obtain⟨⟨p1,p2,p3,p4,p5⟩,p6⟩:=R
 unfold Src.l Src.ql at *
 generalize (l.map Sou.src).map Src.c=A at *
 generalize (l.map Sou.src).map Src.q=A2 at *
 obtain⟨cn,cp,ins⟩:=c
 simp only [Code.l,Code.c,List.map_cons,List.map_nil] at hf hsm
 unfold peV pV at h1 h2
 (refine Pure.of_code mix Tryz.call6 k_6 (by simp) (fun hB=>?_); (try simp at hB); (try simp -implicitDefEqProofs [qc_6]))
 ((try simp at ha); (try simp at hf); (try simp at hs); (try simp at hown); (try simp at h1); (try simp at h2); (try simp at hsm); (try simp -implicitDefEqProofs); repeat' first | ((with_reducible first | apply gdK_em | apply cdK_em | apply pickK_em)<;>(intro hc; have hc':=hc; (try simp at hc'); simp -implicitDefEqProofs [hc,hc'])) | (with_reducible apply callK_pure<;>first | (simp only [eras,era,eras_map]; first | with_reducible exact ha | with_reducible exact hf | with_reducible exact hs | with_reducible exact hown | with_reducible exact h1 | with_reducible exact h2 | with_reducible exact hsm | simpa using ha | simpa using hf | simpa using hs | simpa using hown | simpa using h1 | simpa using h2 | simpa using hsm) | (simp -implicitDefEqProofs)))
end Go.Proofs.YtmlpmdccfmmpoaaGreat
end
