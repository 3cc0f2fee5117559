/- Chapter 35: the program's One. -/
import Derived.Test.YtmlpmdccfmmpoaaGreatExW
set_option linter.unusedSimpArgs false
set_option linter.unusedVariables false
set_option maxHeartbeats 4000000
set_option maxRecDepth 8000
namespace Go.Proofs.YtmlpmdccfmmpoaaGreat
open E

theorem oneE_fnd (c:Code) (l:List Src) (rule ent oth:Int):oneE c l rule ent oth=if (meaR c).2=true∧srcOk l=true∧0≤rule∧c.pair=(oth != -1) then (match fndR l ent oth with | none=>(zeroP,8) | some s=>instE (instR c s oth rule)) else (zeroP,1):=by
 unfold oneE fndR
 split
 ·cases findS l ent with
  | none=>rfl
  | some s=>
   simp only []
   split
   ·rfl
   ·show (match instR c s oth rule with | some p=>(p,0) | none=>(zeroP,2))=instE (instR c s oth rule)
    unfold instE; cases instR c s oth rule<;>rfl
 ·rfl
theorem fnd_mem {l:List Src} {ent oth:Int} {s:Src} (h:fndR l ent oth=some s):s∈l∧(oth≠-1→∃o∈l,o.ent=oth):=by
 unfold fndR at h
 cases hf:findS l ent with
 | none=>rw [hf] at h; cases h
 | some z=>
  rw [hf] at h
  simp only [] at h
  split at h
  ·cases h
  ·rename_i hn
   cases h
   refine⟨List.mem_of_find?_eq_some hf,fun ho=>?_⟩
   cases hg:findS l oth with
   | none=>exact absurd ⟨ho,.inl (by rw [hg]; rfl)⟩ hn
   | some o=>
    refine⟨o,List.mem_of_find?_eq_some hg,?_⟩
    have:=List.find?_some hg
    simp only [Bool.and_eq_true,beq_iff_eq] at this
    exact this.1
theorem w_xOne (c:Code) (l:List Src) (rule ent oth:Int) (hl:l.length≤13) (hci:c.ins.length≤1000) (hs : ∀s∈l,s.num.natAbs≤100000∧0<s.den∧s.den≤100000∧s.items.length≤1000) :
  Pure Tryz.prog 18 [c.v,Src.l l,vI rule,vI ent,vI oth] (peV (oneE c l rule ent oth)):=by
 have hv:=w_xvalid l (by omega)
 have hcv:=w_cvalid c (by omega)
 rw [oneE_fnd]
 have hzero : ∀e:Int,peV (zeroP,e)=.tup [.agg [vI 0,vI 0,vI 0,vI 0,.t (.sl [])],vI e]:=fun e=>rfl
 cases h1:(meaR c).2
 ·rw [h1] at hcv
  rw [if_neg (fun h=>by simp at h),hzero]
  obtain⟨cn,cp,ins⟩:=c
  unfold Src.l at *
  (refine Pure.of_code mix Tryz.call18 k_18 (by simp) (fun hB=>?_); (try simp at hB); (try simp -implicitDefEqProofs [qc_18]))
  ((try simp at hcv); (try simp -implicitDefEqProofs); repeat' first | ((with_reducible first | apply gdK_em | apply cdK_em | apply pickK_em)<;>(intro hc; have hc':=hc; (try simp at hc'); simp -implicitDefEqProofs [hc,hc'])) | (with_reducible apply callK_pure<;>first | (simp only [eras,era,eras_map]; first | with_reducible exact hcv | simpa using hcv) | (simp -implicitDefEqProofs)))
 rw [h1] at hcv
 cases h2:srcOk l
 ·rw [h2] at hv
  rw [if_neg (fun h=>by simp at h),hzero]
  obtain⟨cn,cp,ins⟩:=c
  unfold Src.l at *
  (refine Pure.of_code mix Tryz.call18 k_18 (by simp) (fun hB=>?_); (try simp at hB); (try simp -implicitDefEqProofs [qc_18]))
  ((try simp at hcv); (try simp at hv); (try simp -implicitDefEqProofs); repeat' first | ((with_reducible first | apply gdK_em | apply cdK_em | apply pickK_em)<;>(intro hc; have hc':=hc; (try simp at hc'); simp -implicitDefEqProofs [hc,hc'])) | (with_reducible apply callK_pure<;>first | (simp only [eras,era,eras_map]; first | with_reducible exact hcv | with_reducible exact hv | simpa using hcv | simpa using hv) | (simp -implicitDefEqProofs)))
 rw [h2] at hv
 by_cases h3:0≤rule
 case neg=>
  have h3':rule<0:=by omega
  rw [if_neg (fun h=>h3 h.2.2.1),hzero]
  obtain⟨cn,cp,ins⟩:=c
  unfold Src.l at *
  (refine Pure.of_code mix Tryz.call18 k_18 (by simp) (fun hB=>?_); (try simp at hB); (try simp -implicitDefEqProofs [qc_18]))
  ((try simp at hcv); (try simp at hv); (try simp -implicitDefEqProofs [h3,h3']); repeat' first | ((with_reducible first | apply gdK_em | apply cdK_em | apply pickK_em)<;>(intro hc; have hc':=hc; (try simp at hc'); simp -implicitDefEqProofs [hc,hc',h3,h3'])) | (with_reducible apply callK_pure<;>first | (simp only [eras,era,eras_map]; first | with_reducible exact hcv | with_reducible exact hv | simpa using hcv | simpa using hv) | (simp -implicitDefEqProofs [h3,h3'])))
 have h3' : ¬rule<0:=by omega
 by_cases h4:c.pair=(oth != -1)
 case neg=>
  rw [if_neg (fun h=>h4 h.2.2.2),hzero]
  obtain⟨cn,cp,ins⟩:=c
  simp only [] at h4
  unfold Src.l at *
  have h5:(cp==(oth != -1))=false:=by simpa using h4
  have h6:(oth != -1) = !cp:=by cases cp<;>simp_all
  (refine Pure.of_code mix Tryz.call18 k_18 (by simp) (fun hB=>?_); (try simp at hB); (try simp -implicitDefEqProofs [qc_18]))
  ((try simp at hcv); (try simp at hv); (try simp -implicitDefEqProofs [h3,h3',h5,h6]); repeat' first | ((with_reducible first | apply gdK_em | apply cdK_em | apply pickK_em)<;>(intro hc; have hc':=hc; (try simp at hc'); simp -implicitDefEqProofs [hc,hc',h3,h3',h5,h6])) | (with_reducible apply callK_pure<;>first | (simp only [eras,era,eras_map]; first | with_reducible exact hcv | with_reducible exact hv | simpa using hcv | simpa using hv) | (simp -implicitDefEqProofs [h3,h3',h5,h6])))
 rw [if_pos ⟨rfl,rfl,h3,h4⟩]
 obtain⟨cn,cp,ins⟩:=c
 simp only [] at h4 hci
 have h5:(cp==(oth != -1))=true:=by rw [h4]; simp
 have h6:(oth != -1)=cp:=h4.symm
 have hBU:OkU [Bx.cells [vS cn,vB cp,Ins.l ins],.cells [vI 0,vI 0,vI 0,vI 0,.snil]]:=fun n m hn=>⟨⟨LeL_refl _,rfl⟩,⟨LeL_refl _,rfl⟩,trivial⟩
 have hfi:=w_find l ent oth _ hBU
 cases hf:fndR l ent oth with
 | none=>
  have hfi:=hfi.1 hf
  rw [hzero]
  unfold Src.l at *
  (refine Pure.of_code mix Tryz.call18 k_18 (by simp) (fun hB=>?_); (try simp at hB); (try simp -implicitDefEqProofs [qc_18]))
  ((try simp at hcv); (try simp at hv); (try simp -implicitDefEqProofs [h3,h3',h5,h6]); repeat' first | ((with_reducible first | apply gdK_em | apply cdK_em | apply pickK_em)<;>(intro hc; have hc':=hc; (try simp at hc'); simp -implicitDefEqProofs [hc,hc',h3,h3',h5,h6])) | (with_reducible apply callK_pure<;>first | (simp only [eras,era,eras_map]; first | with_reducible exact hcv | with_reducible exact hv | simpa using hcv | simpa using hv) | (simp -implicitDefEqProofs [h3,h3',h5,h6])))
  refine callKf hfi ?_
  ((try simp -implicitDefEqProofs); repeat' first | ((with_reducible first | apply gdK_em | apply cdK_em | apply pickK_em)<;>(intro hc; have hc':=hc; (try simp at hc'); simp -implicitDefEqProofs [hc,hc'])))
 | some s=>
  have hfi:=hfi.2 s hf
  obtain⟨m1,m2⟩:=fnd_mem hf
  obtain⟨q1,q2,q3,q4⟩:=hs s m1
  have hsok:s.Ok:=⟨q1,q2,q3,q4,(src_in h2 m1).2.2⟩
  have hpr:cp=true→0≤oth:=fun hp=>by
   have ho:oth≠-1:=by rw [hp] at h4; simpa using h4.symm
   obtain⟨o,o1,o2⟩:=m2 ho
   rw [←o2]; exact (src_in h2 o1).1
  have hCU:OkU ([Bx.cells [vS cn,vB cp,Ins.l ins],.cells [vI 0,vI 0,vI 0,vI 0,.snil]]++[.dead,.mp [],.cells (mC s oth .snil 3 0)]):=fun n m hn=>⟨⟨LeL_refl _,rfl⟩,⟨LeL_refl _,rfl⟩,trivial,leB_mp [],⟨LeL_refl _,by unfold mC; simp [okNs,okN]; simp at hn; omega⟩,trivial⟩
  have hrun:=w_run 4 3 ⟨cn,cp,ins⟩ rule _ hCU s oth hsok rfl rfl h1 hci hpr
  rw [instE_fin] at hrun
  simp only []
  generalize instE (instR ⟨cn,cp,ins⟩ s oth rule)=R at *
  obtain⟨⟨p1,p2,p3,p4,p5⟩,p6⟩:=R
  unfold peV pV at *
  unfold Src.l at *
  unfold mC at hfi hrun
  (refine Pure.of_code mix Tryz.call18 k_18 (by simp) (fun hB=>?_); (try simp at hB); (try simp -implicitDefEqProofs [qc_18]))
  ((try simp at hcv); (try simp at hv); (try simp -implicitDefEqProofs [h3,h3',h5,h6]); repeat' first | ((with_reducible first | apply gdK_em | apply cdK_em | apply pickK_em)<;>(intro hc; have hc':=hc; (try simp at hc'); simp -implicitDefEqProofs [hc,hc',h3,h3',h5,h6])) | (with_reducible apply callK_pure<;>first | (simp only [eras,era,eras_map]; first | with_reducible exact hcv | with_reducible exact hv | simpa using hcv | simpa using hv) | (simp -implicitDefEqProofs [h3,h3',h5,h6])))
  refine callKf hfi ?_
  ((try simp -implicitDefEqProofs); repeat' first | ((with_reducible first | apply gdK_em | apply cdK_em | apply pickK_em)<;>(intro hc; have hc':=hc; (try simp at hc'); simp -implicitDefEqProofs [hc,hc'])))
  refine callKf hrun ?_
  ((try simp -implicitDefEqProofs); repeat' first | ((with_reducible first | apply gdK_em | apply cdK_em | apply pickK_em)<;>(intro hc; have hc':=hc; (try simp at hc'); simp -implicitDefEqProofs [hc,hc'])))
end Go.Proofs.YtmlpmdccfmmpoaaGreat
