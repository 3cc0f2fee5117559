/- Chapter 35: the program's One. -/
import Derived.Test.YtmlpmdccfmmpoaaGreatExW
set_option linter.unusedSimpArgs false
set_option linter.unusedVariables false
set_option maxHeartbeats 4000000
set_option maxRecDepth 8000
namespace Go.Proofs.YtmlpmdccfmmpoaaGreat
open E

theorem To (c:Code) (l:List Src) (rule ent oth:Int):T0 c l rule ent oth=if (Cc c).2=true∧Ca l=true∧0≤rule∧c.pair=(oth != -1) then (match Mt l ent oth with|none=>(B7,8)|some s=>D9 (B9 c s oth rule)) else (B7,1):=by
 unfold T0 Mt
 split
 ·cases Dz l ent with
  | none=>rfl
  | some s=>
   simp only []
   split
   ·rfl
   ·show (match B9 c s oth rule with|some p=>(p,0)|none=>(B7,2))=D9 (B9 c s oth rule)
    unfold D9;cases B9 c s oth rule<;>rfl
 ·rfl
theorem V8 {l:List Src} {ent oth:Int} {s:Src} (h:Mt l ent oth=some s):s∈l∧(oth≠-1→∃o∈l,o.ent=oth):=by
 unfold Mt at h
 cases hf:Dz l ent with
 | none=>rw [hf] at h;cases h
 | some z=>
  rw [hf] at h
  simp only [] at h
  split at h
  ·cases h
  ·rename_i hn
   cases h
   refine⟨List.mem_of_find?_eq_some hf,fun ho=>?_⟩
   cases hg:Dz l oth with
   | none=>exact absurd ⟨ho,.inl (by rw [hg];rfl)⟩ hn
   | some o=>
    refine⟨o,List.mem_of_find?_eq_some hg,?_⟩
    have:=List.find?_some hg
    simp only [Bool.and_eq_true,beq_iff_eq] at this
    exact this.1
theorem Xb (c:Code) (l:List Src) (rule ent oth:Int) (hl:l.length≤13) (hci:c.ins.length≤8000) (hs : ∀s∈l,s.num.natAbs≤100000∧0<s.den∧s.den≤100000∧s.items.length≤1000) :
  A7 Tryz.prog 18 [c.v,Src.l l,vI rule,vI ent,vI oth] (peV (T0 c l rule ent oth)):=by
 have hv:=J5 l (by omega)
 have hcv:=Ml c (by omega)
 rw [To]
 have hzero : ∀e:Int,peV (B7,e)=.tup [.agg [vI 0,vI 0,vI 0,vI 0,.t (.sl [])],vI e]:=fun e=>rfl
 cases h1:(Cc c).2
 ·rw [h1] at hcv
  rw [if_neg (fun h=>by simp at h),hzero]
  obtain⟨cn,cp,ins⟩:=c
  unfold Src.l at *
  (refine A7.of_code mix Tryz.call18 k_18 (by simp) (fun hB=>?_);(try simp at hB);(try simp -implicitDefEqProofs))
  ((try simp at hcv);(try simp -implicitDefEqProofs);repeat' first|((with_reducible first|apply Af|apply Ag|apply A8)<;>(intro hc;have hc':=hc;(try simp at hc');simp -implicitDefEqProofs [hc,hc']))|(with_reducible apply A0<;>first|(simp only [eras,era,A1];first|with_reducible assumption)|(simp -implicitDefEqProofs)))
 rw [h1] at hcv
 cases h2:Ca l
 ·rw [h2] at hv
  rw [if_neg (fun h=>by simp at h),hzero]
  obtain⟨cn,cp,ins⟩:=c
  unfold Src.l at *
  (refine A7.of_code mix Tryz.call18 k_18 (by simp) (fun hB=>?_);(try simp at hB);(try simp -implicitDefEqProofs))
  ((try simp at hcv hv);(try simp -implicitDefEqProofs);repeat' first|((with_reducible first|apply Af|apply Ag|apply A8)<;>(intro hc;have hc':=hc;(try simp at hc');simp -implicitDefEqProofs [hc,hc']))|(with_reducible apply A0<;>first|(simp only [eras,era,A1];first|with_reducible assumption)|(simp -implicitDefEqProofs)))
 rw [h2] at hv
 by_cases h3:0≤rule
 case neg=>
  have h3':rule<0:=by omega
  rw [if_neg (fun h=>h3 h.2.2.1),hzero]
  obtain⟨cn,cp,ins⟩:=c
  unfold Src.l at *
  (refine A7.of_code mix Tryz.call18 k_18 (by simp) (fun hB=>?_);(try simp at hB);(try simp -implicitDefEqProofs))
  ((try simp at hcv hv);(try simp -implicitDefEqProofs [h3,h3']);repeat' first|((with_reducible first|apply Af|apply Ag|apply A8)<;>(intro hc;have hc':=hc;(try simp at hc');simp -implicitDefEqProofs [hc,hc',h3,h3']))|(with_reducible apply A0<;>first|(simp only [eras,era,A1];first|with_reducible assumption)|(simp -implicitDefEqProofs [h3,h3'])))
 have h3' : ¬rule<0:=by omega
 by_cases h4:c.pair=(oth != -1)
 case neg=>
  rw [if_neg (fun h=>h4 h.2.2.2),hzero]
  obtain⟨cn,cp,ins⟩:=c
  simp only [] at h4
  unfold Src.l at *
  have h5:(cp==(oth != -1))=false:=by simpa using h4
  have h6:(oth != -1) = !cp:=by cases cp<;>simp_all
  (refine A7.of_code mix Tryz.call18 k_18 (by simp) (fun hB=>?_);(try simp at hB);(try simp -implicitDefEqProofs))
  ((try simp at hcv hv);(try simp -implicitDefEqProofs [h3,h3',h5,h6]);repeat' first|((with_reducible first|apply Af|apply Ag|apply A8)<;>(intro hc;have hc':=hc;(try simp at hc');simp -implicitDefEqProofs [hc,hc',h3,h3',h5,h6]))|(with_reducible apply A0<;>first|(simp only [eras,era,A1];first|with_reducible assumption)|(simp -implicitDefEqProofs [h3,h3',h5,h6])))
 rw [if_pos ⟨rfl,rfl,h3,h4⟩]
 obtain⟨cn,cp,ins⟩:=c
 simp only [] at h4 hci
 have h5:(cp==(oth != -1))=true:=by rw [h4];simp
 have h6:(oth != -1)=cp:=h4.symm
 have hBU:OkU [Bx.cells [vS cn,vB cp,Ins.l ins],.cells [vI 0,vI 0,vI 0,vI 0,.snil]]:=fun n m hn=>⟨⟨A3 _,rfl⟩,⟨A3 _,rfl⟩,trivial⟩
 have hfi:=Xa l ent oth _ hBU
 cases hf:Mt l ent oth with
 | none=>
  have hfi:=hfi.1 hf
  rw [hzero]
  unfold Src.l at *
  (refine A7.of_code mix Tryz.call18 k_18 (by simp) (fun hB=>?_);(try simp at hB);(try simp -implicitDefEqProofs))
  ((try simp at hcv hv);(try simp -implicitDefEqProofs [h3,h3',h5,h6]);repeat' first|((with_reducible first|apply Af|apply Ag|apply A8)<;>(intro hc;have hc':=hc;(try simp at hc');simp -implicitDefEqProofs [hc,hc',h3,h3',h5,h6]))|(with_reducible apply A0<;>first|(simp only [eras,era,A1];first|with_reducible assumption)|(simp -implicitDefEqProofs [h3,h3',h5,h6])))
  refine Ab hfi ?_
  ((try simp -implicitDefEqProofs);repeat' first|((with_reducible first|apply Af|apply Ag|apply A8)<;>(intro hc;have hc':=hc;(try simp at hc');simp -implicitDefEqProofs [hc,hc'])))
 | some s=>
  have hfi:=hfi.2 s hf
  obtain⟨m1,m2⟩:=V8 hf
  obtain⟨q1,q2,q3,q4⟩:=hs s m1
  have hsok:s.Ok:=⟨q1,q2,q3,q4,(Cz h2 m1).2.2⟩
  have hpr:cp=true→0≤oth:=fun hp=>by
   have ho:oth≠-1:=by rw [hp] at h4;simpa using h4.symm
   obtain⟨o,o1,o2⟩:=m2 ho
   rw [←o2];exact (Cz h2 o1).1
  have hCU:OkU ([Bx.cells [vS cn,vB cp,Ins.l ins],.cells [vI 0,vI 0,vI 0,vI 0,.snil]]++[.dead,.mp [],.cells (mC s oth .snil 3 0)]):=fun n m hn=>⟨⟨A3 _,rfl⟩,⟨A3 _,rfl⟩,trivial,D1 [],⟨A3 _,by unfold mC;simp [okNs,okN];simp at hn;omega⟩,trivial⟩
  have hrun:=T7 4 3 ⟨cn,cp,ins⟩ rule _ hCU s oth hsok rfl rfl h1 hci hpr
  rw [K3] at hrun
  simp only []
  generalize D9 (B9 ⟨cn,cp,ins⟩ s oth rule)=R at *
  obtain⟨⟨p1,p2,p3,p4,p5⟩,p6⟩:=R
  unfold peV pV at *
  unfold Src.l at *
  unfold mC at hfi hrun
  (refine A7.of_code mix Tryz.call18 k_18 (by simp) (fun hB=>?_);(try simp at hB);(try simp -implicitDefEqProofs))
  ((try simp at hcv hv);(try simp -implicitDefEqProofs [h3,h3',h5,h6]);repeat' first|((with_reducible first|apply Af|apply Ag|apply A8)<;>(intro hc;have hc':=hc;(try simp at hc');simp -implicitDefEqProofs [hc,hc',h3,h3',h5,h6]))|(with_reducible apply A0<;>first|(simp only [eras,era,A1];first|with_reducible assumption)|(simp -implicitDefEqProofs [h3,h3',h5,h6])))
  refine Ab hfi ?_
  ((try simp -implicitDefEqProofs);repeat' first|((with_reducible first|apply Af|apply Ag|apply A8)<;>(intro hc;have hc':=hc;(try simp at hc');simp -implicitDefEqProofs [hc,hc'])))
  refine Ab hrun ?_
  ((try simp -implicitDefEqProofs);repeat' first|((with_reducible first|apply Af|apply Ag|apply A8)<;>(intro hc;have hc':=hc;(try simp at hc');simp -implicitDefEqProofs [hc,hc'])))
end Go.Proofs.YtmlpmdccfmmpoaaGreat
