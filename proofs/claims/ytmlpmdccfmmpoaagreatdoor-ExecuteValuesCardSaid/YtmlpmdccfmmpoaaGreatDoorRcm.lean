/- Chapter 34: the reference's own, expr, Rule. -/
import Derived.Test.YtmlpmdccfmmpoaaGreatDoorCps
import Derived.Test.YtmlpmdccfmmpoaaGreatDoorLea
import Derived.Test.YtmlpmdccfmmpoaaGreatDoorSyg
section
set_option linter.unusedSimpArgs false
set_option linter.unusedVariables false
set_option maxHeartbeats 4000000
set_option maxRecDepth 8000
namespace Go.Proofs.YtmlpmdccfmmpoaaGreatDoor
open E

def frL:List Int:=[1,2,3,4,5,6,20,21,22]
def toL:List Int:=[1,2,5,6,7,8,9,3,4]
theorem Xr {k:Int} (h : ∀j,j<9→frL.getD j 0≠k):Cj k=k+3:=by
 have h0:=h 0 (by omega)
 have h1:=h 1 (by omega)
 have h2:=h 2 (by omega)
 have h3:=h 3 (by omega)
 have h4:=h 4 (by omega)
 have h5:=h 5 (by omega)
 have h6:=h 6 (by omega)
 have h7:=h 7 (by omega)
 have h8:=h 8 (by omega)
 simp only [frL,List.getD_cons_zero,List.getD_cons_succ] at *
 unfold Cj
 rw [if_neg (Ne.symm h0),if_neg (Ne.symm h1),if_neg (Ne.symm h2),if_neg (Ne.symm h3),if_neg (Ne.symm h4),if_neg (Ne.symm h5),if_neg (Ne.symm h6),if_neg (Ne.symm h7),if_neg (Ne.symm h8)]
def frN (k:Int) (i:Nat):Prop:=∀j,j<i→frL.getD j 0≠k
theorem A2r (k:Int) (h0:1≤k) (h1:k≤22):A3 Tryz.prog 122 [vI k] (vI (Cj k)):=by
 generalize hR:Cj k=R
 (refine A3.of_code mix Tryz.call122 k_122 (by simp) (fun hB=>?_);(try simp at hB);(try simp -implicitDefEqProofs))
 (try simp -implicitDefEqProofs)
 refine A6 (X:=Nat) (fun i=>i≤9∧frN k i) (fun i=>[(0,vI k),(3,.full (frL.map fun x=>[.int .i64 x])),(4,.full (toL.map fun x=>[.int .i64 x])),(5,vI i)]) (fun _=>St0) (fun i=>9-i) 0 ⟨by omega,fun j hj=>by omega⟩ (by simp [frL,toL]) ?_
 rintro i ⟨hi,hn⟩ hbd
 clear hbd
 have step:i<9→frL.getD i 0≠k→∃z',(z'≤9∧frN k z')∧9-z'<9-i∧(z':Int)=(i:Int)+1:=fun h9 h=>⟨i+1,⟨by omega,fun j hj=>by
  rcases Nat.lt_or_ge j i with q|q
  ·exact hn j q
  ·rw [show j=i by omega];exact h⟩,by omega,by push_cast;rfl⟩
 by_cases h9:i=9
 ·subst h9
  rw [Xr hn] at hR
  have e1:IntKind.i64.wrap (10+k)=10+k:=wrap64 (by omega) (by omega)
  have e2:IntKind.i64.wrap (10+k-7)=k+3:=by rw [wrap64 (by omega) (by omega)];omega
  (try simp -implicitDefEqProofs [frL,toL,e1,e2])
  exact hR.symm
 have step:=step (by omega)
 clear hn
 rcases Classical.em (frL.getD i 0=k) with hk|hk
 ·clear step
  rcases (by omega:i=0∨i=1∨i=2∨i=3∨i=4∨i=5∨i=6∨i=7∨i=8) with rfl|rfl|rfl|rfl|rfl|rfl|rfl|rfl|rfl
  all_goals
   simp only [frL,List.getD_cons_zero,List.getD_cons_succ] at hk
   subst hk
   (try simp -implicitDefEqProofs [frL,toL])
   exact hR.symm
 ·have step:=step hk
  rcases (by omega:i=0∨i=1∨i=2∨i=3∨i=4∨i=5∨i=6∨i=7∨i=8) with rfl|rfl|rfl|rfl|rfl|rfl|rfl|rfl|rfl
  all_goals
   simp only [frL,List.getD_cons_zero,List.getD_cons_succ] at hk
   have hk':=beq_false_of_ne hk
   (try simp -implicitDefEqProofs [frL,toL,hk'])
   first|exact step|simpa using step
theorem Ls (s y:List UInt8) : ∀(l:List (List UInt8)) (i:Nat) (c:Int),G4 s i (l++[y]) c=if y=s then ((i+l.length:Nat):Int) else G4 s i l c
 | [],i,c=>rfl
 | z::l,i,c=>by
  rw [List.cons_append,G4,Ls s y l,G4,List.length_cons,show i+1+l.length=i+(l.length+1) by omega]
theorem Zz (M:List (List UInt8)) (hM:M.length≤1000) : ∀(x:Xp),x.prop=true→x.cnt≤100000→A3 Tryz.prog 77 [x.v,vSL M] (Ins.l (x.codeX M)):=by
 refine Xp.ind fun kd vl fr to nm xs ih hp hcnt=>?_
 rw [Xp.prop,Bool.and_eq_true] at hp
 obtain⟨hsh,hps⟩:=hp
 have hpm:=Xp.props_mem hps
 rw [Xp.cnt] at hcnt
 have hal:=Xp.cnts_len xs
 have hkd:1≤kd∧kd≤22:=by
  have:=hsh
  unfold Gk kdB at this
  simp only [Bool.and_eq_true,decide_eq_true_eq] at this
  exact this.1.1
 have hown:=A2r kd hkd.1 hkd.2
 rw [Xp.codeX,Xp.v,Xp.c_mk]
 obtain⟨LX,hLX⟩ : ∃LX,LX=Dc M kd vl fr to nm:=⟨_,rfl⟩
 rw [←hLX]
 simp only [vSL]
 (refine A3.of_code mix Tryz.call77 k_77 (by simp) (fun hB=>?_);(try simp at hB);(try simp -implicitDefEqProofs))
 (try simp -implicitDefEqProofs)
 refine Bd [(.slot 5,127,3)] (X:=Nat) (fun k=>k≤xs.length) (fun k=>[(1,vSL M),(2,.ptr 0 0),(5,.own 0 127 3 ((Xp.codesX M (xs.take k)).map Ins.c)),(6,vI k)])
  (fun k=>⟨[.cells [vI kd,vI vl,vI fr,vI to,vS nm,Xp.l xs]],[(Xp.codesX M (xs.take k)).length]⟩) (fun k=>xs.length-k) 0 (by omega) (by simp [Xp.codesX]) ?_
 rintro k hk hbd
 clear hbd
 have hcl:(Xp.codesX M (xs.take k)).length≤Xp.cnts xs:=by
  rw [Xp.codesX_len]
  have:=Xp.cnts_append (xs.take k) (xs.drop k)
  rw [List.take_append_drop] at this;omega
 rcases Nat.lt_or_ge k xs.length with h|h
 ·have hx:xs[k]?=some xs[k]:=by simp [h]
  have e3:IntKind.i64.wrap ((k:Int)+1)=(k:Int)+1:=wrap64 (by omega) (by omega)
  have hxc:=Xp.cnts_mem (List.getElem_mem h)
  have htk:=Ah hx
  have hc1:Xp.codesX M (xs.take (k+1))=Xp.codesX M (xs.take k)++xs[k].codeX M:=by rw [Xp.codesX_flat,Xp.codesX_flat,htk,List.flatMap_append];simp
  have hrec:=ih xs[k] (List.getElem_mem h) (hpm _ (List.getElem_mem h)) (by omega)
  simp only [vSL] at hrec
  have hlc:=C1 xs[k]
  have htc:=Bf xs[k]
  have hcx:=Xp.codeX_len M xs[k]
  ((try simp at hrec);(try simp -implicitDefEqProofs [h,e3,hlc,htc]);repeat' first|(with_reducible apply A0<;>first|(simp only [eras,era,A1];first|with_reducible assumption)|(simp -implicitDefEqProofs [h,e3,hlc,htc])))
  exact⟨⟨by unfold maxLen;omega,by omega⟩,k+1,by omega,by omega,by rw [hc1,List.length_append],by rw [hc1,List.map_append];exact leA.refl _,by push_cast;rfl⟩
 have:k=xs.length:=by omega
 subst this
 rw [List.take_length] at *
 generalize Xp.codesX M xs=C at *
 have hC:C.length+1≤maxLen∧(C.length+1)*24≤140737488355328:=⟨by unfold maxLen;omega,by omega⟩
 by_cases e1:kd=1
 ·subst e1
  have hl:LX=⟨Cj 1,vl,0⟩:=hLX
  subst hl
  ((try simp at hown);(try simp -implicitDefEqProofs [hC]);repeat' first|(with_reducible apply A0<;>first|(simp only [eras,era,A1];first|with_reducible assumption)|(simp -implicitDefEqProofs [hC])))
 by_cases e20:kd=20
 ·subst e20
  have hl:LX=⟨Cj 20,vl,0⟩:=hLX
  subst hl
  ((try simp at hown);(try simp -implicitDefEqProofs [hC]);repeat' first|(with_reducible apply A0<;>first|(simp only [eras,era,A1];first|with_reducible assumption)|(simp -implicitDefEqProofs [hC])))
 by_cases e21:kd=21
 ·subst e21
  have hl:LX=⟨Cj 21,fr,to⟩:=hLX
  subst hl
  ((try simp at hown);(try simp -implicitDefEqProofs [hC]);repeat' first|(with_reducible apply A0<;>first|(simp only [eras,era,A1];first|with_reducible assumption)|(simp -implicitDefEqProofs [hC])))
  all_goals (repeat' with_reducible apply And.intro)
  all_goals (try (try simp -implicitDefEqProofs [hC]))
 by_cases e22:kd=22
 ·subst e22
  have hl:LX=⟨Cj 22,fr,to⟩:=hLX
  subst hl
  ((try simp at hown);(try simp -implicitDefEqProofs [hC]);repeat' first|(with_reducible apply A0<;>first|(simp only [eras,era,A1];first|with_reducible assumption)|(simp -implicitDefEqProofs [hC])))
  all_goals (repeat' with_reducible apply And.intro)
  all_goals (try (try simp -implicitDefEqProofs [hC]))
 by_cases e2:kd=2
 ·subst e2
  have hl:LX=⟨Cj 2,P8 M nm,0⟩:=hLX
  subst hl
  ((try simp at hown);(try simp -implicitDefEqProofs [hC]);repeat' first|(with_reducible apply A0<;>first|(simp only [eras,era,A1];first|with_reducible assumption)|(simp -implicitDefEqProofs [hC])))
  refine A6 (X:=Nat) (fun i=>i≤M.length) (fun i=>[(1,vSL M),(2,.ptr 0 0),(5,.own 0 127 3 (C.map Ins.c)),(7,.ptr 1 0),(8,vI i)])
   (fun i=>⟨[.cells [vI 2,vI vl,vI fr,vI to,vS nm,Xp.l xs],.cells [vI (Cj 2),vI (G4 nm 0 (M.take i) 0),vI 0]],[C.length]⟩) (fun i=>M.length-i) 0 (by omega) (by simp [G4]) ?_
  rintro i hi hbd
  clear hbd
  rcases Nat.lt_or_ge i M.length with h|h
  ·have hx:M[i]?=some M[i]:=by simp [h]
   have e3:IntKind.i64.wrap ((i:Int)+1)=(i:Int)+1:=wrap64 (by omega) (by omega)
   have htk:=Ah hx
   have hix:G4 nm 0 (M.take (i+1)) 0=if M[i]=nm then (i:Int) else G4 nm 0 (M.take i) 0:=by
    rw [htk,Ls]
    congr 1
    rw [List.length_take];congr 1;omega
   have hmi:(M.map fun x=>[T.str x])[i]?=some [T.str M[i]]:=by simp [h]
   by_cases hq:M[i]=nm
   ·rw [if_pos hq] at hix
    have hq':(M[i]==nm)=true:=by simp [hq]
    (try simp -implicitDefEqProofs [h,e3,hq,hq',hmi])
    exact⟨i+1,by omega,by omega,hix,by push_cast;rfl⟩
   ·rw [if_neg hq] at hix
    have hq':(M[i]==nm)=false:=by simp [hq]
    (try simp -implicitDefEqProofs [h,e3,hq',hmi])
    exact⟨i+1,by omega,by omega,hix,by push_cast;rfl⟩
  ·have:i=M.length:=by omega
   subst this
   rw [List.take_length]
   have hid:G4 nm 0 M 0=P8 M nm:=rfl
   (try simp -implicitDefEqProofs [hC,hid])
 have hl:LX=⟨Cj kd,0,0⟩:=by rw [hLX];unfold Dc;rw [if_neg e1,if_neg e2,if_neg e20,if_neg e21,if_neg e22]
 subst hl
 have b1:(kd==1)=false:=by simpa using e1
 have b2:(kd==2)=false:=by simpa using e2
 have b20:(kd==20)=false:=by simpa using e20
 have b21:(kd==21)=false:=by simpa using e21
 have b22:(kd==22)=false:=by simpa using e22
 ((try simp at hown);(try simp -implicitDefEqProofs [hC,b1,b2,b20,b21,b22]);repeat' first|(with_reducible apply A0<;>first|(simp only [eras,era,A1];first|with_reducible assumption)|(simp -implicitDefEqProofs [hC,b1,b2,b20,b21,b22])))
theorem A4e (ss:List Stm) (M:List (List UInt8)) (k:Nat):(C6 M (ss.take k)).length≤ss.length+Kt ss:=by
 rw [Kj]
 have h1:(ss.take k).length≤ss.length:=by simp;omega
 have h2:Kt (ss.take k)≤Kt ss:=by
  have:=List.take_append_drop k ss
  conv=>rhs;rw [←this]
  unfold Kt
  rw [List.map_append,List.sum_append];omega
 omega
theorem A2s {ss:List Stm} {s:Stm} (h:s∈ss):s.ex.cnt≤Kt ss:=by
 induction ss with
 | nil=>cases h
 | cons y ss ih=>
  unfold Kt at ih ⊢
  rw [List.map_cons,List.sum_cons]
  rcases List.mem_cons.1 h with rfl|h
  ·omega
  ·have:=ih h;omega
theorem Xs (r:Rul) (hb:Ec r=true) (hlen:Kt r.stmts≤50000):A3 Tryz.prog 34 [r.v] (P9 r).v:=by
 obtain⟨nm,pair,ss,to⟩:=r
 unfold Ec at hb
 simp only [Bool.and_eq_true,decide_eq_true_eq,List.all_eq_true] at hb hlen
 obtain⟨⟨⟨_,hss⟩,hto⟩,hst⟩:=hb
 have hrc:Rul.c ⟨nm,pair,ss,to⟩=[T.str nm,T.bool pair,T.sl (ss.map Stm.c),T.int .i64 to]:=rfl
 rw [show (P9 ⟨nm,pair,ss,to⟩).v=.agg [.t (.str nm),.t (.bool pair),.t (.sl ((C6 [] ss++[(⟨26,to,0⟩:Ins)]).map Ins.c))] from rfl]
 (refine A3.of_code mix Tryz.call34 k_34 (by simp) (fun hB=>?_);(try simp at hB);(try simp -implicitDefEqProofs))
 (try simp -implicitDefEqProofs [hrc])
 refine Bd [(.cell 2 2,127,3),(.slot 4,9,1)] (X:=Nat) (fun k=>k≤ss.length)
  (fun k=>[(1,.ptr 0 0),(2,.ptr 1 0),(3,.ptr 2 0),(4,.own 1 9 1 ((Az (ss.take k)).map fun x=>[T.str x])),(5,vI k)])
  (fun k=>⟨[.cells [vS nm,vB pair,Stm.l ss,vI to],.cells [vS [],vB false,.snil],.cells [vS nm,vB pair,.own 0 127 3 ((C6 [] (ss.take k)).map Ins.c)]],[(C6 [] (ss.take k)).length,(Az (ss.take k)).length]⟩) (fun k=>ss.length-k) 0 (by omega) (by simp [Az,C6]) ?_
 rintro k hk hbd
 clear hbd
 have hcl:=A4e ss [] k
 rcases Nat.lt_or_ge k ss.length with h|h
 ·have hx:ss[k]?=some ss[k]:=by simp [h]
  have e3:IntKind.i64.wrap ((k:Int)+1)=(k:Int)+1:=wrap64 (by omega) (by omega)
  have hnn:=N0 hx
  have hcn:=Pa (M:=[]) hx
  rw [List.nil_append] at hcn
  have hsb:=hst _ (List.getElem_mem h)
  have hxc:=A2s (List.getElem_mem h)
  have hnl:(Az (ss.take k)).length≤1000:=by
   have:(Az (ss.take k)).length≤(ss.take k).length:=by unfold Az;rw [List.length_map];exact List.length_filter_le _ _
   simp at this;omega
  generalize hMM:Az (ss.take k)=M at *
  generalize hEE:C6 [] (ss.take k)=es at *
  obtain⟨kd,acc,sn,x,hs⟩ : ∃kd acc sn x,ss[k]=⟨kd,acc,sn,x⟩:=⟨_,_,_,_,rfl⟩
  have hsk:(ss.map Stm.c)[k]?=some (.int .i64 kd::.int .i64 acc::.str sn::x.c):=by simp [h,hs,Stm.c]
  have hcc:Stm.c ⟨kd,acc,sn,x⟩=(.int .i64 kd::.int .i64 acc::.str sn::x.c):=rfl
  have hlc:=C1 x
  have htc:=Bf x
  rw [hs] at hsb hxc hnn hcn
  simp only [] at hxc hcn
  unfold Dv at hsb
  simp only [Bool.and_eq_true,decide_eq_true_eq] at hsb
  obtain⟨⟨hsh,_⟩,hpx⟩:=hsb
  have hex:=Zz M hnl x hpx (by omega)
  simp only [vSL] at hex
  have hcx:=Xp.codeX_len M x
  have big1:(es.length+(x.codeX M).length≤maxLen∧(es.length+(x.codeX M).length)*24≤140737488355328):=⟨by unfold maxLen;omega,by omega⟩
  have big2:(es.length+(x.codeX M).length+1≤maxLen∧(es.length+(x.codeX M).length+1)*24≤140737488355328):=⟨by unfold maxLen;omega,by omega⟩
  have big3:(M.length+1≤maxLen∧(M.length+1)*16≤140737488355328):=⟨by unfold maxLen;omega,by omega⟩
  unfold Sb at hcn
  simp only [] at hcn
  unfold P7 at hsh
  by_cases k1:kd=1
  ·subst k1
   have hN:Az [⟨1,acc,sn,x⟩]=[sn]:=rfl
   rw [hN] at hnn
   rw [if_pos rfl] at hcn
   generalize x.codeX M=cx at *
   ((try simp at hex);(try simp -implicitDefEqProofs [h,hs,hsk,hcc,hlc,htc,e3,big1,big2,big3]);repeat' first|(with_reducible apply A0<;>first|(simp only [eras,era,A1];first|with_reducible assumption)|(simp -implicitDefEqProofs [h,hs,hsk,hcc,hlc,htc,e3,big1,big2,big3])))
   exact⟨k+1,by omega,by omega,⟨by rw [hcn,List.map_append,List.map_append];exact .inl rfl,by rw [hcn];simp;omega,by rw [hnn];simp⟩,by rw [hnn,List.map_append];exact leA.refl _,by push_cast;rfl⟩
  have k1':(kd==1)=false:=by simpa using k1
  have hN:Az [⟨kd,acc,sn,x⟩]=[]:=by simp [Az,k1]
  rw [hN,List.append_nil] at hnn
  rw [if_neg k1] at hcn
  by_cases k2:kd=2
  ·subst k2
   rw [if_pos rfl] at hcn
   generalize x.codeX M=cx at *
   ((try simp at hex);(try simp -implicitDefEqProofs [h,hs,hsk,hcc,hlc,htc,e3,k1',big1,big2,big3]);repeat' first|(with_reducible apply A0<;>first|(simp only [eras,era,A1];first|with_reducible assumption)|(simp -implicitDefEqProofs [h,hs,hsk,hcc,hlc,htc,e3,k1',big1,big2,big3])))
   exact⟨k+1,by omega,by omega,⟨by rw [hcn,List.map_append,List.map_append];exact .inl rfl,by rw [hcn];simp;omega,by rw [hnn]⟩,by rw [hnn];exact leA.refl _,by push_cast;rfl⟩
  ·have k2':(kd==2)=false:=by simpa using k2
   rw [if_neg k2] at hcn
   generalize x.codeX M=cx at *
   ((try simp at hex);(try simp -implicitDefEqProofs [h,hs,hsk,hcc,hlc,htc,e3,k1',k2',big1,big2,big3]);repeat' first|(with_reducible apply A0<;>first|(simp only [eras,era,A1];first|with_reducible assumption)|(simp -implicitDefEqProofs [h,hs,hsk,hcc,hlc,htc,e3,k1',k2',big1,big2,big3])))
   exact⟨k+1,by omega,by omega,⟨by rw [hcn,List.map_append,List.map_append];exact .inl rfl,by rw [hcn];simp;omega,by rw [hnn]⟩,by rw [hnn];exact leA.refl _,by push_cast;rfl⟩
 ·have:k=ss.length:=by omega
  subst this
  rw [List.take_length] at *
  generalize C6 [] ss=C at *
  have hC:C.length+1≤maxLen∧(C.length+1)*24≤140737488355328:=⟨by unfold maxLen;omega,by omega⟩
  (try simp -implicitDefEqProofs [hC])
end Go.Proofs.YtmlpmdccfmmpoaaGreatDoor
end

/- Chapter 34: Own and Same of codes. -/
section
set_option linter.unusedSimpArgs false
set_option linter.unusedVariables false
set_option maxHeartbeats 1000000
set_option maxRecDepth 8000
namespace Go.Proofs.YtmlpmdccfmmpoaaGreatDoor
open E

end Go.Proofs.YtmlpmdccfmmpoaaGreatDoor
end

/- Chapter 34: the reference's Compile; the law CompilePrograms. -/
section
set_option linter.unusedSimpArgs false
set_option linter.unusedVariables false
set_option maxHeartbeats 4000000
set_option maxRecDepth 8000
namespace Go.Proofs.YtmlpmdccfmmpoaaGreatDoor
open E

end Go.Proofs.YtmlpmdccfmmpoaaGreatDoor
end
