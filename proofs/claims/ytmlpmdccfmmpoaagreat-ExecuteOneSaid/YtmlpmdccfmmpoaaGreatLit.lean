/- Chapter 35: results that stay in buffers; items turned; the reference's Valid and Same; the law ExecuteItems. -/
import Derived.Test.YtmlpmdccfmmpoaaGreatLba
import Derived.Test.YtmlpmdccfmmpoaaGreatSlices
import Derived.Test.YtmlpmdccfmmpoaaGreatExS
set_option linter.unusedVariables false
namespace Go.Proofs.YtmlpmdccfmmpoaaGreat
namespace E
def FinU (rvs:List RV) (nb nt:Nat) (r:V) (S':St) (e:Ex) (a:Fr) (S1:St):Prop:=
 (match e with | .ex _=>False | .pn _=>False | _=>True)∧(nb≤S'.boxes.length∧nt≤S'.toks.length)∧
 match rvVs a S1 rvs with
 | some vs=>leS S1 S'∧leV (packV vs) r∧okN S'.boxes.length S'.toks.length r=true
 | none=>False
attribute [simp] FinU
end E
end Go.Proofs.YtmlpmdccfmmpoaaGreat
set_option linter.unusedSimpArgs false
set_option linter.unusedVariables false
namespace Go.Proofs.YtmlpmdccfmmpoaaGreat
open E
structure Alike (a b:Src):Prop where
 ent:a.ent=b.ent
 full:a.full=b.full
 num:a.num=b.num
 den:a.den=b.den
 rd : ∀f t any p,readN a.items f t any p=readN b.items f t any p
end Go.Proofs.YtmlpmdccfmmpoaaGreat
set_option linter.unusedSimpArgs false
set_option linter.unusedVariables false
set_option maxHeartbeats 4000000
set_option maxRecDepth 8000
namespace Go.Proofs.YtmlpmdccfmmpoaaGreat
open E

theorem w_rsamep (l:List Posting) (hl : ∀p∈l,p.parts.length≤1000000):Pure Tryz.prog 14 [Posting.l l,Posting.l l] (vB true):=by
 (refine Pure.of_code mix Tryz.call14 k_14 (by simp) (fun hB=>?_); (try simp at hB); (try simp -implicitDefEqProofs [qc_14]))
 simp only [maxLen] at hB
 refine loop_rule (X:=Nat) (fun k=>k≤l.length) (fun k=>[(0,Posting.l l),(1,Posting.l l),(5,vI k)]) (fun _=>⟨[],[]⟩) (fun k=>l.length-k) 0 (by omega) (by simp) ?_
 rintro k hk hbd
 clear hbd
 rcases Nat.lt_or_ge k l.length with h | h
 ·obtain⟨p,hp⟩:=get_of_lt h
  have e3:IntKind.i64.wrap ((k:Int)+1)=(k:Int)+1:=wrap64 (by omega) (by omega)
  have hpc:(l.map Posting.c)[k]?=some p.c:=by simp [hp]
  have hpc' : ∀h,(l.map Posting.c)[k]'h=p.c:=fun h=>by rw [List.getElem?_eq_getElem h] at hpc; exact Option.some.inj hpc
  have hpl:=hl p (List.mem_of_getElem? hp)
  obtain⟨kd,en,ot,ru,ps⟩:=p
  simp only [] at hpl
  have hfin : ∃z':Nat,z'≤l.length∧l.length-z'<l.length-k∧(z':Int)=(k:Int)+1:=⟨k+1,by omega,by omega,by push_cast; rfl⟩
  ((try simp -implicitDefEqProofs [h,hpc,hpc',Posting.c]); repeat' first | ((with_reducible first | apply gdK_em | apply cdK_em | apply pickK_em)<;>(intro hc; have hc':=hc; (try simp at hc'); simp -implicitDefEqProofs [hc,hc',h,hpc,hpc',Posting.c])))
  refine loop_rule (X:=Nat) (fun j=>j≤ps.length) (fun j=>[(0,Posting.l l),(1,Posting.l l),(5,vI k),(6,vI j)]) (fun _=>⟨[],[]⟩) (fun j=>ps.length-j) 0 (by omega) (by simp) ?_
  rintro j hj hbd
  clear hbd
  rcases Nat.lt_or_ge j ps.length with h2 | h2
  ·obtain⟨x,hx⟩:=get_of_lt h2
   have e4:IntKind.i64.wrap ((j:Int)+1)=(j:Int)+1:=wrap64 (by omega) (by omega)
   have hxc:(ps.map Part.c)[j]?=some x.c:=by simp [hx]
   have hxc' : ∀h,(ps.map Part.c)[j]'h=x.c:=fun h=>by rw [List.getElem?_eq_getElem h] at hxc; exact Option.some.inj hxc
   obtain⟨ac,am⟩:=x
   have hfin2 : ∃z':Nat,z'≤ps.length∧ps.length-z'<ps.length-j∧(z':Int)=(j:Int)+1:=⟨j+1,by omega,by omega,by push_cast; rfl⟩
   ((try simp -implicitDefEqProofs [h,hpc,hpc',Posting.c,h2,hxc,hxc',Part.c,e4]); repeat' first | ((with_reducible first | apply gdK_em | apply cdK_em | apply pickK_em)<;>(intro hc; have hc':=hc; (try simp at hc'); simp -implicitDefEqProofs [hc,hc',h,hpc,hpc',Posting.c,h2,hxc,hxc',Part.c,e4])))
   exact hfin2
  ·have:j=ps.length:=by omega
   subst this
   ((try simp -implicitDefEqProofs [h,hpc,hpc',Posting.c,e3]); repeat' first | ((with_reducible first | apply gdK_em | apply cdK_em | apply pickK_em)<;>(intro hc; have hc':=hc; (try simp at hc'); simp -implicitDefEqProofs [hc,hc',h,hpc,hpc',Posting.c,e3])))
   exact hfin
 ·have:k=l.length:=by omega
  subst this
  ((try simp -implicitDefEqProofs); repeat' first | ((with_reducible first | apply gdK_em | apply cdK_em | apply pickK_em)<;>(intro hc; have hc':=hc; (try simp at hc'); simp -implicitDefEqProofs [hc,hc'])))
theorem w_rvalid35 (l:List Src) (hl:l.length≤1000000) (hi : ∀s∈l,s.items.length≤1000000):Pure Tryz.prog 16 [Src.ql l] (vB (srcOk l)):=by
 obtain⟨R,hR⟩ : ∃R,R=srcOk l:=⟨_,rfl⟩
 rw [←hR]
 have hok:=srcOk_bad l
 rw [←hR] at hok
 (refine Pure.of_code mix Tryz.call16 k_16 (by simp) (fun hB=>?_); (try simp at hB); (try simp -implicitDefEqProofs [qc_16]))
 ((try simp -implicitDefEqProofs); repeat' first | ((with_reducible first | apply gdK_em | apply cdK_em | apply pickK_em)<;>(intro hc; have hc':=hc; (try simp at hc'); simp -implicitDefEqProofs [hc,hc'])))
 refine loop_rule (X:=Nat) (fun k=>k≤l.length∧∀j,j<k→badS l j (l.getD j ⟨0,false,0,0,[]⟩)=false) (fun k=>[(0,Src.ql l),(3,vI k)]) (fun _=>⟨[],[]⟩) (fun k=>l.length-k) 0 ⟨by omega,fun j h=>by omega⟩ ?hs ?_
 case hs=>simp [Src.ql,okN]
 rintro k ⟨hk,hb⟩ hbd
 clear hbd
 have e3:IntKind.i64.wrap ((k:Int)+1)=(k:Int)+1:=wrap64 (by omega) (by omega)
 have e4:IntKind.i64.wrap ((k:Int)-1)=(k:Int)-1:=wrap64 (by omega) (by omega)
 rcases Nat.lt_or_ge k l.length with h | h
 ·obtain⟨s,hs⟩:=get_of_lt h
  have hgd:l.getD k ⟨0,false,0,0,[]⟩=s:=by rw [List.getD_eq_getElem?_getD,hs]; rfl
  have hsc:(l.map Src.q)[k]?=some s.q:=by simp [hs]
  have hsc' : ∀h,(l.map Src.q)[k]'h=s.q:=fun h=>by rw [List.getElem?_eq_getElem h] at hsc; exact Option.some.inj hsc
  have hcc:s.q=[.int .i64 s.ent,.bool s.full,.bool (nB s.num),.sl (qE s.num),.bool (nB s.den),.sl (qE s.den),.sl (s.items.map Item.c)]:=rfl
  rw [hcc] at hsc hsc'
  have hil:=hi s (List.mem_of_getElem? hs)
  have hfail:badS l k s=true→R=false:=fun hq=>by
   rw [hok,List.all_eq_false]
   exact⟨k,List.mem_range.2 h,by rw [hgd,hq]; simp⟩
  have hnext:badS l k s=false→∀j,j<k+1→badS l j (l.getD j ⟨0,false,0,0,[]⟩)=false:=fun hq j hj=>by
   rcases Nat.lt_or_ge j k with h1 | h1
   ·exact hb j h1
   ·have:j=k:=by omega
    subst this; rw [hgd]; exact hq
  by_cases c1:s.ent<0
  ·have hf:=hfail (by simp [badS,c1])
   rw [hf]
   ((try simp -implicitDefEqProofs [h,hsc,hsc',Src.ql,c1]); repeat' first | ((with_reducible first | apply gdK_em | apply cdK_em | apply pickK_em)<;>(intro hc; have hc':=hc; (try simp at hc'); simp -implicitDefEqProofs [hc,hc',h,hsc,hsc',Src.ql,c1])))
  by_cases c2:12≤s.ent
  ·have hf:=hfail (by simp [badS,c2])
   rw [hf]
   ((try simp -implicitDefEqProofs [h,hsc,hsc',Src.ql,c1,c2]); repeat' first | ((with_reducible first | apply gdK_em | apply cdK_em | apply pickK_em)<;>(intro hc; have hc':=hc; (try simp at hc'); simp -implicitDefEqProofs [hc,hc',h,hsc,hsc',Src.ql,c1,c2])))
  have hrest:badS l k s=((decide (0<k)&&decide (s.ent≤(l.getD (k-1) ⟨0,false,0,0,[]⟩).ent))||s.items.any fun x=>!amtB x.amt):=by
   unfold badS
   have d1:decide (s.ent<0)=false:=by simpa using c1
   have d2:decide (12≤s.ent)=false:=by simpa using c2
   rw [d1,d2]; rfl
  rcases Nat.eq_zero_or_pos k with k0 | k0
  ·subst k0
   ((try simp -implicitDefEqProofs [h,hsc,hsc',Src.ql,c1,c2]); repeat' first | ((with_reducible first | apply gdK_em | apply cdK_em | apply pickK_em)<;>(intro hc; have hc':=hc; (try simp at hc'); simp -implicitDefEqProofs [hc,hc',h,hsc,hsc',Src.ql,c1,c2])))
   refine loop_rule (X:=Nat) (fun j=>j≤s.items.length∧∀y∈s.items.take j,amtB y.amt=true) (fun j=>[(0,Src.ql l),(3,vI (0:Int)),(4,vI j)]) (fun _=>⟨[],[]⟩) (fun j=>s.items.length-j) 0 ⟨by omega,by simp⟩ (by simp [Src.ql,okN]) ?_
   rintro j ⟨hj,hjb⟩ hbd
   clear hbd
   rcases Nat.lt_or_ge j s.items.length with h2 | h2
   ·obtain⟨x,hx⟩:=get_of_lt h2
    have e5:IntKind.i64.wrap ((j:Int)+1)=(j:Int)+1:=wrap64 (by omega) (by omega)
    have hxc:(s.items.map Item.c)[j]?=some x.c:=by simp [hx]
    have hxc' : ∀h,(s.items.map Item.c)[j]'h=x.c:=fun h=>by rw [List.getElem?_eq_getElem h] at hxc; exact Option.some.inj hxc
    have ha:=w_ramt x.amt
    cases hv:amtB x.amt
    ·rw [hv] at ha
     rw [hfail (by rw [hrest]; simp only [Bool.or_eq_true]; exact .inr (List.any_eq_true.2 ⟨x,List.mem_of_getElem? hx,by rw [hv]; rfl⟩))]
     obtain⟨i1,i2,i3,i4,i5,i6,i7⟩:=x
     ((try simp at ha); (try simp -implicitDefEqProofs [h,hsc,hsc',Src.ql,h2,hxc,hxc',Item.c]); repeat' first | ((with_reducible first | apply gdK_em | apply cdK_em | apply pickK_em)<;>(intro hc; have hc':=hc; (try simp at hc'); simp -implicitDefEqProofs [hc,hc',h,hsc,hsc',Src.ql,h2,hxc,hxc',Item.c])) | (with_reducible apply callK_pure<;>first | (simp only [eras,era,eras_map]; first | with_reducible exact ha | simpa using ha) | (simp -implicitDefEqProofs [h,hsc,hsc',Src.ql,h2,hxc,hxc',Item.c])))
    ·rw [hv] at ha
     have hfin : ∃z':Nat,(z'≤s.items.length∧∀y∈s.items.take z',amtB y.amt=true)∧s.items.length-z'<s.items.length-j∧(z':Int)=(j:Int)+1:=by
      refine⟨j+1,⟨by omega,fun y hy=>?_⟩,by omega,by push_cast; rfl⟩
      rw [take_next hx] at hy
      rcases List.mem_append.1 hy with h1 | h1
      ·exact hjb y h1
      ·simp at h1; subst h1; exact hv
     obtain⟨i1,i2,i3,i4,i5,i6,i7⟩:=x
     ((try simp at ha); (try simp -implicitDefEqProofs [h,hsc,hsc',Src.ql,h2,hxc,hxc',Item.c,e5]); repeat' first | ((with_reducible first | apply gdK_em | apply cdK_em | apply pickK_em)<;>(intro hc; have hc':=hc; (try simp at hc'); simp -implicitDefEqProofs [hc,hc',h,hsc,hsc',Src.ql,h2,hxc,hxc',Item.c,e5])) | (with_reducible apply callK_pure<;>first | (simp only [eras,era,eras_map]; first | with_reducible exact ha | simpa using ha) | (simp -implicitDefEqProofs [h,hsc,hsc',Src.ql,h2,hxc,hxc',Item.c,e5])))
     exact hfin
   ·have hje:j=s.items.length:=by omega
    subst hje
    rw [List.take_of_length_le (Nat.le_refl _)] at hjb
    have ha:(s.items.any fun x=>!amtB x.amt)=false:=by
     rw [List.any_eq_false]; intro y hy; simp [hjb y hy]
    have hn:=hnext (by rw [hrest,ha]; rfl)
    have hfin : ∃z':Nat,(z'≤l.length∧∀j,j<z'→badS l j (l.getD j ⟨0,false,0,0,[]⟩)=false)∧l.length-z'<l.length-(0:Nat)∧(z':Int)=((0:Nat):Int)+1:=⟨(0:Nat)+1,⟨by omega,hn⟩,by omega,by simp⟩
    ((try simp -implicitDefEqProofs [h,hsc,hsc',Src.ql,e3]); repeat' first | ((with_reducible first | apply gdK_em | apply cdK_em | apply pickK_em)<;>(intro hc; have hc':=hc; (try simp at hc'); simp -implicitDefEqProofs [hc,hc',h,hsc,hsc',Src.ql,e3])))
    simpa [List.getD_eq_getElem?_getD] using hfin
  ·obtain⟨q,hq⟩:=get_of_lt (show k-1<l.length by omega)
   have hgq:l.getD (k-1) ⟨0,false,0,0,[]⟩=q:=by rw [List.getD_eq_getElem?_getD,hq]; rfl
   rw [hgq] at hrest
   have hqc:(l.map Src.q)[k-1]?=some q.q:=by simp [hq]
   have hqc' : ∀h,(l.map Src.q)[k-1]'h=q.q:=fun h=>by rw [List.getElem?_eq_getElem h] at hqc; exact Option.some.inj hqc
   have hqq:q.q=[.int .i64 q.ent,.bool q.full,.bool (nB q.num),.sl (qE q.num),.bool (nB q.den),.sl (qE q.den),.sl (q.items.map Item.c)]:=rfl
   rw [hqq] at hqc hqc'
   have i1:((k:Int)-1).toNat=k-1:=by omega
   have j1:(1:Int)≤k:=by omega
   have j2:(k:Int)-1<l.length:=by omega
   have d0:decide (0<k)=true:=by simpa using k0
   rw [d0,Bool.true_and] at hrest
   by_cases c3:s.ent≤q.ent
   ·rw [hfail (by rw [hrest]; simp [c3])]
    ((try simp -implicitDefEqProofs [h,hsc,hsc',hqc,hqc',Src.ql,c1,c2,k0,i1,j1,j2,e4,c3]); repeat' first | ((with_reducible first | apply gdK_em | apply cdK_em | apply pickK_em)<;>(intro hc; have hc':=hc; (try simp at hc'); simp -implicitDefEqProofs [hc,hc',h,hsc,hsc',hqc,hqc',Src.ql,c1,c2,k0,i1,j1,j2,e4,c3])))
   ·have d3:decide (s.ent≤q.ent)=false:=by simpa using c3
    rw [d3,Bool.false_or] at hrest
    ((try simp -implicitDefEqProofs [h,hsc,hsc',hqc,hqc',Src.ql,c1,c2,k0,i1,j1,j2,e4,c3]); repeat' first | ((with_reducible first | apply gdK_em | apply cdK_em | apply pickK_em)<;>(intro hc; have hc':=hc; (try simp at hc'); simp -implicitDefEqProofs [hc,hc',h,hsc,hsc',hqc,hqc',Src.ql,c1,c2,k0,i1,j1,j2,e4,c3])))
    refine loop_rule (X:=Nat) (fun j=>j≤s.items.length∧∀y∈s.items.take j,amtB y.amt=true) (fun j=>[(0,Src.ql l),(3,vI k),(4,vI j)]) (fun _=>⟨[],[]⟩) (fun j=>s.items.length-j) 0 ⟨by omega,by simp⟩ (by simp [Src.ql,okN]) ?_
    rintro j ⟨hj,hjb⟩ hbd
    clear hbd
    rcases Nat.lt_or_ge j s.items.length with h2 | h2
    ·obtain⟨x,hx⟩:=get_of_lt h2
     have e5:IntKind.i64.wrap ((j:Int)+1)=(j:Int)+1:=wrap64 (by omega) (by omega)
     have hxc:(s.items.map Item.c)[j]?=some x.c:=by simp [hx]
     have hxc' : ∀h,(s.items.map Item.c)[j]'h=x.c:=fun h=>by rw [List.getElem?_eq_getElem h] at hxc; exact Option.some.inj hxc
     have ha:=w_ramt x.amt
     cases hv:amtB x.amt
     ·rw [hv] at ha
      rw [hfail (by rw [hrest]; exact List.any_eq_true.2 ⟨x,List.mem_of_getElem? hx,by rw [hv]; rfl⟩)]
      obtain⟨i1,i2,i3,i4,i5,i6,i7⟩:=x
      ((try simp at ha); (try simp -implicitDefEqProofs [h,hsc,hsc',Src.ql,h2,hxc,hxc',Item.c]); repeat' first | ((with_reducible first | apply gdK_em | apply cdK_em | apply pickK_em)<;>(intro hc; have hc':=hc; (try simp at hc'); simp -implicitDefEqProofs [hc,hc',h,hsc,hsc',Src.ql,h2,hxc,hxc',Item.c])) | (with_reducible apply callK_pure<;>first | (simp only [eras,era,eras_map]; first | with_reducible exact ha | simpa using ha) | (simp -implicitDefEqProofs [h,hsc,hsc',Src.ql,h2,hxc,hxc',Item.c])))
     ·rw [hv] at ha
      have hfin : ∃z':Nat,(z'≤s.items.length∧∀y∈s.items.take z',amtB y.amt=true)∧s.items.length-z'<s.items.length-j∧(z':Int)=(j:Int)+1:=by
       refine⟨j+1,⟨by omega,fun y hy=>?_⟩,by omega,by push_cast; rfl⟩
       rw [take_next hx] at hy
       rcases List.mem_append.1 hy with h1 | h1
       ·exact hjb y h1
       ·simp at h1; subst h1; exact hv
      obtain⟨i1,i2,i3,i4,i5,i6,i7⟩:=x
      ((try simp at ha); (try simp -implicitDefEqProofs [h,hsc,hsc',Src.ql,h2,hxc,hxc',Item.c,e5]); repeat' first | ((with_reducible first | apply gdK_em | apply cdK_em | apply pickK_em)<;>(intro hc; have hc':=hc; (try simp at hc'); simp -implicitDefEqProofs [hc,hc',h,hsc,hsc',Src.ql,h2,hxc,hxc',Item.c,e5])) | (with_reducible apply callK_pure<;>first | (simp only [eras,era,eras_map]; first | with_reducible exact ha | simpa using ha) | (simp -implicitDefEqProofs [h,hsc,hsc',Src.ql,h2,hxc,hxc',Item.c,e5])))
      exact hfin
    ·have hje:j=s.items.length:=by omega
     subst hje
     rw [List.take_of_length_le (Nat.le_refl _)] at hjb
     have ha:(s.items.any fun x=>!amtB x.amt)=false:=by
      rw [List.any_eq_false]; intro y hy; simp [hjb y hy]
     have hn:=hnext (by rw [hrest,ha])
     have hfin : ∃z':Nat,(z'≤l.length∧∀j,j<z'→badS l j (l.getD j ⟨0,false,0,0,[]⟩)=false)∧l.length-z'<l.length-k∧(z':Int)=(k:Int)+1:=⟨k+1,⟨by omega,hn⟩,by omega,by push_cast; rfl⟩
     ((try simp -implicitDefEqProofs [h,hsc,hsc',Src.ql,e3]); repeat' first | ((with_reducible first | apply gdK_em | apply cdK_em | apply pickK_em)<;>(intro hc; have hc':=hc; (try simp at hc'); simp -implicitDefEqProofs [hc,hc',h,hsc,hsc',Src.ql,e3])))
     simpa [List.getD_eq_getElem?_getD] using hfin
 ·have hkk:k=l.length:=by omega
  subst hkk
  have hRt:R=true:=by
   rw [hok]
   exact List.all_eq_true.2 fun j hj=>by rw [hb j (List.mem_range.1 hj)]; rfl
  rw [hRt]
  ((try simp -implicitDefEqProofs [Src.ql]); repeat' first | ((with_reducible first | apply gdK_em | apply cdK_em | apply pickK_em)<;>(intro hc; have hc':=hc; (try simp at hc'); simp -implicitDefEqProofs [hc,hc',Src.ql])))
end Go.Proofs.YtmlpmdccfmmpoaaGreat
set_option linter.unusedSimpArgs false
set_option linter.unusedVariables false
set_option maxHeartbeats 4000000
set_option maxRecDepth 8000
namespace Go.Proofs.YtmlpmdccfmmpoaaGreat
open E

theorem leB_tb (n m:Nat) (e:TypeId) (z:Nat) (l:List T):E.leB n m (.buf e z (l.map .t)) (.buf e z (l.map .t)):=⟨rfl,rfl,LeL_refl _,okNs_map _ _ _⟩
theorem LeBs.dead {n m:Nat} : ∀(D:List Bx),LeBs n m D (List.replicate D.length .dead)
 | []=>trivial
 | x::D=>⟨trivial,LeBs.dead D⟩
theorem LeBs.append {n m:Nat} : ∀{A A' l l':List Bx},LeBs n m A A'→LeBs n m l l'→A.length=A'.length→LeBs n m (A++l) (A'++l')
 | [],[],_,_,_,h,_=>h
 | a::A,b::B,l,l',h,h2,hl=>⟨h.1,LeBs.append h.2 h2 (by simpa using hl)⟩
theorem rows_any {α:Type} {c:α→List T} {z:Nat} (hz : ∀x,(c x).length=z) (o:List α):rowsT z o.length (o.flatMap c)=some (o.map c):=by
 have hl:(o.flatMap c).length=o.length*z:=by
  induction o with
  | nil=>simp
  | cons x o ih=>simp only [List.flatMap_cons,List.length_append,hz,ih,List.length_cons,Nat.succ_mul]; omega
 unfold rowsT
 rw [if_pos hl]
 congr 1
 clear hl
 induction o with
 | nil=>rfl
 | cons x o ih=>
  rw [List.length_cons,List.range_succ_eq_map,List.map_cons,List.map_cons,List.flatMap_cons,List.map_map]
  congr 1
  ·simp [hz]
  ·rw [←ih]
   apply List.map_congr_left
   intro i _
   simp only [Function.comp_apply,Nat.succ_mul]
   rw [Nat.add_comm (i*z) z,←List.drop_drop,List.drop_left' (hz x)]
end Go.Proofs.YtmlpmdccfmmpoaaGreat
set_option linter.unusedSimpArgs false
set_option linter.unusedVariables false
set_option maxHeartbeats 4000000
set_option maxRecDepth 8000
namespace Go.Proofs.YtmlpmdccfmmpoaaGreat
open E

end Go.Proofs.YtmlpmdccfmmpoaaGreat
