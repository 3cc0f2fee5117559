/- Integers of any length: made of numbers, compared. -/
import Derived.Test.YtmlpmdccfmmpoaaGreatIn1
set_option linter.unusedSimpArgs false
set_option linter.unusedVariables false
set_option maxHeartbeats 1000000
set_option maxRecDepth 8000
namespace Go.Proofs.YtmlpmdccfmmpoaaGreat
open E

theorem u64w {x:Nat} (h:x<18446744073709551616):IntKind.u64.wrap (x:Int)=(x:Int):=IntWalk.u64_in _ (by omega)
theorem u32w {x:Nat} (h:x<4294967296):IntKind.u32.wrap (x:Int)=(x:Int):=IntWalk.u32_in _ (by omega)
theorem i64w {x:Nat} (h:x<9223372036854775808):IntKind.i64.wrap (x:Int)=(x:Int):=wrap64 (by omega) (by omega)
theorem w_Of {n:Int} (h1 : -9223372036854775808≤n) (h2:n≤9223372036854775807):Pure Tryz.prog 40 [vI n] (iV b9 .u32 n):=by
 have hu:IntKind.u64.wrap n=if n<0 then n+18446744073709551616 else n:=by
  rw [IntKind.wrap_u64]; split<;>omega
 obtain⟨N,hN⟩ : ∃N,N=n.natAbs:=⟨_,rfl⟩
 have hNb:N≤9223372036854775808:=by omega
 have hst:(if n<0 then IntKind.u64.wrap (-(IntKind.u64.wrap n)) else IntKind.u64.wrap n)=(N:Int):=by
  by_cases h:n<0
  ·rw [if_pos h,hu,if_pos h,show -(n+18446744073709551616) = -n-18446744073709551616 by omega,IntKind.wrap_u64]; omega
  ·rw [if_neg h,hu,if_neg h]; omega
 unfold iV iC lT
 rw [←hN]
 (refine Pure.of_code mix Tryz.call40 k_40 (by simp) (fun hB=>?_); (try simp at hB); (try simp -implicitDefEqProofs [qc_40]))
 rcases (by omega:n<0∨¬n<0) with hd | hd
 all_goals first | rw [if_pos hd] at hst | rw [if_neg hd] at hst
 all_goals ((try simp -implicitDefEqProofs [hst,hd]); repeat' first | ((with_reducible first | apply gdK_em | apply cdK_em | apply pickK_em)<;>(intro hc; have hc':=hc; (try simp at hc'); simp -implicitDefEqProofs [hc,hc',hst,hd])))
 all_goals
  refine loop_grow [(.slot 4,137,1)] (X:=List Nat×Nat) (fun X=>X.1++lims b9 X.2=lims b9 N∧X.2≤N) (fun X=>[(0,vI n),(2,.ptr 0 0),(3,.t (.int .u64 X.2)),(4,.own 0 137 1 (lE .u32 X.1))]) (fun X=>⟨[.cells [.t (.bool false),.snil]],[X.1.length]⟩) (fun X=>X.2) ([],N) ⟨rfl,Nat.le_refl _⟩ ?_ ?_
 all_goals first | (simp [lE_nil]; done) | skip
 all_goals
  rintro ⟨l,m⟩ ⟨hl,hm⟩ hbd
  simp only [] at hl hm
  clear hbd
  by_cases m0:m=0
  ·subst m0
   rw [lims_zero,List.append_nil] at hl
   rw [←hl]
   ((try simp -implicitDefEqProofs [hd]); repeat' first | ((with_reducible first | apply gdK_em | apply cdK_em | apply pickK_em)<;>(intro hc; have hc':=hc; (try simp at hc'); simp -implicitDefEqProofs [hc,hc',hd])))
  ·have hl2:=hl
   rw [lims_pos b9_2 m0] at hl2
   obtain⟨d,hdd⟩ : ∃d,d=m % b9:=⟨_,rfl⟩
   obtain⟨q,hq⟩ : ∃q,q=m / b9:=⟨_,rfl⟩
   rw [←hdd,←hq] at hl2
   have r1:(m:Int).tmod 1000000000=(d:Int):=by rw [hdd]; rfl
   have r2:IntKind.u64.wrap (d:Int)=(d:Int):=u64w (by rw [hdd]; unfold b9; omega)
   have r3:IntKind.u32.wrap (d:Int)=(d:Int):=u32w (by rw [hdd]; unfold b9; omega)
   have q1:(m:Int).tdiv 1000000000=(q:Int):=by rw [hq]; rfl
   have q2:IntKind.u64.wrap (q:Int)=(q:Int):=u64w (by rw [hq]; unfold b9; omega)
   have hlt:q<m:=by rw [hq]; exact Nat.div_lt_self (by omega) (by decide)
   have m1:0<m:=by omega
   have hlen:l.length≤1000:=by
    have:=congrArg List.length hl
    rw [List.length_append] at this
    have h3:=lims_len (B:=b9) (n:=N) (k:=3) b9_2 (by unfold b9; omega)
    omega
   ((try simp -implicitDefEqProofs [r1,r2,r3,q1,q2,m1,maxLen]); repeat' first | ((with_reducible first | apply gdK_em | apply cdK_em | apply pickK_em)<;>(intro hc; have hc':=hc; (try simp at hc'); simp -implicitDefEqProofs [hc,hc',r1,r2,r3,q1,q2,m1,maxLen])))
   exact⟨⟨by omega,by omega⟩,l++[d],q,⟨by rw [List.append_assoc]; exact hl2,by omega⟩,hlt,by simp,rfl,by rw [lE_app]; exact .inl (.inl rfl)⟩
theorem w_rOf {n:Int} (h1 : -9223372036854775808≤n) (h2:n≤9223372036854775807):Pure Tryz.prog 42 [vI n] (iV b4 .i64 n):=by
 have hs:=w_rsigned (decide (n<0)) (lims_lim b4_2 n.natAbs)
 rw [lvl_lims b4_2] at hs
 have hsg:sgnI (decide (n<0)) n.natAbs=n:=by unfold sgnI; by_cases h:n<0<;>simp [h]<;>omega
 rw [hsg] at hs
 unfold iV iC lT at *
 (refine Pure.of_code mix Tryz.call42 k_42 (by simp) (fun hB=>?_); (try simp at hB); (try simp -implicitDefEqProofs [qc_42]))
 refine loop_grow [(.slot 3,3,1)] (X:=List Nat×Int) (fun X=>X.1++lims b4 X.2.natAbs=lims b4 n.natAbs∧X.2.natAbs≤n.natAbs∧(X.2<0→n<0)∧(0<X.2→0<n)) (fun X=>[(0,vI n),(2,.ptr 0 0),(3,.own 0 3 1 (lE .i64 X.1)),(4,vI X.2)]) (fun X=>⟨[.cells [.t (.bool false),.snil]],[X.1.length]⟩) (fun X=>X.2.natAbs) ([],n) ⟨rfl,Nat.le_refl _,id,id⟩ ?hs ?_
 case hs=>simp [lE_nil]
 rintro ⟨l,m⟩ ⟨hl,hm,hs1,hs2⟩ hbd
 simp only [] at hl hm hs1 hs2
 clear hbd
 by_cases m0:m=0
 ·subst m0
  rw [Int.natAbs_zero,lims_zero,List.append_nil] at hl
  rw [←hl] at hs ⊢
  ((try simp at hs); (try simp -implicitDefEqProofs); repeat' first | ((with_reducible first | apply gdK_em | apply cdK_em | apply pickK_em)<;>(intro hc; have hc':=hc; (try simp at hc'); simp -implicitDefEqProofs [hc,hc'])) | (with_reducible apply callK_pure<;>first | (simp only [eras,era,eras_map]; first | with_reducible exact hs | simpa using hs) | (simp -implicitDefEqProofs)))
 ·have hl2:=hl
  rw [lims_pos b4_2 (show m.natAbs≠0 by omega)] at hl2
  obtain⟨d,hdd⟩ : ∃d,d=m.natAbs % b4:=⟨_,rfl⟩
  obtain⟨q,hq⟩ : ∃q:Int,q=m.tdiv 10000:=⟨_,rfl⟩
  have hqa:m.natAbs / b4=q.natAbs:=by rw [hq,Int.natAbs_tdiv]; rfl
  rw [←hdd,hqa] at hl2
  have r1:m.tmod 10000=if m<0 then -(d:Int) else (d:Int):=by
   rw [hdd]; unfold b4
   by_cases h:m<0
   ·rw [if_pos h]
    have e:m = -((m.natAbs:Nat):Int):=by omega
    conv=>lhs; rw [e]
    rw [Int.neg_tmod]; rfl
   ·rw [if_neg h]
    have e:m=((m.natAbs:Nat):Int):=by omega
    conv=>lhs; rw [e]
    rfl
  have hlt:q.natAbs<m.natAbs:=by rw [←hqa]; exact Nat.div_lt_self (by omega) (by decide)
  have hqs1:q<0→m<0:=fun h=>by
   rcases Int.lt_or_le m 0 with h3 | h3
   ·exact h3
   ·have:=Int.tdiv_nonneg h3 (show (0:Int)≤10000 by decide); omega
  have hqs2:0<q→0<m:=fun h=>by
   rcases Int.lt_or_le 0 m with h3 | h3
   ·exact h3
   ·have h4:=Int.tdiv_nonneg (show (0:Int)≤-m by omega) (show (0:Int)≤10000 by decide)
    rw [Int.neg_tdiv] at h4; omega
  have q2:IntKind.i64.wrap q=q:=wrap64 (by omega) (by omega)
  have hdb:d<10000:=by rw [hdd]; unfold b4; omega
  have m1:(m != 0)=true:=by simpa using m0
  have hlen:l.length≤1000:=by
   have:=congrArg List.length hl
   rw [List.length_append] at this
   have h3:=lims_len (B:=b4) (n:=n.natAbs) (k:=5) b4_2 (by unfold b4; omega)
   omega
  by_cases hmn:m<0
  ·rw [if_pos hmn] at r1
   have r2:IntKind.i64.wrap (-(d:Int)) = -(d:Int):=wrap64 (by omega) (by omega)
   have r3:IntKind.i64.wrap (d:Int)=(d:Int):=wrap64 (by omega) (by omega)
   by_cases d0:d=0
   ·subst d0
    have r1:m.tmod 10000=0:=by simpa using r1
    ((try simp -implicitDefEqProofs [r1,←hq,q2,m1,maxLen,m0]); repeat' first | ((with_reducible first | apply gdK_em | apply cdK_em | apply pickK_em)<;>(intro hc; have hc':=hc; (try simp at hc'); simp -implicitDefEqProofs [hc,hc',r1,←hq,q2,m1,maxLen,m0])))
    all_goals exact⟨⟨by omega,by omega⟩,l++[0],q,⟨by rw [List.append_assoc]; exact hl2,by omega,by omega,by omega⟩,hlt,by simp,by rw [lE_app]; exact .inl (.inl rfl),rfl⟩
   ·have d1 : -(d:Int)<0:=by omega
    have d2:0<d:=by omega
    ((try simp -implicitDefEqProofs [r1,r2,r3,d1,d2,←hq,q2,m1,maxLen,m0]); repeat' first | ((with_reducible first | apply gdK_em | apply cdK_em | apply pickK_em)<;>(intro hc; have hc':=hc; (try simp at hc'); simp -implicitDefEqProofs [hc,hc',r1,r2,r3,d1,d2,←hq,q2,m1,maxLen,m0])))
    exact⟨⟨by omega,by omega⟩,l++[d],q,⟨by rw [List.append_assoc]; exact hl2,by omega,by omega,by omega⟩,hlt,by simp,by rw [lE_app]; exact .inl (.inl rfl),rfl⟩
  ·rw [if_neg hmn] at r1
   have r3:IntKind.i64.wrap (d:Int)=(d:Int):=wrap64 (by omega) (by omega)
   have d1 : ¬(d:Int)<0:=by omega
   ((try simp -implicitDefEqProofs [r1,r3,d1,←hq,q2,m1,maxLen,m0]); repeat' first | ((with_reducible first | apply gdK_em | apply cdK_em | apply pickK_em)<;>(intro hc; have hc':=hc; (try simp at hc'); simp -implicitDefEqProofs [hc,hc',r1,r3,d1,←hq,q2,m1,maxLen,m0])))
   exact⟨⟨by omega,by omega⟩,l++[d],q,⟨by rw [List.append_assoc]; exact hl2,by omega,by omega,by omega⟩,hlt,by simp,by rw [lE_app]; exact .inl (.inl rfl),rfl⟩
theorem w_cmpL (x y:Nat):Pure Tryz.prog 118 [.t (lT .u32 (lims b9 x)),.t (lT .u32 (lims b9 y))] (vI (cmpN x y)):=by
 unfold lT
 by_cases hl:(lims b9 x).length=(lims b9 y).length
 ·have hl':(((lims b9 x).length:Int) != ((lims b9 y).length:Int))=false:=by simp [hl]
  (refine Pure.of_code mix Tryz.call118 k_118 (by simp) (fun hB=>?_); (try simp at hB); (try simp -implicitDefEqProofs [qc_118]))
  ((try simp -implicitDefEqProofs [hl']); repeat' first | ((with_reducible first | apply gdK_em | apply cdK_em | apply pickK_em)<;>(intro hc; have hc':=hc; (try simp at hc'); simp -implicitDefEqProofs [hc,hc',hl'])))
  refine loop_rule (X:=Nat) (fun k=>k≤(lims b9 x).length∧∀j,k≤j→(lims b9 x)[j]?=(lims b9 y)[j]?) (fun k=>[(0,.t (.sl (lE .u32 (lims b9 x)))),(1,.t (.sl (lE .u32 (lims b9 y)))),(5,vI ((k:Int)-1))]) (fun _=>⟨[],[]⟩) (fun k=>k) (lims b9 x).length ⟨by omega,fun j hj=>by rw [List.getElem?_eq_none hj,List.getElem?_eq_none (by omega)]⟩ ?hs ?_
  case hs=>simp; exact (wrap64 (by omega) (by simp [maxLen] at hB; omega)).symm
  rintro k ⟨hk,he⟩ hbd
  clear hbd
  rcases Nat.eq_zero_or_pos k with k0 | k0
  ·subst k0
   have e:lims b9 x=lims b9 y:=by
    apply List.ext_getElem?
    intro j; exact he j (by omega)
   rw [cmp_same b9_2 e]
   ((try simp -implicitDefEqProofs); repeat' first | ((with_reducible first | apply gdK_em | apply cdK_em | apply pickK_em)<;>(intro hc; have hc':=hc; (try simp at hc'); simp -implicitDefEqProofs [hc,hc'])))
  ·obtain⟨u,hu⟩:=get_of_lt (show k-1<(lims b9 x).length by omega)
   obtain⟨v,hv⟩:=get_of_lt (show k-1<(lims b9 y).length by omega)
   have g1:=lE_get (k:=.u32) hu
   have g2:=lE_get' (k:=.u32) hu
   have g3:=lE_get (k:=.u32) hv
   have g4:=lE_get' (k:=.u32) hv
   have i1:((k:Int)-1).toNat=k-1:=by omega
   have j1:(1:Int)≤k:=by omega
   have j2:(k:Int)-1<((lims b9 x).length:Int):=by omega
   have j3:(k:Int)-1<((lims b9 y).length:Int):=by omega
   have e3:IntKind.i64.wrap ((k:Int)-1-1)=(k:Int)-1-1:=wrap64 (by omega) (by simp [maxLen] at hB; omega)
   by_cases huv:u=v
   ·subst huv
    ((try simp -implicitDefEqProofs [g1,g2,g3,g4,i1,j1,j2,j3,e3]); repeat' first | ((with_reducible first | apply gdK_em | apply cdK_em | apply pickK_em)<;>(intro hc; have hc':=hc; (try simp at hc'); simp -implicitDefEqProofs [hc,hc',g1,g2,g3,g4,i1,j1,j2,j3,e3])))
    refine⟨k-1,⟨by omega,fun j hj=>?_⟩,by omega,by omega⟩
    by_cases hjk:j=k-1
    ·subst hjk; rw [hu,hv]
    ·exact he j (by omega)
   ·rw [cmp_lims b9_2 hl (k-1) (fun j hj=>he j (by omega)) hu hv huv]
    have h3:((u:Int) != (v:Int))=true:=by simp; omega
    by_cases h4:u<v
    ·((try simp -implicitDefEqProofs [g1,g2,g3,g4,i1,j1,j2,j3,h3,h4]); repeat' first | ((with_reducible first | apply gdK_em | apply cdK_em | apply pickK_em)<;>(intro hc; have hc':=hc; (try simp at hc'); simp -implicitDefEqProofs [hc,hc',g1,g2,g3,g4,i1,j1,j2,j3,h3,h4])))
    ·((try simp -implicitDefEqProofs [g1,g2,g3,g4,i1,j1,j2,j3,h3,h4]); repeat' first | ((with_reducible first | apply gdK_em | apply cdK_em | apply pickK_em)<;>(intro hc; have hc':=hc; (try simp at hc'); simp -implicitDefEqProofs [hc,hc',g1,g2,g3,g4,i1,j1,j2,j3,h3,h4])))
 ·rw [cmp_lens b9_2 hl]
  have hl':(((lims b9 x).length:Int) != ((lims b9 y).length:Int))=true:=by simp; omega
  (refine Pure.of_code mix Tryz.call118 k_118 (by simp) (fun hB=>?_); (try simp at hB); (try simp -implicitDefEqProofs [qc_118]))
  by_cases h4:(lims b9 x).length<(lims b9 y).length
  ·((try simp -implicitDefEqProofs [hl',h4]); repeat' first | ((with_reducible first | apply gdK_em | apply cdK_em | apply pickK_em)<;>(intro hc; have hc':=hc; (try simp at hc'); simp -implicitDefEqProofs [hc,hc',hl',h4])))
  ·((try simp -implicitDefEqProofs [hl',h4]); repeat' first | ((with_reducible first | apply gdK_em | apply cdK_em | apply pickK_em)<;>(intro hc; have hc':=hc; (try simp at hc'); simp -implicitDefEqProofs [hc,hc',hl',h4])))
theorem w_rcmpL (x y:Nat):Pure Tryz.prog 122 [.t (lT .i64 (lims b4 x)),.t (lT .i64 (lims b4 y))] (vI (cmpN x y)):=by
 unfold lT
 by_cases hl:(lims b4 x).length=(lims b4 y).length
 ·have hl':(((lims b4 x).length:Int) != ((lims b4 y).length:Int))=false:=by simp [hl]
  (refine Pure.of_code mix Tryz.call122 k_122 (by simp) (fun hB=>?_); (try simp at hB); (try simp -implicitDefEqProofs [qc_122]))
  ((try simp -implicitDefEqProofs [hl']); repeat' first | ((with_reducible first | apply gdK_em | apply cdK_em | apply pickK_em)<;>(intro hc; have hc':=hc; (try simp at hc'); simp -implicitDefEqProofs [hc,hc',hl'])))
  refine loop_rule (X:=Nat) (fun k=>k≤(lims b4 x).length∧∀j,k≤j→(lims b4 x)[j]?=(lims b4 y)[j]?) (fun k=>[(0,.t (.sl (lE .i64 (lims b4 x)))),(1,.t (.sl (lE .i64 (lims b4 y)))),(5,vI ((k:Int)-1))]) (fun _=>⟨[],[]⟩) (fun k=>k) (lims b4 x).length ⟨by omega,fun j hj=>by rw [List.getElem?_eq_none hj,List.getElem?_eq_none (by omega)]⟩ ?hs ?_
  case hs=>simp; exact (wrap64 (by omega) (by simp [maxLen] at hB; omega)).symm
  rintro k ⟨hk,he⟩ hbd
  clear hbd
  rcases Nat.eq_zero_or_pos k with k0 | k0
  ·subst k0
   have e:lims b4 x=lims b4 y:=by
    apply List.ext_getElem?
    intro j; exact he j (by omega)
   rw [cmp_same b4_2 e]
   ((try simp -implicitDefEqProofs); repeat' first | ((with_reducible first | apply gdK_em | apply cdK_em | apply pickK_em)<;>(intro hc; have hc':=hc; (try simp at hc'); simp -implicitDefEqProofs [hc,hc'])))
  ·obtain⟨u,hu⟩:=get_of_lt (show k-1<(lims b4 x).length by omega)
   obtain⟨v,hv⟩:=get_of_lt (show k-1<(lims b4 y).length by omega)
   have g1:=lE_get (k:=.i64) hu
   have g2:=lE_get' (k:=.i64) hu
   have g3:=lE_get (k:=.i64) hv
   have g4:=lE_get' (k:=.i64) hv
   have i1:((k:Int)-1).toNat=k-1:=by omega
   have j1:(1:Int)≤k:=by omega
   have j2:(k:Int)-1<((lims b4 x).length:Int):=by omega
   have j3:(k:Int)-1<((lims b4 y).length:Int):=by omega
   have e3:IntKind.i64.wrap ((k:Int)-1-1)=(k:Int)-1-1:=wrap64 (by omega) (by simp [maxLen] at hB; omega)
   by_cases huv:u=v
   ·subst huv
    ((try simp -implicitDefEqProofs [g1,g2,g3,g4,i1,j1,j2,j3,e3]); repeat' first | ((with_reducible first | apply gdK_em | apply cdK_em | apply pickK_em)<;>(intro hc; have hc':=hc; (try simp at hc'); simp -implicitDefEqProofs [hc,hc',g1,g2,g3,g4,i1,j1,j2,j3,e3])))
    all_goals refine⟨k-1,⟨by omega,fun j hj=>?_⟩,by omega,by omega⟩
    all_goals by_cases hjk:j=k-1
    all_goals first | exact he j (by omega) | (subst hjk; rw [hu,hv])
   ·rw [cmp_lims b4_2 hl (k-1) (fun j hj=>he j (by omega)) hu hv huv]
    have h3:((u:Int) != (v:Int))=true:=by simp; omega
    by_cases h4:u<v
    ·((try simp -implicitDefEqProofs [g1,g2,g3,g4,i1,j1,j2,j3,h3,h4]); repeat' first | ((with_reducible first | apply gdK_em | apply cdK_em | apply pickK_em)<;>(intro hc; have hc':=hc; (try simp at hc'); simp -implicitDefEqProofs [hc,hc',g1,g2,g3,g4,i1,j1,j2,j3,h3,h4])))
    ·have h5:v<u:=by omega
     ((try simp -implicitDefEqProofs [g1,g2,g3,g4,i1,j1,j2,j3,h3,h4,h5]); repeat' first | ((with_reducible first | apply gdK_em | apply cdK_em | apply pickK_em)<;>(intro hc; have hc':=hc; (try simp at hc'); simp -implicitDefEqProofs [hc,hc',g1,g2,g3,g4,i1,j1,j2,j3,h3,h4,h5])))
 ·rw [cmp_lens b4_2 hl]
  have hl':(((lims b4 x).length:Int) != ((lims b4 y).length:Int))=true:=by simp; omega
  (refine Pure.of_code mix Tryz.call122 k_122 (by simp) (fun hB=>?_); (try simp at hB); (try simp -implicitDefEqProofs [qc_122]))
  by_cases h4:(lims b4 x).length<(lims b4 y).length
  ·((try simp -implicitDefEqProofs [hl',h4]); repeat' first | ((with_reducible first | apply gdK_em | apply cdK_em | apply pickK_em)<;>(intro hc; have hc':=hc; (try simp at hc'); simp -implicitDefEqProofs [hc,hc',hl',h4])))
  ·((try simp -implicitDefEqProofs [hl',h4]); repeat' first | ((with_reducible first | apply gdK_em | apply cdK_em | apply pickK_em)<;>(intro hc; have hc':=hc; (try simp at hc'); simp -implicitDefEqProofs [hc,hc',hl',h4])))
theorem cmp_sgn (x y:Int) (h:sgn x=sgn y):(if x<0 then cmpN y.natAbs x.natAbs else cmpN x.natAbs y.natAbs)=if x<y then -1 else if y<x then 1 else 0:=by
 unfold sgn at h
 unfold cmpN
 by_cases h1:x<0<;>by_cases h2:y<0<;>simp only [h1,h2,if_true,if_false] at h ⊢
 ·repeat' split
  all_goals omega
 ·split at h<;>omega
 ·split at h<;>omega
 ·repeat' split
  all_goals omega
def cmpI (x y:Int):Int:=if x<y then -1 else if y<x then 1 else 0
theorem w_Cmp (x y:Int):Pure Tryz.prog 106 [iV b9 .u32 x,iV b9 .u32 y] (vI (cmpI x y)):=by
 have s1:=w_Sign x
 have s2:=w_Sign y
 have c1:=w_cmpL x.natAbs y.natAbs
 have c2:=w_cmpL y.natAbs x.natAbs
 have hc:=cmp_sgn x y
 unfold cmpI
 by_cases hs:sgn x=sgn y
 ·have hs':(sgn x != sgn y)=false:=by simp [hs]
  rw [←hc hs]
  unfold iV iC lT at *
  by_cases hx:x<0
  ·have hd:decide (x<0)=true:=by simp [hx]
   rw [if_pos hx]
   simp only [hd] at s1 c1 c2 ⊢
   (refine Pure.of_code mix Tryz.call106 k_106 (by simp) (fun hB=>?_); (try simp at hB); (try simp -implicitDefEqProofs [qc_106]))
   ((try simp at s1); (try simp at s2); (try simp at c1); (try simp at c2); (try simp -implicitDefEqProofs [hs']); repeat' first | ((with_reducible first | apply gdK_em | apply cdK_em | apply pickK_em)<;>(intro hc; have hc':=hc; (try simp at hc'); simp -implicitDefEqProofs [hc,hc',hs'])) | (with_reducible apply callK_pure<;>first | (simp only [eras,era,eras_map]; first | with_reducible exact s1 | with_reducible exact s2 | with_reducible exact c1 | with_reducible exact c2 | simpa using s1 | simpa using s2 | simpa using c1 | simpa using c2) | (simp -implicitDefEqProofs [hs'])))
  ·have hd:decide (x<0)=false:=by simp [hx]
   rw [if_neg hx]
   simp only [hd] at s1 c1 c2 ⊢
   (refine Pure.of_code mix Tryz.call106 k_106 (by simp) (fun hB=>?_); (try simp at hB); (try simp -implicitDefEqProofs [qc_106]))
   ((try simp at s1); (try simp at s2); (try simp at c1); (try simp at c2); (try simp -implicitDefEqProofs [hs']); repeat' first | ((with_reducible first | apply gdK_em | apply cdK_em | apply pickK_em)<;>(intro hc; have hc':=hc; (try simp at hc'); simp -implicitDefEqProofs [hc,hc',hs'])) | (with_reducible apply callK_pure<;>first | (simp only [eras,era,eras_map]; first | with_reducible exact s1 | with_reducible exact s2 | with_reducible exact c1 | with_reducible exact c2 | simpa using s1 | simpa using s2 | simpa using c1 | simpa using c2) | (simp -implicitDefEqProofs [hs'])))
 ·have hs':(sgn x != sgn y)=true:=by simp; exact hs
  have hd:(if x<y then (-1:Int) else if y<x then 1 else 0)=if sgn x<sgn y then -1 else 1:=by
   unfold sgn at hs ⊢
   repeat' split at hs
   all_goals repeat' split
   all_goals first | rfl | omega
  rw [hd]
  unfold iV iC lT at *
  (refine Pure.of_code mix Tryz.call106 k_106 (by simp) (fun hB=>?_); (try simp at hB); (try simp -implicitDefEqProofs [qc_106]))
  by_cases hx:sgn x<sgn y
  ·((try simp at s1); (try simp at s2); (try simp -implicitDefEqProofs [hs',hx]); repeat' first | ((with_reducible first | apply gdK_em | apply cdK_em | apply pickK_em)<;>(intro hc; have hc':=hc; (try simp at hc'); simp -implicitDefEqProofs [hc,hc',hs',hx])) | (with_reducible apply callK_pure<;>first | (simp only [eras,era,eras_map]; first | with_reducible exact s1 | with_reducible exact s2 | simpa using s1 | simpa using s2) | (simp -implicitDefEqProofs [hs',hx])))
  ·((try simp at s1); (try simp at s2); (try simp -implicitDefEqProofs [hs',hx]); repeat' first | ((with_reducible first | apply gdK_em | apply cdK_em | apply pickK_em)<;>(intro hc; have hc':=hc; (try simp at hc'); simp -implicitDefEqProofs [hc,hc',hs',hx])) | (with_reducible apply callK_pure<;>first | (simp only [eras,era,eras_map]; first | with_reducible exact s1 | with_reducible exact s2 | simpa using s1 | simpa using s2) | (simp -implicitDefEqProofs [hs',hx])))
end Go.Proofs.YtmlpmdccfmmpoaaGreat
