/- Integers of any length: the reference's sums, differences and products of limbs. -/
import Derived.Test.YtmlpmdccfmmpoaaGreatIn4
set_option linter.unusedSimpArgs false
set_option linter.unusedVariables false
set_option maxHeartbeats 2000000
set_option maxRecDepth 8000
namespace Go.Proofs.YtmlpmdccfmmpoaaGreat
open E

theorem w_radd (x y:Nat) (hxl:(lims b4 x).length≤1000) (hyl:(lims b4 y).length≤1000):Pure Tryz.prog 139 [.t (lT .i64 (lims b4 x)),.t (lT .i64 (lims b4 y))] (.t (lT .i64 (addL b4 x y))):=by
 have hx:=lims_lim b4_2 x
 have hy:=lims_lim b4_2 y
 have hlx:=lvl_lims b4_2 x
 have hly:=lvl_lims b4_2 y
 have hst:=sum_lt b4_2 x y
 have hf1 : ∀o:List Nat,Lim b4 o→o.length=max (lims b4 x).length (lims b4 y).length→lvl b4 o=x+y→addL b4 x y=o:=fun o h1 h2 h3=>by
  have:=addL_eq (c:=0) b4_2 h1 h2 (by omega) (by rw [h3]; simp)
  rwa [if_pos rfl] at this
 have hf2 : ∀o:List Nat,Lim b4 o→o.length=max (lims b4 x).length (lims b4 y).length+1→lvl b4 o=x+y→b4 ^ max (lims b4 x).length (lims b4 y).length≤x+y→addL b4 x y=o:=fun o h1 h2 h3 h4=>by
  unfold addL
  simp only []
  rw [if_neg (by omega)]
  exact (pad_eq b4_0 h1 h2 h3).symm
 unfold lT
 generalize addL b4 x y=R at *
 generalize lims b4 x=a at *
 generalize lims b4 y=b at *
 obtain⟨m,hm⟩ : ∃m,m=max a.length b.length:=⟨_,rfl⟩
 rw [←hm] at hst hf1 hf2
 have ham:a.length≤m:=by omega
 have hbm:b.length≤m:=by omega
 have hm1:m≤1000:=by omega
 have hma:m=a.length∨m=b.length:=by omega
 clear hm
 (refine Pure.of_code mix Tryz.call139 k_139 (by simp) (fun hB=>?_); (try simp at hB); (try simp -implicitDefEqProofs [qc_139]))
 refine loop_grow [(.slot 5,3,1)] (X:=List Nat×Nat) (fun X=>Lim b4 X.1∧X.2≤1∧X.1.length≤m+1∧lvl b4 X.1+X.2*b4 ^ X.1.length=lvl b4 (a.take X.1.length)+lvl b4 (b.take X.1.length)∧(X.1.length=m+1→b4 ^ m≤x+y))
  (fun X=>[(0,.t (.sl (lE .i64 a))),(1,.t (.sl (lE .i64 b))),(5,.own 0 3 1 (lE .i64 X.1)),(6,vI X.2),(7,vI X.1.length)]) (fun X=>⟨[],[X.1.length]⟩) (fun X=>m+1-X.1.length) ([],0) ⟨(fun x hx=>by simp at hx),by simp,by simp,by simp [lvl],by simp⟩ ?hs ?_
 case hs=>simp [lE_nil]
 rintro ⟨o,c⟩ ⟨ho,hc,hol,he,hm2⟩ hbd
 simp only [] at ho hc hol he hm2
 clear hbd
 have e3:IntKind.i64.wrap ((o.length:Int)+1)=(o.length:Int)+1:=wrap64 (by omega) (by omega)
 have hcb:c*b4 ^ o.length=c*b4 ^ o.length:=rfl
 have step : ∀u v n q d:Nat,n=c+u+v→q=n / b4→d=n % b4→u<b4→v<b4→o.length≤m→(o.length=m→b4 ^ m≤x+y)→
   lvl b4 (a.take (o.length+1))=lvl b4 (a.take o.length)+b4 ^ o.length*u→lvl b4 (b.take (o.length+1))=lvl b4 (b.take o.length)+b4 ^ o.length*v→
   Lim b4 (o++[d])∧q≤1∧(o++[d]).length≤m+1∧lvl b4 (o++[d])+q*b4 ^ (o++[d]).length=lvl b4 (a.take (o++[d]).length)+lvl b4 (b.take (o++[d]).length)∧((o++[d]).length=m+1→b4 ^ m≤x+y):=fun u v n q d hn hq hd hu hv hlm hge ea eb=>by
  have hl1:(o++[d]).length=o.length+1:=by simp
  refine⟨ho.app (Lim.one (by rw [hd]; exact Nat.mod_lt _ b4_0)),?_,by omega,?_,fun h=>hge (by omega)⟩
  ·rw [hq,hn]; unfold b4 at hu hv ⊢; omega
  ·rw [hl1,hd,hq,hn,add_step rfl he,ea,eb,Nat.mul_add]; omega
 have ta:a.length≤o.length→lvl b4 (a.take (o.length+1))=lvl b4 (a.take o.length)+b4 ^ o.length*0:=fun h=>by rw [List.take_of_length_le (by omega),List.take_of_length_le h]; simp
 have tb:b.length≤o.length→lvl b4 (b.take (o.length+1))=lvl b4 (b.take o.length)+b4 ^ o.length*0:=fun h=>by rw [List.take_of_length_le (by omega),List.take_of_length_le h]; simp
 have full:a.length≤o.length→b.length≤o.length→lvl b4 o+c*b4 ^ o.length=x+y:=fun h1 h2=>by
  rw [he,List.take_of_length_le h1,List.take_of_length_le h2,hlx,hly]
 have fin : ∀u v:Nat,u<b4→v<b4→∃n q d:Nat,n=c+u+v∧q=n / b4∧d=n % b4∧(n:Int).tdiv 10000=(q:Int)∧IntKind.i64.wrap (q:Int)=(q:Int)∧(n:Int).tmod 10000=(d:Int)∧IntKind.i64.wrap (d:Int)=(d:Int)∧IntKind.i64.wrap ((c:Int)+(u:Int))=(c:Int)+(u:Int)∧IntKind.i64.wrap ((c:Int)+(u:Int)+(v:Int))=(n:Int)∧(v=0→(c:Int)+(u:Int)=(n:Int))∧(u=0→IntKind.i64.wrap ((c:Int)+(v:Int))=(n:Int)):=fun u v hu hv=>by
  refine⟨_,_,_,rfl,rfl,rfl,rfl,i64w ?_,rfl,i64w ?_,wrap64 (by omega) ?_,?_,fun h=>?_,fun h=>?_⟩
  all_goals unfold b4 at hu hv
  ·unfold b4; omega
  ·unfold b4; omega
  ·omega
  ·rw [wrap64 (by omega) (by omega)]; push_cast; rfl
  ·subst h; push_cast; omega
  ·subst h; rw [wrap64 (by omega) (by omega)]; push_cast; omega
 rcases Nat.lt_or_ge o.length a.length with h1 | h1
 ·obtain⟨u,hu⟩:=get_of_lt h1
  have g1:=lE_get (k:=.i64) hu
  have g2:=lE_get' (k:=.i64) hu
  rcases Nat.lt_or_ge o.length b.length with h2 | h2
  ·obtain⟨v,hv⟩:=get_of_lt h2
   have g3:=lE_get (k:=.i64) hv
   have g4:=lE_get' (k:=.i64) hv
   obtain⟨n,q,d,hn,hq,hd,k1,k2,k3,k4,k5,k6,k7,k8⟩:=fin u v (hx.at hu) (hy.at hv)
   have st:=step u v n q d hn hq hd (hx.at hu) (hy.at hv) (by omega) (fun h=>by omega) (lvl_take_next hu) (lvl_take_next hv)
   ((try simp -implicitDefEqProofs [h1,h2,g1,g2,g3,g4,k1,k2,k3,k4,k5,k6,e3,maxLen]); repeat' first | ((with_reducible first | apply gdK_em | apply cdK_em | apply pickK_em)<;>(intro hc; have hc':=hc; (try simp at hc'); simp -implicitDefEqProofs [hc,hc',h1,h2,g1,g2,g3,g4,k1,k2,k3,k4,k5,k6,e3,maxLen])))
   exact⟨⟨by omega,by omega⟩,o++[d],q,st,by simp; omega,by simp,by rw [lE_app]; exact .inl (.inl rfl),rfl,by simp⟩
  ·have h2' : ¬o.length<b.length:=by omega
   obtain⟨n,q,d,hn,hq,hd,k1,k2,k3,k4,k5,k6,k7,k8⟩:=fin u 0 (hx.at hu) b4_0
   have k7:=k7 rfl
   have st:=step u 0 n q d hn hq hd (hx.at hu) b4_0 (by omega) (fun h=>by omega) (lvl_take_next hu) (tb h2)
   rw [k7] at k5
   ((try simp -implicitDefEqProofs [h1,h2',g1,g2,k1,k2,k3,k4,k5,k7,e3,maxLen]); repeat' first | ((with_reducible first | apply gdK_em | apply cdK_em | apply pickK_em)<;>(intro hc; have hc':=hc; (try simp at hc'); simp -implicitDefEqProofs [hc,hc',h1,h2',g1,g2,k1,k2,k3,k4,k5,k7,e3,maxLen])))
   exact⟨⟨by omega,by omega⟩,o++[d],q,st,by simp; omega,by simp,by rw [lE_app]; exact .inl (.inl rfl),rfl,by simp⟩
 ·have h1' : ¬o.length<a.length:=by omega
  rcases Nat.lt_or_ge o.length b.length with h2 | h2
  ·obtain⟨v,hv⟩:=get_of_lt h2
   have g3:=lE_get (k:=.i64) hv
   have g4:=lE_get' (k:=.i64) hv
   obtain⟨n,q,d,hn,hq,hd,k1,k2,k3,k4,k5,k6,k7,k8⟩:=fin 0 v b4_0 (hy.at hv)
   have k8:=k8 rfl
   have st:=step 0 v n q d hn hq hd b4_0 (hy.at hv) (by omega) (fun h=>by omega) (ta h1) (lvl_take_next hv)
   ((try simp -implicitDefEqProofs [h1',h2,g3,g4,k1,k2,k3,k4,k8,e3,maxLen]); repeat' first | ((with_reducible first | apply gdK_em | apply cdK_em | apply pickK_em)<;>(intro hc; have hc':=hc; (try simp at hc'); simp -implicitDefEqProofs [hc,hc',h1',h2,g3,g4,k1,k2,k3,k4,k8,e3,maxLen])))
   exact⟨⟨by omega,by omega⟩,o++[d],q,st,by simp; omega,by simp,by rw [lE_app]; exact .inl (.inl rfl),rfl,by simp⟩
  ·have h2' : ¬o.length<b.length:=by omega
   have hf:=full h1 h2
   have hlm:m≤o.length:=by omega
   rcases (by omega:c=0∨c=1) with rfl | rfl
   ·rw [Nat.zero_mul,Nat.add_zero] at hf
    have hR:R=o:=by
     rcases (by omega:o.length=m∨o.length=m+1) with h | h
     ·exact hf1 o ho h hf
     ·exact hf2 o ho h hf (hm2 h)
    rw [hR]
    ((try simp -implicitDefEqProofs [h1',h2']); repeat' first | ((with_reducible first | apply gdK_em | apply cdK_em | apply pickK_em)<;>(intro hc; have hc':=hc; (try simp at hc'); simp -implicitDefEqProofs [hc,hc',h1',h2'])))
   ·have hom:o.length=m:=by
     rcases (by omega:o.length=m∨o.length=m+1) with h | h
     ·exact h
     ·rw [h] at hf; omega
    have hge:b4 ^ m≤x+y:=by rw [hom] at hf; omega
    have st:=step 0 0 1 0 1 rfl (by decide) (by decide) b4_0 b4_0 (by omega) (fun _=>hge) (ta h1) (tb h2)
    have k4:IntKind.i64.wrap 1=1:=by decide
    ((try simp -implicitDefEqProofs [h1',h2',e3,maxLen,k4]); repeat' first | ((with_reducible first | apply gdK_em | apply cdK_em | apply pickK_em)<;>(intro hc; have hc':=hc; (try simp at hc'); simp -implicitDefEqProofs [hc,hc',h1',h2',e3,maxLen,k4])))
    exact⟨⟨by omega,by omega⟩,o++[1],0,st,by simp; omega,by simp,by rw [lE_app]; exact .inl (.inl rfl),rfl,by simp⟩
end Go.Proofs.YtmlpmdccfmmpoaaGreat
