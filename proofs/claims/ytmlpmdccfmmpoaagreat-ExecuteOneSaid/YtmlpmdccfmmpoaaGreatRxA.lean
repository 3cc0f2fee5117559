/- Chapter 35's reference: sums, the stack. -/
import Derived.Test.YtmlpmdccfmmpoaaGreatLea
set_option linter.unusedSimpArgs false
set_option linter.unusedVariables false
set_option maxHeartbeats 4000000
set_option maxRecDepth 8000
namespace Go.Proofs.YtmlpmdccfmmpoaaGreat
open E

def qC (s:Src) (oth:Int) (sv lv pv:V):List V:=[vI s.ent,vB s.full,.t (.bool (nB s.num)),.t (.sl (qE s.num)),.t (.bool (nB s.den)),.t (.sl (qE s.den)),.t (.sl (s.items.map Item.c)),vI oth,sv,lv,pv]
theorem w_qsum (s:Src) (f t p:Int) (hlen:s.items.length≤1000) (hamt : ∀x∈s.items,amtB x.amt=true):Pure Tryz.prog 77 [s.qv,vI f,vI t,vI p] (vI (readN s.items f t (p == -2) p)):=by
 obtain⟨any,hany⟩ : ∃any,any=(p == -2):=⟨_,rfl⟩
 rw [←hany]
 have hit : ∀i1 i2:List T,True:=fun _ _=>trivial
 obtain⟨ent,full,num,den,items⟩:=s
 simp only [] at hlen hamt ⊢
 unfold Src.qv
 simp only []
 (refine Pure.of_code mix Tryz.call77 k_77 (by simp) (fun hB=>?_); (try simp at hB); (try simp -implicitDefEqProofs [qc_77]))
 refine loop_rule (X:=Nat) (fun k=>k≤items.length) (fun k=>[(1,vI f),(2,vI t),(3,vI p),(4,.ptr 0 0),(9,vI (readN (items.take k) f t any p)),(10,vI k)]) (fun _=>⟨[.cells [vI ent,vB full,.t (.bool (nB num)),.t (.sl (qE num)),.t (.bool (nB den)),.t (.sl (qE den)),.t (.sl (items.map Item.c))]],[]⟩) (fun k=>items.length-k) 0 (by omega) ?hs ?_
 case hs=>simp [readN]
 rintro k hk hbd
 clear hbd
 have e3:IntKind.i64.wrap ((k:Int)+1)=(k:Int)+1:=wrap64 (by omega) (by omega)
 rcases Nat.lt_or_ge k items.length with h | h
 ·obtain⟨x,hx⟩:=get_of_lt h
  have hnx:=readN_next hx f t p any
  have hbd:=readN_bd (f:=f) (t:=t) (p:=p) (any:=any) (l:=items.take (k+1)) (fun y hy=>hamt y (List.mem_of_mem_take hy))
  have hle:(items.take (k+1)).length≤1000:=by rw [List.length_take]; omega
  generalize readN (items.take k) f t any p=n at *
  generalize hn':readN (items.take (k+1)) f t any p=n' at *
  have hxc:(items.map Item.c)[k]?=some x.c:=by simp [hx]
  have hxc' : ∀h,(items.map Item.c)[k]'h=x.c:=fun h=>by rw [List.getElem?_eq_getElem h] at hxc; exact Option.some.inj hxc
  obtain⟨i1,i2,i3,i4,i5,i6,i7⟩:=x
  simp only [] at hnx
  by_cases hc:f≤i4∧i4≤t∧(any=true∨i5=p)
  ·rw [if_pos hc] at hnx
   obtain⟨c1,c2,c3⟩:=hc
   have w1:IntKind.i64.wrap (n+i7)=n':=by rw [←hnx]; exact wrap64 (by omega) (by omega)
   by_cases c4:p = -2
   ·have c4':(p == -2)=true:=by simpa using c4
    subst c4
    ((try simp -implicitDefEqProofs [h,hxc,hxc',Item.c,c1,c2,w1,e3]); repeat' first | ((with_reducible first | apply gdK_em | apply cdK_em | apply pickK_em)<;>(intro hc; have hc':=hc; (try simp at hc'); simp -implicitDefEqProofs [hc,hc',h,hxc,hxc',Item.c,c1,c2,w1,e3])))
    exact⟨k+1,by omega,by omega,by simp [hn']⟩
   ·have c4':(p == -2)=false:=by simpa using c4
    have c5:i5=p:=by rcases c3 with h | h; exact absurd (by rw [hany] at h; simpa using h) c4; exact h
    subst c5
    ((try simp -implicitDefEqProofs [h,hxc,hxc',Item.c,c1,c2,c4,c4',w1,e3]); repeat' first | ((with_reducible first | apply gdK_em | apply cdK_em | apply pickK_em)<;>(intro hc; have hc':=hc; (try simp at hc'); simp -implicitDefEqProofs [hc,hc',h,hxc,hxc',Item.c,c1,c2,c4,c4',w1,e3])))
    exact⟨k+1,by omega,by omega,by simp [hn']⟩
  ·rw [if_neg hc,Int.add_zero] at hnx
   by_cases c1:f≤i4
   ·by_cases c2:i4≤t
    ·have c3 : ¬p = -2∧¬i5=p:=by
      constructor
      ·intro h; exact hc ⟨c1,c2,.inl (by rw [hany]; simpa using h)⟩
      ·intro h; exact hc ⟨c1,c2,.inr h⟩
     have c4':(p == -2)=false:=by simpa using c3.1
     have c5:(i5==p)=false:=by simpa using c3.2
     ((try simp -implicitDefEqProofs [h,hxc,hxc',Item.c,c1,c2,c4',c5,e3]); repeat' first | ((with_reducible first | apply gdK_em | apply cdK_em | apply pickK_em)<;>(intro hc; have hc':=hc; (try simp at hc'); simp -implicitDefEqProofs [hc,hc',h,hxc,hxc',Item.c,c1,c2,c4',c5,e3])))
     exact⟨k+1,by omega,by omega,by simp [hn',hnx]⟩
    ·((try simp -implicitDefEqProofs [h,hxc,hxc',Item.c,c1,c2,e3]); repeat' first | ((with_reducible first | apply gdK_em | apply cdK_em | apply pickK_em)<;>(intro hc; have hc':=hc; (try simp at hc'); simp -implicitDefEqProofs [hc,hc',h,hxc,hxc',Item.c,c1,c2,e3])))
     exact⟨k+1,by omega,by omega,by simp [hn',hnx]⟩
   ·((try simp -implicitDefEqProofs [h,hxc,hxc',Item.c,c1,e3]); repeat' first | ((with_reducible first | apply gdK_em | apply cdK_em | apply pickK_em)<;>(intro hc; have hc':=hc; (try simp at hc'); simp -implicitDefEqProofs [hc,hc',h,hxc,hxc',Item.c,c1,e3])))
    exact⟨k+1,by omega,by omega,by simp [hn',hnx]⟩
 ·have hk':k=items.length:=by omega
  subst hk'
  rw [List.take_of_length_le (Nat.le_refl _)]
  ((try simp -implicitDefEqProofs); repeat' first | ((with_reducible first | apply gdK_em | apply cdK_em | apply pickK_em)<;>(intro hc; have hc':=hc; (try simp at hc'); simp -implicitDefEqProofs [hc,hc'])))
theorem w_qpop (b kb n:Nat) (B:List Bx) (hU : ∀m,LeBs B.length m B B) (s:Src) (oth:Int) (lv pv:V) (cs:List V) (v:Int) (h1:B[b]?=some (.cells (qC s oth (.bw kb (n+1)) lv pv))) (h2:B[kb]?=some (.buf 3 1 cs)) (h3:cs[n]?=some (vI v)) (hn:n+1≤1000000)
  (hlv:okN B.length 0 lv=true) (hpv:okN B.length 0 pv=true) :
  FnS Tryz.prog 54 [.ptr b 0] ⟨B,[]⟩ (vI v) ⟨B.set b (.cells (qC s oth (.bw kb n) lv pv)),[]⟩:=by
 have hkb:=lt_of_get h2
 have hcn:=lt_of_get h3
 have e1:IntKind.i64.wrap (n:Int)=(n:Int):=i64w (by omega)
 have j1:(n:Int)<(n:Int)+1:=by omega
 have j2:(n:Int)≤(n:Int)+1:=by omega
 have j3:n+1≤cs.length:=by omega
 have h3' : ∀h,cs[n]'h=vI v:=fun h=>by rw [List.getElem?_eq_getElem h] at h3; exact Option.some.inj h3
 have hfin:LeBs B.length 0 (B.set b (.cells (qC s oth (.bw kb n) lv pv))) (B.set b (.cells (qC s oth (.bw kb n) lv pv))):=LeBs.set (show E.leB B.length 0 (.cells _) (.cells _) from ⟨LeL_refl _,by unfold qC; simp [okNs,okN,hlv,hpv]; exact hkb⟩) b (hU 0)
 unfold qC at h1 hfin ⊢
 (refine FnS.of_code mix Tryz.call54 k_54 (by simp) (fun hB=>?_); (try simp at hB); (try simp -implicitDefEqProofs [qc_54]))
 ((try simp -implicitDefEqProofs [h1,h2,h3,h3',e1,j1,j2,j3,hcn,hfin]); repeat' first | ((with_reducible first | apply gdK_em | apply cdK_em | apply pickK_em)<;>(intro hc; have hc':=hc; (try simp at hc'); simp -implicitDefEqProofs [hc,hc',h1,h2,h3,h3',e1,j1,j2,j3,hcn,hfin])))
theorem w_qput0 (b:Nat) (B:List Bx) (hU:OkU B) (s:Src) (oth:Int) (lv pv:V) (v:Int) (ok:Bool) (h1:B[b]?=some (.cells (qC s oth .snil lv pv))) (hlv : ∀n,B.length≤n→okN n 0 lv=true) (hpv : ∀n,B.length≤n→okN n 0 pv=true) :
  FnS Tryz.prog 76 [.ptr b 0,vI v,vB ok] ⟨B,[]⟩ (vB (ok&&amtB v)) ⟨B.set b (.cells (qC s oth (.bw B.length 1) lv pv))++[.buf 3 1 [vI v]],[]⟩:=by
 have ha:=w_ramt v
 have hbl:=lt_of_get h1
 have h1E : ∀l:List Bx,(B++l)[b]?=some (.cells (qC s oth .snil lv pv)):=fun l=>app_ltU h1 l
 have hst : ∀(l:List Bx) (v:Bx),(B++l).set b v=B.set b v++l:=fun l v=>List.set_append_left _ _ hbl
 have hfin:LeBs (B.length+1) 0 (B.set b (.cells (qC s oth (.bw B.length 1) lv pv))++[.buf 3 1 [vI v]]) (B.set b (.cells (qC s oth (.bw B.length 1) lv pv))++[.buf 3 1 [vI v]]):=
  (LeBs.appU (LeBs.set (show E.leB _ _ (.cells _) (.cells _) from ⟨LeL_refl _,by unfold qC; simp [okNs,okN,hlv (B.length+1) (by omega),hpv (B.length+1) (by omega)]⟩) b (hU _ 0 (by omega)))).2 ⟨intb_le [v] _ _,trivial⟩
 unfold qC at h1 h1E hfin ⊢
 cases ok
 ·(refine FnS.of_codeB mix Tryz.call76 kb_76 (by simp) (fun hB=>?_); (try simp at hB); (try simp -implicitDefEqProofs [qb_76]))
  ((try simp -implicitDefEqProofs [h1,h1E,hst,maxLen,hfin]); repeat' first | ((with_reducible first | apply gdK_em | apply cdK_em | apply pickK_em)<;>(intro hc; have hc':=hc; (try simp at hc'); simp -implicitDefEqProofs [hc,hc',h1,h1E,hst,maxLen,hfin])))
 ·cases hv:amtB v
  ·rw [hv] at ha
   (refine FnS.of_codeB mix Tryz.call76 kb_76 (by simp) (fun hB=>?_); (try simp at hB); (try simp -implicitDefEqProofs [qb_76]))
   ((try simp at ha); (try simp -implicitDefEqProofs [h1,h1E,hst,maxLen,hfin]); repeat' first | ((with_reducible first | apply gdK_em | apply cdK_em | apply pickK_em)<;>(intro hc; have hc':=hc; (try simp at hc'); simp -implicitDefEqProofs [hc,hc',h1,h1E,hst,maxLen,hfin])) | (with_reducible apply callK_pure<;>first | (simp only [eras,era,eras_map]; first | with_reducible exact ha | simpa using ha) | (simp -implicitDefEqProofs [h1,h1E,hst,maxLen,hfin])))
  ·rw [hv] at ha
   (refine FnS.of_codeB mix Tryz.call76 kb_76 (by simp) (fun hB=>?_); (try simp at hB); (try simp -implicitDefEqProofs [qb_76]))
   ((try simp at ha); (try simp -implicitDefEqProofs [h1,h1E,hst,maxLen,hfin]); repeat' first | ((with_reducible first | apply gdK_em | apply cdK_em | apply pickK_em)<;>(intro hc; have hc':=hc; (try simp at hc'); simp -implicitDefEqProofs [hc,hc',h1,h1E,hst,maxLen,hfin])) | (with_reducible apply callK_pure<;>first | (simp only [eras,era,eras_map]; first | with_reducible exact ha | simpa using ha) | (simp -implicitDefEqProofs [h1,h1E,hst,maxLen,hfin])))
theorem w_qput1 (b kb n:Nat) (B:List Bx) (hU:OkU B) (s:Src) (oth:Int) (lv pv:V) (v:Int) (ok:Bool) (st:List Int) (cs:List V) (h1:B[b]?=some (.cells (qC s oth (.bw kb st.length) lv pv))) (h2:B[kb]?=some (.buf 3 1 cs)) (h3:cs.take st.length=st.reverse.map vI) (hn:st.length≤1000) (hlv : ∀n,B.length≤n→okN n 0 lv=true) (hpv : ∀n,B.length≤n→okN n 0 pv=true) :
  FnS Tryz.prog 76 [.ptr b 0,vI v,vB ok] ⟨B,[]⟩ (vB (ok&&amtB v)) ⟨(B.set kb .dead).set b (.cells (qC s oth (.bw B.length (st.length+1)) lv pv))++[.buf 3 1 ((v::st).reverse.map vI)],[]⟩:=by
 have ha:=w_ramt v
 have hbl:=lt_of_get h1
 have hkl:=lt_of_get h2
 have hne:kb≠b:=fun e=>by rw [e,h1] at h2; cases h2
 have hcl:st.length≤cs.length:=by have:=congrArg List.length h3; simp at this; omega
 have h1E : ∀(l:List Bx),(B.set kb .dead++l)[b]?=some (.cells (qC s oth (.bw kb st.length) lv pv)):=fun l=>by
  rw [List.getElem?_append_left (by simpa using hbl),List.getElem?_set_ne hne]; exact h1
 have hst : ∀(l:List Bx) (v:Bx),(B.set kb .dead++l).set b v=(B.set kb .dead).set b v++l:=fun l v=>List.set_append_left _ _ (by simpa using hbl)
 have h3':cs.take st.length=(st.map vI).reverse:=by rw [h3]; simp
 have hrev:(st.map vI).reverse++[vI v]=(v::st).reverse.map vI:=by simp
 have j1:st.length+1≤9223372036854775807:=by omega
 have j2:(st.length+1)*8≤140737488355328:=by omega
 have hfin:LeBs (B.length+1) 0 ((B.set kb .dead).set b (.cells (qC s oth (.bw B.length (st.length+1)) lv pv))++[.buf 3 1 ((v::st).reverse.map vI)]) ((B.set kb .dead).set b (.cells (qC s oth (.bw B.length (st.length+1)) lv pv))++[.buf 3 1 ((v::st).reverse.map vI)]):=
  (LeBs.appU (LeBs.set (show E.leB _ _ (.cells _) (.cells _) from ⟨LeL_refl _,by unfold qC; simp [okNs,okN,hlv (B.length+1) (by omega),hpv (B.length+1) (by omega)]⟩) b (LeBs.set (show E.leB _ _ .dead .dead from trivial) kb (hU _ 0 (by omega))))).2 ⟨intb_le _ _ _,trivial⟩
 rw [←hrev] at hfin ⊢
 unfold qC at h1 h1E hfin ⊢
 cases ok
 ·(refine FnS.of_codeB mix Tryz.call76 kb_76 (by simp) (fun hB=>?_); (try simp at hB); (try simp -implicitDefEqProofs [qb_76]))
  ((try simp -implicitDefEqProofs [h1,h2,h1E,hst,maxLen,hcl,h3',j1,j2,hfin]); repeat' first | ((with_reducible first | apply gdK_em | apply cdK_em | apply pickK_em)<;>(intro hc; have hc':=hc; (try simp at hc'); simp -implicitDefEqProofs [hc,hc',h1,h2,h1E,hst,maxLen,hcl,h3',j1,j2,hfin])))
 ·cases hv:amtB v
  ·rw [hv] at ha
   (refine FnS.of_codeB mix Tryz.call76 kb_76 (by simp) (fun hB=>?_); (try simp at hB); (try simp -implicitDefEqProofs [qb_76]))
   ((try simp at ha); (try simp -implicitDefEqProofs [h1,h2,h1E,hst,maxLen,hcl,h3',j1,j2,hfin]); repeat' first | ((with_reducible first | apply gdK_em | apply cdK_em | apply pickK_em)<;>(intro hc; have hc':=hc; (try simp at hc'); simp -implicitDefEqProofs [hc,hc',h1,h2,h1E,hst,maxLen,hcl,h3',j1,j2,hfin])) | (with_reducible apply callK_pure<;>first | (simp only [eras,era,eras_map]; first | with_reducible exact ha | simpa using ha) | (simp -implicitDefEqProofs [h1,h2,h1E,hst,maxLen,hcl,h3',j1,j2,hfin])))
  ·rw [hv] at ha
   (refine FnS.of_codeB mix Tryz.call76 kb_76 (by simp) (fun hB=>?_); (try simp at hB); (try simp -implicitDefEqProofs [qb_76]))
   ((try simp at ha); (try simp -implicitDefEqProofs [h1,h2,h1E,hst,maxLen,hcl,h3',j1,j2,hfin]); repeat' first | ((with_reducible first | apply gdK_em | apply cdK_em | apply pickK_em)<;>(intro hc; have hc':=hc; (try simp at hc'); simp -implicitDefEqProofs [hc,hc',h1,h2,h1E,hst,maxLen,hcl,h3',j1,j2,hfin])) | (with_reducible apply callK_pure<;>first | (simp only [eras,era,eras_map]; first | with_reducible exact ha | simpa using ha) | (simp -implicitDefEqProofs [h1,h2,h1E,hst,maxLen,hcl,h3',j1,j2,hfin])))
end Go.Proofs.YtmlpmdccfmmpoaaGreat
