/- Chapter 35's reference: a step over a stack that is there. -/
import Derived.Test.YtmlpmdccfmmpoaaGreatDoorInf
import Derived.Test.YtmlpmdccfmmpoaaGreatDoorCodeB
set_option linter.unusedSimpArgs false
set_option linter.unusedVariables false
set_option maxHeartbeats 4000000
set_option maxRecDepth 8000
namespace Go.Proofs.YtmlpmdccfmmpoaaGreatDoor
open E
def qC (s:Src) (oth:Int) (sv lv pv:V):List V:=[vI s.ent,vB s.full,.t (.bool (nB s.num)),.t (.sl (qE s.num)),.t (.bool (nB s.den)),.t (.sl (qE s.den)),.t (.sl (s.items.map Item.c)),vI oth,sv,lv,pv]
theorem A0q (s:Src) (f t p:Int) (hlen:s.items.length≤1000) (hamt : ∀x∈s.items,Ah x.amt=true):A4 Tryz.prog 80 [s.qv,vI f,vI t,vI p] (vI (Aq s.items f t (p == -2) p)):=by
 obtain⟨any,hany⟩ : ∃any,any=(p == -2):=⟨_,rfl⟩
 rw [←hany]
 have hit : ∀i1 i2:List T,True:=fun _ _=>trivial
 obtain⟨ent,full,num,den,items⟩:=s
 simp only [] at hlen hamt ⊢
 unfold Src.qv
 simp only []
 (refine A4.of_code mix Tryz.call80 k_80 (by simp) (fun hB=>?_);(try simp at hB);(try simp -implicitDefEqProofs))
 refine A9 (X:=Nat) (fun k=>k≤items.length) (fun k=>[(1,vI f),(2,vI t),(3,vI p),(4,.ptr 0 0),(9,vI (Aq (items.take k) f t any p)),(10,vI k)]) (fun _=>⟨[.cells [vI ent,vB full,.t (.bool (nB num)),.t (.sl (qE num)),.t (.bool (nB den)),.t (.sl (qE den)),.t (.sl (items.map Item.c))]],[]⟩) (fun k=>items.length-k) 0 (by omega) ?hs ?_
 case hs=>simp [Aq]
 rintro k hk hbd
 clear hbd
 have e3:IntKind.i64.wrap ((k:Int)+1)=(k:Int)+1:=wrap64 (by omega) (by omega)
 rcases Nat.lt_or_ge k items.length with h|h
 ·obtain⟨x,hx⟩:=Ad h
  have hnx:=Md hx f t p any
  have hbd:=Mc (f:=f) (t:=t) (p:=p) (any:=any) (l:=items.take (k+1)) (fun y hy=>hamt y (List.mem_of_mem_take hy))
  have hle:(items.take (k+1)).length≤1000:=by rw [List.length_take];omega
  generalize Aq (items.take k) f t any p=n at *
  generalize hn':Aq (items.take (k+1)) f t any p=n' at *
  have hxc:(items.map Item.c)[k]?=some x.c:=by simp [hx]
  have hxc' : ∀h,(items.map Item.c)[k]'h=x.c:=fun h=>by rw [List.getElem?_eq_getElem h] at hxc;exact Option.some.inj hxc
  obtain⟨i1,i2,i3,i4,i5,i6,i7⟩:=x
  simp only [] at hnx
  by_cases hc:f≤i4∧i4≤t∧(any=true∨i5=p)
  ·rw [if_pos hc] at hnx
   obtain⟨c1,c2,c3⟩:=hc
   have w1:IntKind.i64.wrap (n+i7)=n':=by rw [←hnx];exact wrap64 (by omega) (by omega)
   by_cases c4:p = -2
   ·have c4':(p == -2)=true:=by simpa using c4
    subst c4
    (try simp -implicitDefEqProofs [h,hxc,hxc',Item.c,c1,c2,w1,e3])
    exact⟨k+1,by omega,by omega,by simp [hn']⟩
   ·have c4':(p == -2)=false:=by simpa using c4
    have c5:i5=p:=by rcases c3 with h|h;exact absurd (by rw [hany] at h;simpa using h) c4;exact h
    subst c5
    (try simp -implicitDefEqProofs [h,hxc,hxc',Item.c,c1,c2,c4,c4',w1,e3])
    exact⟨k+1,by omega,by omega,by simp [hn']⟩
  ·rw [if_neg hc,Int.add_zero] at hnx
   by_cases c1:f≤i4
   ·by_cases c2:i4≤t
    ·have c3 : ¬p = -2∧¬i5=p:=by
      constructor
      ·intro h;exact hc ⟨c1,c2,.inl (by rw [hany];simpa using h)⟩
      ·intro h;exact hc ⟨c1,c2,.inr h⟩
     have c4':(p == -2)=false:=by simpa using c3.1
     have c5:(i5==p)=false:=by simpa using c3.2
     (try simp -implicitDefEqProofs [h,hxc,hxc',Item.c,c1,c2,c4',c5,e3])
     exact⟨k+1,by omega,by omega,by simp [hn',hnx]⟩
    ·(try simp -implicitDefEqProofs [h,hxc,hxc',Item.c,c1,c2,e3])
     exact⟨k+1,by omega,by omega,by simp [hn',hnx]⟩
   ·(try simp -implicitDefEqProofs [h,hxc,hxc',Item.c,c1,e3])
    exact⟨k+1,by omega,by omega,by simp [hn',hnx]⟩
 ·have hk':k=items.length:=by omega
  subst hk'
  rw [List.take_of_length_le (Nat.le_refl _)]
  (try simp -implicitDefEqProofs)
theorem A0r (b kb n:Nat) (B:List Bx) (hU : ∀m,Ab B.length m B B) (s:Src) (oth:Int) (lv pv:V) (cs:List V) (v:Int) (h1:B[b]?=some (.cells (qC s oth (.bw kb (n+1)) lv pv))) (h2:B[kb]?=some (.buf 3 1 cs)) (h3:cs[n]?=some (vI v)) (hn:n+1≤1000000)
  (hlv:okN B.length 0 lv=true) (hpv:okN B.length 0 pv=true) :
  FnS Tryz.prog 36 [.ptr b 0] ⟨B,[]⟩ (vI v) ⟨B.set b (.cells (qC s oth (.bw kb n) lv pv)),[]⟩:=by
 have hkb:=A6 h2
 have hcn:=A6 h3
 have e1:IntKind.i64.wrap (n:Int)=(n:Int):=E6 (by omega)
 have j1:(n:Int)<(n:Int)+1:=by omega
 have j2:(n:Int)≤(n:Int)+1:=by omega
 have j3:n+1≤cs.length:=by omega
 have h3' : ∀h,cs[n]'h=vI v:=fun h=>by rw [List.getElem?_eq_getElem h] at h3;exact Option.some.inj h3
 have hfin:Ab B.length 0 (B.set b (.cells (qC s oth (.bw kb n) lv pv))) (B.set b (.cells (qC s oth (.bw kb n) lv pv))):=Ab.set (show E.leB B.length 0 (.cells _) (.cells _) from ⟨A5 _,by unfold qC;simp [okNs,okN,hlv,hpv];exact hkb⟩) b (hU 0)
 unfold qC at h1 hfin ⊢
 (refine FnS.of_code mix Tryz.call36 k_36 (by simp) (fun hB=>?_);(try simp at hB);(try simp -implicitDefEqProofs))
 (try simp -implicitDefEqProofs [h1,h2,h3,h3',e1,j1,j2,j3,hcn,hfin])
theorem A39 (b:Nat) (B:List Bx) (hU:OkU B) (s:Src) (oth:Int) (lv pv:V) (v:Int) (ok:Bool) (h1:B[b]?=some (.cells (qC s oth .snil lv pv))) (hlv : ∀n,B.length≤n→okN n 0 lv=true) (hpv : ∀n,B.length≤n→okN n 0 pv=true) :
  FnS Tryz.prog 79 [.ptr b 0,vI v,vB ok] ⟨B,[]⟩ (vB (ok&&Ah v)) ⟨B.set b (.cells (qC s oth (.bw B.length 1) lv pv))++[.buf 3 1 [vI v]],[]⟩:=by
 have ha:=Bn v
 have hbl:=A6 h1
 have h1E : ∀l:List Bx,(B++l)[b]?=some (.cells (qC s oth .snil lv pv)):=fun l=>Aj h1 l
 have hst : ∀(l:List Bx) (v:Bx),(B++l).set b v=B.set b v++l:=fun l v=>List.set_append_left _ _ hbl
 have hfin:Ab (B.length+1) 0 (B.set b (.cells (qC s oth (.bw B.length 1) lv pv))++[.buf 3 1 [vI v]]) (B.set b (.cells (qC s oth (.bw B.length 1) lv pv))++[.buf 3 1 [vI v]]):=
  (Ab.appU (Ab.set (show E.leB _ _ (.cells _) (.cells _) from ⟨A5 _,by unfold qC;simp [okNs,okN,hlv (B.length+1) (by omega),hpv (B.length+1) (by omega)]⟩) b (hU _ 0 (by omega)))).2 ⟨Cr [v] _ _,trivial⟩
 unfold qC at h1 h1E hfin ⊢
 cases ok
 ·(refine FnS.of_codeB mix Tryz.call79 kb_79 (by simp) (fun hB=>?_);(try simp at hB);(try simp -implicitDefEqProofs))
  (try simp -implicitDefEqProofs [h1,h1E,hst,maxLen,hfin])
 ·cases hv:Ah v
  ·rw [hv] at ha
   (refine FnS.of_codeB mix Tryz.call79 kb_79 (by simp) (fun hB=>?_);(try simp at hB);(try simp -implicitDefEqProofs))
   ((try simp at ha);(try simp -implicitDefEqProofs [h1,h1E,hst,maxLen,hfin]);repeat' first|(with_reducible apply A0<;>first|(simp only [eras,era,A1];first|with_reducible assumption)|(simp -implicitDefEqProofs [h1,h1E,hst,maxLen,hfin])))
  ·rw [hv] at ha
   (refine FnS.of_codeB mix Tryz.call79 kb_79 (by simp) (fun hB=>?_);(try simp at hB);(try simp -implicitDefEqProofs))
   ((try simp at ha);(try simp -implicitDefEqProofs [h1,h1E,hst,maxLen,hfin]);repeat' first|(with_reducible apply A0<;>first|(simp only [eras,era,A1];first|with_reducible assumption)|(simp -implicitDefEqProofs [h1,h1E,hst,maxLen,hfin])))
theorem A3a (b kb n:Nat) (B:List Bx) (hU:OkU B) (s:Src) (oth:Int) (lv pv:V) (v:Int) (ok:Bool) (st:List Int) (cs:List V) (h1:B[b]?=some (.cells (qC s oth (.bw kb st.length) lv pv))) (h2:B[kb]?=some (.buf 3 1 cs)) (h3:cs.take st.length=st.reverse.map vI) (hn:st.length≤8000) (hlv : ∀n,B.length≤n→okN n 0 lv=true) (hpv : ∀n,B.length≤n→okN n 0 pv=true) :
  FnS Tryz.prog 79 [.ptr b 0,vI v,vB ok] ⟨B,[]⟩ (vB (ok&&Ah v)) ⟨(B.set kb .dead).set b (.cells (qC s oth (.bw B.length (st.length+1)) lv pv))++[.buf 3 1 ((v::st).reverse.map vI)],[]⟩:=by
 have ha:=Bn v
 have hbl:=A6 h1
 have hkl:=A6 h2
 have hne:kb≠b:=fun e=>by rw [e,h1] at h2;cases h2
 have hcl:st.length≤cs.length:=by have:=congrArg List.length h3;simp at this;omega
 have h1E : ∀(l:List Bx),(B.set kb .dead++l)[b]?=some (.cells (qC s oth (.bw kb st.length) lv pv)):=fun l=>by
  rw [List.getElem?_append_left (by simpa using hbl),List.getElem?_set_ne hne];exact h1
 have hst : ∀(l:List Bx) (v:Bx),(B.set kb .dead++l).set b v=(B.set kb .dead).set b v++l:=fun l v=>List.set_append_left _ _ (by simpa using hbl)
 have h3':cs.take st.length=(st.map vI).reverse:=by rw [h3];simp
 have hrev:(st.map vI).reverse++[vI v]=(v::st).reverse.map vI:=by simp
 have j1:st.length+1≤9223372036854775807:=by omega
 have j2:(st.length+1)*8≤140737488355328:=by omega
 have hfin:Ab (B.length+1) 0 ((B.set kb .dead).set b (.cells (qC s oth (.bw B.length (st.length+1)) lv pv))++[.buf 3 1 ((v::st).reverse.map vI)]) ((B.set kb .dead).set b (.cells (qC s oth (.bw B.length (st.length+1)) lv pv))++[.buf 3 1 ((v::st).reverse.map vI)]):=
  (Ab.appU (Ab.set (show E.leB _ _ (.cells _) (.cells _) from ⟨A5 _,by unfold qC;simp [okNs,okN,hlv (B.length+1) (by omega),hpv (B.length+1) (by omega)]⟩) b (Ab.set (show E.leB _ _ .dead .dead from trivial) kb (hU _ 0 (by omega))))).2 ⟨Cr _ _ _,trivial⟩
 rw [←hrev] at hfin ⊢
 unfold qC at h1 h1E hfin ⊢
 cases ok
 ·(refine FnS.of_codeB mix Tryz.call79 kb_79 (by simp) (fun hB=>?_);(try simp at hB);(try simp -implicitDefEqProofs))
  (try simp -implicitDefEqProofs [h1,h2,h1E,hst,maxLen,hcl,h3',j1,j2,hfin])
 ·cases hv:Ah v
  ·rw [hv] at ha
   (refine FnS.of_codeB mix Tryz.call79 kb_79 (by simp) (fun hB=>?_);(try simp at hB);(try simp -implicitDefEqProofs))
   ((try simp at ha);(try simp -implicitDefEqProofs [h1,h2,h1E,hst,maxLen,hcl,h3',j1,j2,hfin]);repeat' first|(with_reducible apply A0<;>first|(simp only [eras,era,A1];first|with_reducible assumption)|(simp -implicitDefEqProofs [h1,h2,h1E,hst,maxLen,hcl,h3',j1,j2,hfin])))
  ·rw [hv] at ha
   (refine FnS.of_codeB mix Tryz.call79 kb_79 (by simp) (fun hB=>?_);(try simp at hB);(try simp -implicitDefEqProofs))
   ((try simp at ha);(try simp -implicitDefEqProofs [h1,h2,h1E,hst,maxLen,hcl,h3',j1,j2,hfin]);repeat' first|(with_reducible apply A0<;>first|(simp only [eras,era,A1];first|with_reducible assumption)|(simp -implicitDefEqProofs [h1,h2,h1E,hst,maxLen,hcl,h3',j1,j2,hfin])))
end Go.Proofs.YtmlpmdccfmmpoaaGreatDoor
section
set_option linter.unusedSimpArgs false
set_option linter.unusedVariables false
set_option maxHeartbeats 4000000
set_option maxRecDepth 8000
namespace Go.Proofs.YtmlpmdccfmmpoaaGreatDoor
open E

def C7 (s:Src) (oth:Int) (x:Ins) (st loc:List Int):Int×Bool:=
 if x.op=1 then (x.a,true)
 else if x.op=2 then (loc.getD x.a.toNat 0,true)
 else if x.op=3 then (Aq s.items x.a x.b true (-2),true)
 else if x.op=4 then (Aq s.items x.a x.b false oth,true)
 else if x.op=7 then Dx (st.headD 0) s
 else if tk x.op=1 then opR x.op x.a (st.headD 0) 0
 else opR x.op x.a (st.getD 1 0) (st.headD 0)
theorem A0s (b:Nat) (B:List Bx) (hU:OkU B) (s:Src) (hs:s.Ok) (oth:Int) (ho:oth≠-2) (lv pv:V) (x:Ins) (loc:List Int) (hx:x.op=1∨x.op=2∨x.op=3∨x.op=4) (h1:B[b]?=some (.cells (qC s oth .snil lv pv)))
  (lb:Nat) (lcs:List V) (hl:x.op=2→lv=.bw lb loc.length∧B[lb]?=some (.buf 3 1 lcs)∧lcs[x.a.toNat]?=some (vI (loc.getD x.a.toNat 0))∧0≤x.a∧x.a.toNat<loc.length∧loc.length≤8000)
  (hlv : ∀n,B.length≤n→okN n 0 lv=true) (hpv : ∀n,B.length≤n→okN n 0 pv=true) :
  FnS Tryz.prog 35 [.ptr b 0,x.v] ⟨B,[]⟩ (vB ((C7 s oth x [] loc).2&&Ah (C7 s oth x [] loc).1)) ⟨B.set b (.cells (qC s oth (.bw (B.length+1) 1) lv pv))++[.dead,.buf 3 1 [vI (C7 s oth x [] loc).1]],[]⟩:=by
 have hbl:=A6 h1
 obtain⟨op,xa,xb⟩:=x
 simp only [] at hx hl
 have htk:=Gb op
 have hxU : ∀n m,E.leB n m (.cells [vI op,vI xa,vI xb]) (.cells [vI op,vI xa,vI xb]):=fun n m=>⟨A5 _,rfl⟩
 have hU1:OkU (B++[.cells [vI op,vI xa,vI xb]]):=fun n m hn=>(Ab.appU (hU n m (by simp at hn;omega))).2 ⟨hxU _ _,trivial⟩
 have h1E : ∀l:List Bx,(B++l)[b]?=some (.cells (qC s oth .snil lv pv)):=fun l=>Aj h1 l
 have gz : ∀(l:List Bx),(B++l)[B.length]?=l[0]?:=fun l=>by rw [List.getElem?_append_right (by omega)];simp
 have hput : ∀v ok,FnS Tryz.prog 79 [.ptr b 0,vI v,vB ok] ⟨B++[.cells [vI op,vI xa,vI xb]],[]⟩ (vB (ok&&Ah v)) ⟨B.set b (.cells (qC s oth (.bw (B.length+1) 1) lv pv))++[.cells [vI op,vI xa,vI xb],.buf 3 1 [vI v]],[]⟩:=fun v ok=>by
  have:=A39 b (B++[.cells [vI op,vI xa,vI xb]]) hU1 s oth lv pv v ok (h1E _) (fun n hn=>hlv n (by simp at hn;omega)) (fun n hn=>hpv n (by simp at hn;omega))
  rw [List.set_append_left _ _ hbl] at this
  simpa [List.append_assoc] using this
 have hfin : ∀v:Int,Ab (B.length+2) 0 (B.set b (.cells (qC s oth (.bw (B.length+1) 1) lv pv))++[.cells [vI op,vI xa,vI xb],.buf 3 1 [vI v]]) (B.set b (.cells (qC s oth (.bw (B.length+1) 1) lv pv))++[.dead,.buf 3 1 [vI v]]):=fun v=>
  (Ab.appU (Ab.set (show E.leB _ _ (.cells _) (.cells _) from ⟨A5 _,by unfold qC;simp [okNs,okN,hlv (B.length+2) (by omega),hpv (B.length+2) (by omega)]⟩) b (hU _ 0 (by omega)))).2 ⟨trivial,Cr [v] _ _,trivial⟩
 have hsum:=fun f t p=>A0q s f t p hs.len hs.amt
 unfold C7
 simp only []
 rcases hx with rfl|rfl|rfl|rfl
 ·have e:Gj 1=(0,1):=by decide
  rw [e] at htk
  have hp:=hput xa true
  generalize hfin xa=hf at *
  unfold qC at h1E
  (refine FnS.of_codeV mix Tryz.call35 kv_35 (by simp) (fun hB=>?_);(try simp at hB);(try simp -implicitDefEqProofs))
  ((try simp at htk);(try simp -implicitDefEqProofs [h1E,gz]);repeat' first|(with_reducible apply A0<;>first|(simp only [eras,era,A1];first|with_reducible assumption)|(simp -implicitDefEqProofs [h1E,gz])))
  refine Ac hp ?_
  (try simp -implicitDefEqProofs [hf])
 ·have e:Gj 2=(0,1):=by decide
  rw [e] at htk
  obtain⟨rfl,l2,l3,l4,l5,l6⟩:=hl rfl
  have hlE : ∀l:List Bx,(B++l)[lb]?=some (.buf 3 1 lcs):=fun l=>Aj l2 l
  have hll:=A6 l3
  have l3' : ∀h,lcs[xa.toNat]'h=vI (loc.getD xa.toNat 0):=fun h=>by rw [List.getElem?_eq_getElem h] at l3;exact Option.some.inj l3
  have l7:xa<(loc.length:Int):=by omega
  have l8:xa.toNat+1≤lcs.length:=hll
  have hp:=hput (loc.getD xa.toNat 0) true
  have hf:=hfin (loc.getD xa.toNat 0)
  rw [show (if (2:Int)=1 then (xa,true) else if (2:Int)=2 then (loc.getD xa.toNat 0,true) else if (2:Int)=3 then (Aq s.items xa xb true (-2),true) else if (2:Int)=4 then (Aq s.items xa xb false oth,true) else if (2:Int)=7 then Dx (([]:List Int).headD 0) s else if tk 2=1 then opR 2 xa (([]:List Int).headD 0) 0 else opR 2 xa (([]:List Int).getD 1 0) (([]:List Int).headD 0))=(loc.getD xa.toNat 0,true) from by simp]
  generalize loc.getD xa.toNat 0=v at *
  unfold qC at h1E
  (refine FnS.of_codeV mix Tryz.call35 kv_35 (by simp) (fun hB=>?_);(try simp at hB);(try simp -implicitDefEqProofs))
  ((try simp at htk);(try simp -implicitDefEqProofs [h1E,gz,hlE,l3,l3',l4,l7,l8,hll]);repeat' first|(with_reducible apply A0<;>first|(simp only [eras,era,A1];first|with_reducible assumption)|(simp -implicitDefEqProofs [h1E,gz,hlE,l3,l3',l4,l7,l8,hll])))
  all_goals (repeat' with_reducible apply And.intro)
  all_goals refine Ac hp ?_
  all_goals (try simp -implicitDefEqProofs [hf])
 ·have e:Gj 3=(0,1):=by decide
  rw [e] at htk
  have hsm:=hsum xa xb (-2)
  rw [show ((-2:Int) == -2)=true from rfl] at hsm
  have hp:=hput (Aq s.items xa xb true (-2)) true
  have hf:=hfin (Aq s.items xa xb true (-2))
  simp only [show ¬(3:Int)=1 by decide,show ¬(3:Int)=2 by decide,if_false,if_true]
  generalize Aq s.items xa xb true (-2)=v at *
  unfold Src.qv at hsm
  unfold qC at h1E
  (refine FnS.of_codeV mix Tryz.call35 kv_35 (by simp) (fun hB=>?_);(try simp at hB);(try simp -implicitDefEqProofs))
  ((try simp at htk hsm);(try simp -implicitDefEqProofs [h1E,gz]);repeat' first|(with_reducible apply A0<;>first|(simp only [eras,era,A1];first|with_reducible assumption)|(simp -implicitDefEqProofs [h1E,gz])))
  all_goals (repeat' with_reducible apply And.intro)
  all_goals ((try simp at hsm);(try simp -implicitDefEqProofs [h1E,gz]);repeat' first|(with_reducible apply A0<;>first|(simp only [eras,era,A1];first|with_reducible assumption)|(simp -implicitDefEqProofs [h1E,gz])))
  all_goals (repeat' with_reducible apply And.intro)
  all_goals refine Ac hp ?_
  all_goals (try simp -implicitDefEqProofs [hf])
 ·have e:Gj 4=(0,1):=by decide
  rw [e] at htk
  have hsm:=hsum xa xb oth
  rw [show (oth == -2)=false by simpa using ho] at hsm
  have hp:=hput (Aq s.items xa xb false oth) true
  have hf:=hfin (Aq s.items xa xb false oth)
  simp only [show ¬(4:Int)=1 by decide,show ¬(4:Int)=2 by decide,show ¬(4:Int)=3 by decide,if_false,if_true]
  generalize Aq s.items xa xb false oth=v at *
  unfold Src.qv at hsm
  unfold qC at h1E
  (refine FnS.of_codeV mix Tryz.call35 kv_35 (by simp) (fun hB=>?_);(try simp at hB);(try simp -implicitDefEqProofs))
  ((try simp at htk hsm);(try simp -implicitDefEqProofs [h1E,gz]);repeat' first|(with_reducible apply A0<;>first|(simp only [eras,era,A1];first|with_reducible assumption)|(simp -implicitDefEqProofs [h1E,gz])))
  all_goals (repeat' with_reducible apply And.intro)
  all_goals ((try simp at hsm);(try simp -implicitDefEqProofs [h1E,gz]);repeat' first|(with_reducible apply A0<;>first|(simp only [eras,era,A1];first|with_reducible assumption)|(simp -implicitDefEqProofs [h1E,gz])))
  all_goals (repeat' with_reducible apply And.intro)
  all_goals refine Ac hp ?_
  all_goals (try simp -implicitDefEqProofs [hf])
structure QS (B:List Bx) (b kb:Nat) (s:Src) (oth:Int) (lv pv:V) (st:List Int) (cs:List V):Prop where
 U:OkU B
 hb:B[b]?=some (.cells (qC s oth (.bw kb st.length) lv pv))
 hk:B[kb]?=some (.buf 3 1 cs)
 ht:cs.take st.length=st.reverse.map vI
 hl:st.length≤8000
 lv : ∀n m,B.length≤n→okN n m lv=true
 pv : ∀n m,B.length≤n→okN n m pv=true
def QM (B:List Bx) (b kb:Nat) (s:Src) (oth:Int) (lv pv:V) (n:Nat):List Bx:=B.set b (.cells (qC s oth (.bw kb n) lv pv))
def QF (B:List Bx) (b kb:Nat) (s:Src) (oth:Int) (lv pv:V) (n:Nat):List Bx:=(B.set kb .dead).set b (.cells (qC s oth (.bw (B.length+1) n) lv pv))
section
variable {B:List Bx} {b kb:Nat} {s:Src} {oth:Int} {lv pv:V} {st:List Int} {cs:List V}
theorem QS.ne (h:QS B b kb s oth lv pv st cs):kb≠b:=fun e=>by have:=h.hk;rw [e,h.hb] at this;cases this
theorem QS.same (h:QS B b kb s oth lv pv st cs):QM B b kb s oth lv pv st.length=B:=by
 obtain⟨h1,h2⟩:=List.getElem?_eq_some_iff.1 h.hb
 unfold QM;rw [←h2,List.set_getElem_self]
theorem Hv {n m:Nat} {sv lv pv:V} (h1:okN n m sv=true) (h2:okN n m lv=true) (h3:okN n m pv=true):E.leB n m (.cells (qC s oth sv lv pv)) (.cells (qC s oth sv lv pv)):=⟨A5 _,by unfold qC;simp [okNs,okN,h1,h2,h3]⟩
theorem QS.len (x:Bx) (k:Nat):(QM B b kb s oth lv pv k++[x]).length=B.length+1:=by unfold QM;simp
theorem QS.UM (h:QS B b kb s oth lv pv st cs) {x:Bx} (hx : ∀n m,E.leB n m x x) (k:Nat):OkU (QM B b kb s oth lv pv k++[x]):=fun n m hn=>by
 rw [QS.len] at hn
 have hk:=A6 h.hk
 exact (Ab.appU (Ab.set (Hv (by simp [okN];omega) (h.lv n m (by omega)) (h.pv n m (by omega))) b (h.U n m (by omega)))).2 ⟨hx _ _,trivial⟩
theorem QS.Mb (h:QS B b kb s oth lv pv st cs) (k:Nat) (l:List Bx):(QM B b kb s oth lv pv k++l)[b]?=some (.cells (qC s oth (.bw kb k) lv pv)):=by
 have hb:=A6 h.hb
 unfold QM
 rw [List.getElem?_append_left (by simpa using hb),List.getElem?_set_self hb]
theorem QS.Mk (h:QS B b kb s oth lv pv st cs) (k:Nat) (l:List Bx):(QM B b kb s oth lv pv k++l)[kb]?=some (.buf 3 1 cs):=by
 have hk:=A6 h.hk
 unfold QM
 rw [List.getElem?_append_left (by simpa using hk),List.getElem?_set_ne (fun e=>h.ne e.symm)]
 exact h.hk
theorem QS.get (h:QS B b kb s oth lv pv st cs) {j:Nat} {v:Int} (hj:j<st.length) (hv:st.reverse[j]?=some v):cs[j]?=some (vI v):=by
 have:=congrArg (fun l=>l[j]?) h.ht
 simp only [List.getElem?_take,if_pos hj,List.getElem?_map,hv,Option.map_some] at this
 exact this
theorem QS.takes (h:QS B b kb s oth lv pv st cs) {st' r:List Int} (e:st=r++st'):cs.take st'.length=st'.reverse.map vI:=by
 have h1:=h.ht
 rw [e,List.reverse_append,List.map_append,List.length_append] at h1
 have h2:=congrArg (List.take st'.length) h1
 rw [List.take_take,Nat.min_eq_left (by omega),List.take_left' (by simp)] at h2
 exact h2
theorem U9 (h:QS B b kb s oth lv pv st cs) {x:Bx} (hx : ∀n m,E.leB n m x x) {n:Nat} {v:Int} (hn:n<st.length) (hv:cs[n]?=some (vI v)) :
  FnS Tryz.prog 36 [.ptr b 0] ⟨QM B b kb s oth lv pv (n+1)++[x],[]⟩ (vI v) ⟨QM B b kb s oth lv pv n++[x],[]⟩:=by
 have hl:=h.hl
 have hbl:=A6 h.hb
 have:=A0r b kb n (QM B b kb s oth lv pv (n+1)++[x]) (fun m=>h.UM hx _ _ _ (Nat.le_refl _)) s oth lv pv cs v (h.Mb _ _) (h.Mk _ _) hv (by omega) (h.lv _ _ (by rw [QS.len];omega)) (h.pv _ _ (by rw [QS.len];omega))
 rw [List.set_append_left _ _ (by unfold QM;simpa using hbl)] at this
 unfold QM at this ⊢
 rw [List.set_set] at this
 exact this
theorem Ua (h:QS B b kb s oth lv pv st cs) {x:Bx} (hx : ∀n m,E.leB n m x x) {st' r:List Int} (e:st=r++st') (v:Int) (ok:Bool) :
  FnS Tryz.prog 79 [.ptr b 0,vI v,vB ok] ⟨QM B b kb s oth lv pv st'.length++[x],[]⟩ (vB (ok&&Ah v)) ⟨QF B b kb s oth lv pv (st'.length+1)++[x,.buf 3 1 ((v::st').reverse.map vI)],[]⟩:=by
 have hl:=h.hl
 have hbl:=A6 h.hb
 have hkl:=A6 h.hk
 have hs:st'.length≤st.length:=by rw [e];simp
 have:=A3a b kb 0 (QM B b kb s oth lv pv st'.length++[x]) (h.UM hx _) s oth lv pv v ok st' cs (h.Mb _ _) (h.Mk _ _) (h.takes e) (by omega) (fun n hn=>h.lv _ _ (by rw [QS.len] at hn;omega)) (fun n hn=>h.pv _ _ (by rw [QS.len] at hn;omega))
 rw [QS.len,List.set_append_left _ _ (by unfold QM;simpa using hkl),List.set_append_left _ _ (by unfold QM;simpa using hbl),List.append_assoc] at this
 have e2:((QM B b kb s oth lv pv st'.length).set kb .dead).set b (.cells (qC s oth (.bw (B.length+1) (st'.length+1)) lv pv))=QF B b kb s oth lv pv (st'.length+1):=by
  unfold QM QF
  rw [List.set_comm _ _ (fun e=>h.ne e.symm),List.set_set]
 rw [e2] at this
 exact this
theorem QS.fin (h:QS B b kb s oth lv pv st cs) (x:Bx) (n:Nat) (l:List Int):Ab (B.length+2) 0 (QF B b kb s oth lv pv n++[x,.buf 3 1 (l.map vI)]) (QF B b kb s oth lv pv n++[.dead,.buf 3 1 (l.map vI)]):=
 (Ab.appU (Ab.set (Hv (by simp [okN]) (h.lv _ _ (by omega)) (h.pv _ _ (by omega))) b (Ab.set (show E.leB _ _ .dead .dead from trivial) kb (h.U _ 0 (by omega))))).2 ⟨trivial,Cr _ _ _,trivial⟩
theorem QS.flen (n:Nat) (l:List Bx):(QF B b kb s oth lv pv n++l).length=B.length+l.length:=by unfold QF;simp
end
end Go.Proofs.YtmlpmdccfmmpoaaGreatDoor
end
section
set_option linter.unusedSimpArgs false
set_option linter.unusedVariables false
set_option maxHeartbeats 4000000
set_option maxRecDepth 8000
namespace Go.Proofs.YtmlpmdccfmmpoaaGreatDoor
open E
section
variable {B:List Bx} {b kb:Nat} {s:Src} {oth:Int} {lv pv:V} {st:List Int} {cs:List V}
theorem Ie (n:Nat):(QM B b kb s oth lv pv n).length=B.length:=by unfold QM;simp
theorem Xv (n:Nat) (l:List Bx):(QM B b kb s oth lv pv n++l)[B.length]?=l[0]?:=by
 have:=Ie (B:=B) (b:=b) (kb:=kb) (s:=s) (oth:=oth) (lv:=lv) (pv:=pv) n
 rw [List.getElem?_append_right (by omega),this];simp
end
theorem A0t {B:List Bx} {b kb:Nat} {s:Src} {oth:Int} {lv pv:V} {st:List Int} {cs:List V} (h:QS B b kb s oth lv pv st cs) (hs:s.Ok) (ho:oth≠-2) (x:Ins) (loc:List Int) (hx:x.op=1∨x.op=2∨x.op=3∨x.op=4)
  (lb:Nat) (lcs:List V) (hl:x.op=2→lb≠b∧lv=.bw lb loc.length∧B[lb]?=some (.buf 3 1 lcs)∧lcs[x.a.toNat]?=some (vI (loc.getD x.a.toNat 0))∧0≤x.a∧x.a.toNat<loc.length∧loc.length≤8000) :
  FnS Tryz.prog 35 [.ptr b 0,x.v] ⟨B,[]⟩ (vB ((C7 s oth x st loc).2&&Ah (C7 s oth x st loc).1)) ⟨QF B b kb s oth lv pv (st.length+1)++[.dead,.buf 3 1 (((C7 s oth x st loc).1::st).reverse.map vI)],[]⟩:=by
 obtain⟨op,xa,xb⟩:=x
 simp only [] at hx hl
 have htk:=Gb op
 have hxU : ∀n m,E.leB n m (.cells [vI op,vI xa,vI xb]) (.cells [vI op,vI xa,vI xb]):=fun n m=>⟨A5 _,rfl⟩
 have hput:=fun v ok=>Ua h hxU (st':=st) (r:=[]) rfl v ok
 have hfin:=fun (v:Int)=>h.fin (.cells [vI op,vI xa,vI xb]) (st.length+1) ((v::st).reverse)
 have hMb:=fun l=>h.Mb st.length l
 have hMl:=Ie (B:=B) (b:=b) (kb:=kb) (s:=s) (oth:=oth) (lv:=lv) (pv:=pv) st.length
 have gz:=fun l=>Xv (B:=B) (b:=b) (kb:=kb) (s:=s) (oth:=oth) (lv:=lv) (pv:=pv) st.length l
 have hFl:(QF B b kb s oth lv pv (st.length+1)).length=B.length:=by have:=QS.flen (B:=B) (b:=b) (kb:=kb) (s:=s) (oth:=oth) (lv:=lv) (pv:=pv) (st.length+1) [];simpa using this
 have hbl:=A6 h.hb
 have hlE : ∀m,B[lb]?=some m→lb≠b→∀l,(QM B b kb s oth lv pv st.length++l)[lb]?=some m:=fun m hm hn l=>by
  have:=A6 hm
  unfold QM
  rw [List.getElem?_append_left (by simpa using this),List.getElem?_set_ne (fun e=>hn e.symm)]
  exact hm
 have hsum:=fun f t p=>A0q s f t p hs.len hs.amt
 rw [show (⟨B,[]⟩:St)=⟨QM B b kb s oth lv pv st.length,[]⟩ from by rw [h.same]]
 generalize QM B b kb s oth lv pv st.length=M at *
 generalize QF B b kb s oth lv pv (st.length+1)=F at *
 unfold C7
 simp only []
 unfold qC at hMb
 rcases hx with rfl|rfl|rfl|rfl
 ·have e:Gj 1=(0,1):=by decide
  rw [e] at htk
  have hp:=hput xa true
  have hf:=hfin xa
  rw [if_pos rfl]
  simp only []
  generalize (xa::st).reverse.map vI=W at *
  (refine FnS.of_codeV mix Tryz.call35 kv_35 (by simp) (fun hB=>?_);(try simp at hB);(try simp -implicitDefEqProofs))
  ((try simp at htk);(try simp -implicitDefEqProofs [hMb,gz,hMl]);repeat' first|(with_reducible apply A0<;>first|(simp only [eras,era,A1];first|with_reducible assumption)|(simp -implicitDefEqProofs [hMb,gz,hMl])))
  refine Ac hp ?_
  (try simp -implicitDefEqProofs [hf,hFl])
 ·have e:Gj 2=(0,1):=by decide
  rw [e] at htk
  obtain⟨l0,rfl,l2,l3,l4,l5,l6⟩:=hl rfl
  have hlE:=hlE _ l2 l0
  have hll:=A6 l3
  have l3' : ∀h,lcs[xa.toNat]'h=vI (loc.getD xa.toNat 0):=fun h=>by rw [List.getElem?_eq_getElem h] at l3;exact Option.some.inj l3
  have l7:xa<(loc.length:Int):=by omega
  have l8:xa.toNat+1≤lcs.length:=hll
  have hp:=hput (loc.getD xa.toNat 0) true
  have hf:=hfin (loc.getD xa.toNat 0)
  rw [if_neg (show ¬(2:Int)=1 by decide),if_pos rfl]
  simp only []
  generalize loc.getD xa.toNat 0=v at *
  generalize (v::st).reverse.map vI=W at *
  (refine FnS.of_codeV mix Tryz.call35 kv_35 (by simp) (fun hB=>?_);(try simp at hB);(try simp -implicitDefEqProofs))
  ((try simp at htk);(try simp -implicitDefEqProofs [hMb,gz,hMl,hlE,l3,l3',l4,l7,l8,hll]);repeat' first|(with_reducible apply A0<;>first|(simp only [eras,era,A1];first|with_reducible assumption)|(simp -implicitDefEqProofs [hMb,gz,hMl,hlE,l3,l3',l4,l7,l8,hll])))
  all_goals (repeat' with_reducible apply And.intro)
  all_goals refine Ac hp ?_
  all_goals (try simp -implicitDefEqProofs [hf,hFl])
 ·have e:Gj 3=(0,1):=by decide
  rw [e] at htk
  have hsm:=hsum xa xb (-2)
  rw [show ((-2:Int) == -2)=true from rfl] at hsm
  have hp:=hput (Aq s.items xa xb true (-2)) true
  have hf:=hfin (Aq s.items xa xb true (-2))
  simp only [show ¬(3:Int)=1 by decide,show ¬(3:Int)=2 by decide,if_false,if_true]
  generalize Aq s.items xa xb true (-2)=v at *
  generalize (v::st).reverse.map vI=W at *
  unfold Src.qv at hsm
  (refine FnS.of_codeV mix Tryz.call35 kv_35 (by simp) (fun hB=>?_);(try simp at hB);(try simp -implicitDefEqProofs))
  ((try simp at htk hsm);(try simp -implicitDefEqProofs [hMb,gz,hMl]);repeat' first|(with_reducible apply A0<;>first|(simp only [eras,era,A1];first|with_reducible assumption)|(simp -implicitDefEqProofs [hMb,gz,hMl])))
  all_goals (repeat' with_reducible apply And.intro)
  all_goals ((try simp at hsm);(try simp -implicitDefEqProofs [hMb,gz,hMl]);repeat' first|(with_reducible apply A0<;>first|(simp only [eras,era,A1];first|with_reducible assumption)|(simp -implicitDefEqProofs [hMb,gz,hMl])))
  all_goals (repeat' with_reducible apply And.intro)
  all_goals refine Ac hp ?_
  all_goals (try simp -implicitDefEqProofs [hf,hFl])
 ·have e:Gj 4=(0,1):=by decide
  rw [e] at htk
  have hsm:=hsum xa xb oth
  rw [show (oth == -2)=false by simpa using ho] at hsm
  have hp:=hput (Aq s.items xa xb false oth) true
  have hf:=hfin (Aq s.items xa xb false oth)
  simp only [show ¬(4:Int)=1 by decide,show ¬(4:Int)=2 by decide,show ¬(4:Int)=3 by decide,if_false,if_true]
  generalize Aq s.items xa xb false oth=v at *
  generalize (v::st).reverse.map vI=W at *
  unfold Src.qv at hsm
  (refine FnS.of_codeV mix Tryz.call35 kv_35 (by simp) (fun hB=>?_);(try simp at hB);(try simp -implicitDefEqProofs))
  ((try simp at htk hsm);(try simp -implicitDefEqProofs [hMb,gz,hMl]);repeat' first|(with_reducible apply A0<;>first|(simp only [eras,era,A1];first|with_reducible assumption)|(simp -implicitDefEqProofs [hMb,gz,hMl])))
  all_goals (repeat' with_reducible apply And.intro)
  all_goals ((try simp at hsm);(try simp -implicitDefEqProofs [hMb,gz,hMl]);repeat' first|(with_reducible apply A0<;>first|(simp only [eras,era,A1];first|with_reducible assumption)|(simp -implicitDefEqProofs [hMb,gz,hMl])))
  all_goals (repeat' with_reducible apply And.intro)
  all_goals refine Ac hp ?_
  all_goals (try simp -implicitDefEqProofs [hf,hFl])
theorem A0u {B:List Bx} {b kb:Nat} {s:Src} {oth:Int} {lv pv:V} {st:List Int} {cs:List V} {v0:Int} (h:QS B b kb s oth lv pv (v0::st) cs) (hs:s.Ok) (x:Ins) (loc:List Int) (hx:x.op=7∨(x.op≠1∧x.op≠2∧x.op≠3∧x.op≠4∧x.op≠7∧(Gj x.op).1=1∧tk x.op=1)) :
  FnS Tryz.prog 35 [.ptr b 0,x.v] ⟨B,[]⟩ (vB ((C7 s oth x (v0::st) loc).2&&Ah (C7 s oth x (v0::st) loc).1)) ⟨QF B b kb s oth lv pv (st.length+1)++[.dead,.buf 3 1 (((C7 s oth x (v0::st) loc).1::st).reverse.map vI)],[]⟩:=by
 obtain⟨op,xa,xb⟩:=x
 simp only [] at hx
 have htk:=Gb op
 have hxU : ∀n m,E.leB n m (.cells [vI op,vI xa,vI xb]) (.cells [vI op,vI xa,vI xb]):=fun n m=>⟨A5 _,rfl⟩
 have hput:=fun v ok=>Ua h hxU (st':=st) (r:=[v0]) rfl v ok
 have hpop:=U9 h hxU (n:=st.length) (v:=v0) (by simp) (h.get (by simp) (by simp))
 have hfin:=fun (v:Int)=>h.fin (.cells [vI op,vI xa,vI xb]) (st.length+1) ((v::st).reverse)
 have hMb:=fun l=>h.Mb (st.length+1) l
 have hMl:=Ie (B:=B) (b:=b) (kb:=kb) (s:=s) (oth:=oth) (lv:=lv) (pv:=pv) (st.length+1)
 have gz:=fun l=>Xv (B:=B) (b:=b) (kb:=kb) (s:=s) (oth:=oth) (lv:=lv) (pv:=pv) (st.length+1) l
 have hMb1:=fun l=>h.Mb st.length l
 have hMl1:=Ie (B:=B) (b:=b) (kb:=kb) (s:=s) (oth:=oth) (lv:=lv) (pv:=pv) st.length
 have gz1:=fun l=>Xv (B:=B) (b:=b) (kb:=kb) (s:=s) (oth:=oth) (lv:=lv) (pv:=pv) st.length l
 have hFl:(QF B b kb s oth lv pv (st.length+1)).length=B.length:=by have:=QS.flen (B:=B) (b:=b) (kb:=kb) (s:=s) (oth:=oth) (lv:=lv) (pv:=pv) (st.length+1) [];simpa using this
 have hbl:=A6 h.hb
 rw [show (⟨B,[]⟩:St)=⟨QM B b kb s oth lv pv (st.length+1),[]⟩ from by rw [←List.length_cons (a:=v0),h.same]]
 generalize QM B b kb s oth lv pv (st.length+1)=M at *
 generalize QM B b kb s oth lv pv st.length=M1 at *
 generalize QF B b kb s oth lv pv (st.length+1)=F at *
 unfold qC at hMb hMb1
 rcases hx with rfl|⟨n1,n2,n3,n4,n7,hk,hkk⟩
 ·have e:Gj 7=(1,1):=by decide
  rw [e] at htk
  have hsc:=A04 v0 s.num s.den hs.num hs.den0 hs.den
  have hv:C7 s oth ⟨7,xa,xb⟩ (v0::st) loc=((Dw v0 s.num s.den).1,(Dw v0 s.num s.den).2==0):=by
   rw [←R6];rfl
  rw [hv]
  generalize Dw v0 s.num s.den=r at *
  obtain⟨r1,r2⟩:=r
  simp only [] at hsc ⊢
  have hp:=hput r1 (r2==0)
  have hf:=hfin r1
  generalize (r1::st).reverse.map vI=W at *
  unfold sV at hsc
  (refine FnS.of_codeV mix Tryz.call35 kv_35 (by simp) (fun hB=>?_);(try simp at hB);(try simp -implicitDefEqProofs))
  ((try simp at htk);(try simp -implicitDefEqProofs [hMb,gz,hMl]);repeat' first|(with_reducible apply A0<;>first|(simp only [eras,era,A1];first|with_reducible assumption)|(simp -implicitDefEqProofs [hMb,gz,hMl])))
  refine Ac hpop ?_
  ((try simp at hsc);(try simp -implicitDefEqProofs [hMb1,gz1,hMl1]);repeat' first|(with_reducible apply A0<;>first|(simp only [eras,era,A1];first|with_reducible assumption)|(simp -implicitDefEqProofs [hMb1,gz1,hMl1])))
  all_goals (repeat' with_reducible apply And.intro)
  all_goals refine Ac hp ?_
  all_goals (try simp -implicitDefEqProofs [hf,hFl])
 ·generalize he:Gj op=tk2 at *
  obtain⟨t1,t2⟩:=tk2
  simp only [] at hk
  subst hk
  have hop:=A3u op xa v0 0
  have hv:C7 s oth ⟨op,xa,xb⟩ (v0::st) loc=opR op xa v0 0:=by
   unfold C7
   simp only []
   rw [if_neg n1,if_neg n2,if_neg n3,if_neg n4,if_neg n7,if_pos hkk];rfl
  rw [hv]
  generalize opR op xa v0 0=r at *
  obtain⟨r1,r2⟩:=r
  unfold vO at hop
  simp only [] at hop ⊢
  have hp:=hput r1 r2
  have hf:=hfin r1
  generalize (r1::st).reverse.map vI=W at *
  (refine FnS.of_codeV mix Tryz.call35 kv_35 (by simp) (fun hB=>?_);(try simp at hB);(try simp -implicitDefEqProofs))
  ((try simp at htk);(try simp -implicitDefEqProofs [hMb,gz,hMl]);repeat' first|(with_reducible apply A0<;>first|(simp only [eras,era,A1];first|with_reducible assumption)|(simp -implicitDefEqProofs [hMb,gz,hMl])))
  refine Ac hpop ?_
  have b1:(op==1)=false:=by simpa using n1
  have b2:(op==2)=false:=by simpa using n2
  have b3:(op==3)=false:=by simpa using n3
  have b4:(op==4)=false:=by simpa using n4
  have b7:(op==7)=false:=by simpa using n7
  ((try simp at hop);(try simp -implicitDefEqProofs [hMb1,gz1,hMl1,b1,b2,b3,b4,b7,n1,n2,n3,n4,n7]);repeat' first|(with_reducible apply A0<;>first|(simp only [eras,era,A1];first|with_reducible assumption)|(simp -implicitDefEqProofs [hMb1,gz1,hMl1,b1,b2,b3,b4,b7,n1,n2,n3,n4,n7])))
  all_goals (repeat' with_reducible apply And.intro)
  all_goals refine Ac hp ?_
  all_goals (try simp -implicitDefEqProofs [hf,hFl])
theorem A0v {B:List Bx} {b kb:Nat} {s:Src} {oth:Int} {lv pv:V} {st:List Int} {cs:List V} {v0 v1:Int} (h:QS B b kb s oth lv pv (v0::v1::st) cs) (hs:s.Ok) (x:Ins) (loc:List Int) (hx:x.op≠1∧x.op≠2∧x.op≠3∧x.op≠4∧x.op≠7∧(Gj x.op).1=2∧tk x.op=2) :
  FnS Tryz.prog 35 [.ptr b 0,x.v] ⟨B,[]⟩ (vB ((C7 s oth x (v0::v1::st) loc).2&&Ah (C7 s oth x (v0::v1::st) loc).1)) ⟨QF B b kb s oth lv pv (st.length+1)++[.dead,.buf 3 1 (((C7 s oth x (v0::v1::st) loc).1::st).reverse.map vI)],[]⟩:=by
 obtain⟨op,xa,xb⟩:=x
 simp only [] at hx
 have htk:=Gb op
 have hxU : ∀n m,E.leB n m (.cells [vI op,vI xa,vI xb]) (.cells [vI op,vI xa,vI xb]):=fun n m=>⟨A5 _,rfl⟩
 have hput:=fun v ok=>Ua h hxU (st':=st) (r:=[v0,v1]) rfl v ok
 have hpop:=U9 h hxU (n:=st.length+1) (v:=v0) (by simp) (h.get (by simp) (by simp))
 have hpop2:=U9 h hxU (n:=st.length) (v:=v1) (by simp;omega) (h.get (by simp;omega) (by simp [List.getElem?_append_left]))
 have hfin:=fun (v:Int)=>h.fin (.cells [vI op,vI xa,vI xb]) (st.length+1) ((v::st).reverse)
 have hMb:=fun l=>h.Mb (st.length+1+1) l
 have hMb2:=fun l=>h.Mb (st.length+1) l
 have hMl:=Ie (B:=B) (b:=b) (kb:=kb) (s:=s) (oth:=oth) (lv:=lv) (pv:=pv) (st.length+1+1)
 have gz:=fun l=>Xv (B:=B) (b:=b) (kb:=kb) (s:=s) (oth:=oth) (lv:=lv) (pv:=pv) (st.length+1+1) l
 have hMl2:=Ie (B:=B) (b:=b) (kb:=kb) (s:=s) (oth:=oth) (lv:=lv) (pv:=pv) (st.length+1)
 have gz2:=fun l=>Xv (B:=B) (b:=b) (kb:=kb) (s:=s) (oth:=oth) (lv:=lv) (pv:=pv) (st.length+1) l
 have hMb1:=fun l=>h.Mb st.length l
 have hMl1:=Ie (B:=B) (b:=b) (kb:=kb) (s:=s) (oth:=oth) (lv:=lv) (pv:=pv) st.length
 have gz1:=fun l=>Xv (B:=B) (b:=b) (kb:=kb) (s:=s) (oth:=oth) (lv:=lv) (pv:=pv) st.length l
 have hFl:(QF B b kb s oth lv pv (st.length+1)).length=B.length:=by have:=QS.flen (B:=B) (b:=b) (kb:=kb) (s:=s) (oth:=oth) (lv:=lv) (pv:=pv) (st.length+1) [];simpa using this
 have hbl:=A6 h.hb
 rw [show (⟨B,[]⟩:St)=⟨QM B b kb s oth lv pv (st.length+1+1),[]⟩ from by rw [←List.length_cons (a:=v1),←List.length_cons (a:=v0),h.same]]
 generalize QM B b kb s oth lv pv (st.length+1+1)=M at *
 generalize QM B b kb s oth lv pv (st.length+1)=M2 at *
 generalize QM B b kb s oth lv pv st.length=M1 at *
 generalize QF B b kb s oth lv pv (st.length+1)=F at *
 unfold qC at hMb hMb1 hMb2
 obtain⟨n1,n2,n3,n4,n7,hk,hkk⟩:=hx
 generalize he:Gj op=tk2 at *
 obtain⟨t1,t2⟩:=tk2
 simp only [] at hk
 subst hk
 have hop:=A3u op xa v1 v0
 have hv:C7 s oth ⟨op,xa,xb⟩ (v0::v1::st) loc=opR op xa v1 v0:=by
  unfold C7
  simp only []
  rw [if_neg n1,if_neg n2,if_neg n3,if_neg n4,if_neg n7,if_neg (by omega)];rfl
 rw [hv]
 generalize opR op xa v1 v0=r at *
 obtain⟨r1,r2⟩:=r
 unfold vO at hop
 simp only [] at hop ⊢
 have hp:=hput r1 r2
 have hf:=hfin r1
 generalize (r1::st).reverse.map vI=W at *
 (refine FnS.of_codeV mix Tryz.call35 kv_35 (by simp) (fun hB=>?_);(try simp at hB);(try simp -implicitDefEqProofs))
 ((try simp at htk);(try simp -implicitDefEqProofs [hMb,gz,hMl]);repeat' first|(with_reducible apply A0<;>first|(simp only [eras,era,A1];first|with_reducible assumption)|(simp -implicitDefEqProofs [hMb,gz,hMl])))
 refine Ac hpop ?_
 (try simp -implicitDefEqProofs [hMb2,gz2,hMl2])
 refine Ac hpop2 ?_
 have b1:(op==1)=false:=by simpa using n1
 have b2:(op==2)=false:=by simpa using n2
 have b3:(op==3)=false:=by simpa using n3
 have b4:(op==4)=false:=by simpa using n4
 have b7:(op==7)=false:=by simpa using n7
 ((try simp at hop);(try simp -implicitDefEqProofs [hMb1,gz1,hMl1,b1,b2,b3,b4,b7,n1,n2,n3,n4,n7]);repeat' first|(with_reducible apply A0<;>first|(simp only [eras,era,A1];first|with_reducible assumption)|(simp -implicitDefEqProofs [hMb1,gz1,hMl1,b1,b2,b3,b4,b7,n1,n2,n3,n4,n7])))
 all_goals (repeat' with_reducible apply And.intro)
 all_goals refine Ac hp ?_
 all_goals (try simp -implicitDefEqProofs [hf,hFl])
end Go.Proofs.YtmlpmdccfmmpoaaGreatDoor
end
