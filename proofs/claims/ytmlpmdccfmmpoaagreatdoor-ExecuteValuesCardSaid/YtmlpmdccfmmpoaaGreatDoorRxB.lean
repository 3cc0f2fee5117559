/- Chapter 35's reference: a step that puts a value. -/
import Derived.Test.YtmlpmdccfmmpoaaGreatDoorLea
import Derived.Test.YtmlpmdccfmmpoaaGreatDoorCodeB
set_option linter.unusedSimpArgs false
set_option linter.unusedVariables false
set_option maxHeartbeats 4000000
set_option maxRecDepth 8000
namespace Go.Proofs.YtmlpmdccfmmpoaaGreatDoor
open E
def qC (s:Src) (oth:Int) (sv lv pv:V):List V:=[vI s.ent,vB s.full,.t (.bool (nB s.num)),.t (.sl (qE s.num)),.t (.bool (nB s.den)),.t (.sl (qE s.den)),.t (.sl (s.items.map Item.c)),vI oth,sv,lv,pv]
theorem Xg (s:Src) (f t p:Int) (hlen:s.items.length≤1000) (hamt : ∀x∈s.items,Ag x.amt=true):A3 Tryz.prog 80 [s.qv,vI f,vI t,vI p] (vI (An s.items f t (p == -2) p)):=by
 obtain⟨any,hany⟩ : ∃any,any=(p == -2):=⟨_,rfl⟩
 rw [←hany]
 have hit : ∀i1 i2:List T,True:=fun _ _=>trivial
 obtain⟨ent,full,num,den,items⟩:=s
 simp only [] at hlen hamt ⊢
 unfold Src.qv
 simp only []
 (refine A3.of_code mix Tryz.call80 k_80 (by simp) (fun hB=>?_);(try simp at hB);(try simp -implicitDefEqProofs))
 refine A6 (X:=Nat) (fun k=>k≤items.length) (fun k=>[(1,vI f),(2,vI t),(3,vI p),(4,.ptr 0 0),(9,vI (An (items.take k) f t any p)),(10,vI k)]) (fun _=>⟨[.cells [vI ent,vB full,.t (.bool (nB num)),.t (.sl (qE num)),.t (.bool (nB den)),.t (.sl (qE den)),.t (.sl (items.map Item.c))]],[]⟩) (fun k=>items.length-k) 0 (by omega) ?hs ?_
 case hs=>simp [An]
 rintro k hk hbd
 clear hbd
 have e3:IntKind.i64.wrap ((k:Int)+1)=(k:Int)+1:=wrap64 (by omega) (by omega)
 rcases Nat.lt_or_ge k items.length with h|h
 ·obtain⟨x,hx⟩:=Ab h
  have hnx:=K7 hx f t p any
  have hbd:=K6 (f:=f) (t:=t) (p:=p) (any:=any) (l:=items.take (k+1)) (fun y hy=>hamt y (List.mem_of_mem_take hy))
  have hle:(items.take (k+1)).length≤1000:=by rw [List.length_take];omega
  generalize An (items.take k) f t any p=n at *
  generalize hn':An (items.take (k+1)) f t any p=n' at *
  have hxc:(items.map Item.c)[k]?=some x.c:=by simp [hx]
  have hxc' : ∀h,(items.map Item.c)[k]'h=x.c:=fun h=>by rw [List.getElem?_eq_getElem h] at hxc;exact Option.some.inj hxc
  obtain⟨i1,i2,i3,i4,i5,i6,i7⟩:=x
  simp only [] at hnx
  by_cases hc:f≤i4∧i4≤t∧(any=true∨i5=p)
  ·rw [if_pos hc] at hnx
   obtain⟨c1,c2,c3⟩:=hc
   have w1:IntKind.i64.wrap (n+i7)=n':=by rw [←hnx];exact wrap64 (by omega) (by omega)
   by_cases c4:p = -2
   ·have c4':(p == -2)=true:=by simpa using c4
    subst c4
    (try simp -implicitDefEqProofs [h,hxc,hxc',Item.c,c1,c2,w1,e3])
    exact⟨k+1,by omega,by omega,by simp [hn']⟩
   ·have c4':(p == -2)=false:=by simpa using c4
    have c5:i5=p:=by rcases c3 with h|h;exact absurd (by rw [hany] at h;simpa using h) c4;exact h
    subst c5
    (try simp -implicitDefEqProofs [h,hxc,hxc',Item.c,c1,c2,c4,c4',w1,e3])
    exact⟨k+1,by omega,by omega,by simp [hn']⟩
  ·rw [if_neg hc,Int.add_zero] at hnx
   by_cases c1:f≤i4
   ·by_cases c2:i4≤t
    ·have c3 : ¬p = -2∧¬i5=p:=by
      constructor
      ·intro h;exact hc ⟨c1,c2,.inl (by rw [hany];simpa using h)⟩
      ·intro h;exact hc ⟨c1,c2,.inr h⟩
     have c4':(p == -2)=false:=by simpa using c3.1
     have c5:(i5==p)=false:=by simpa using c3.2
     (try simp -implicitDefEqProofs [h,hxc,hxc',Item.c,c1,c2,c4',c5,e3])
     exact⟨k+1,by omega,by omega,by simp [hn',hnx]⟩
    ·(try simp -implicitDefEqProofs [h,hxc,hxc',Item.c,c1,c2,e3])
     exact⟨k+1,by omega,by omega,by simp [hn',hnx]⟩
   ·(try simp -implicitDefEqProofs [h,hxc,hxc',Item.c,c1,e3])
    exact⟨k+1,by omega,by omega,by simp [hn',hnx]⟩
 ·have hk':k=items.length:=by omega
  subst hk'
  rw [List.take_of_length_le (Nat.le_refl _)]
  (try simp -implicitDefEqProofs)
theorem Xh (b kb n:Nat) (B:List Bx) (hU : ∀m,Aa B.length m B B) (s:Src) (oth:Int) (lv pv:V) (cs:List V) (v:Int) (h1:B[b]?=some (.cells (qC s oth (.bw kb (n+1)) lv pv))) (h2:B[kb]?=some (.buf 3 1 cs)) (h3:cs[n]?=some (vI v)) (hn:n+1≤1000000)
  (hlv:okN B.length 0 lv=true) (hpv:okN B.length 0 pv=true) :
  FnS Tryz.prog 36 [.ptr b 0] ⟨B,[]⟩ (vI v) ⟨B.set b (.cells (qC s oth (.bw kb n) lv pv)),[]⟩:=by
 have hkb:=A7 h2
 have hcn:=A7 h3
 have e1:IntKind.i64.wrap (n:Int)=(n:Int):=Db (by omega)
 have j1:(n:Int)<(n:Int)+1:=by omega
 have j2:(n:Int)≤(n:Int)+1:=by omega
 have j3:n+1≤cs.length:=by omega
 have h3' : ∀h,cs[n]'h=vI v:=fun h=>by rw [List.getElem?_eq_getElem h] at h3;exact Option.some.inj h3
 have hfin:Aa B.length 0 (B.set b (.cells (qC s oth (.bw kb n) lv pv))) (B.set b (.cells (qC s oth (.bw kb n) lv pv))):=Aa.set (show E.leB B.length 0 (.cells _) (.cells _) from ⟨A4 _,by unfold qC;simp [okNs,okN,hlv,hpv];exact hkb⟩) b (hU 0)
 unfold qC at h1 hfin ⊢
 (refine FnS.of_code mix Tryz.call36 k_36 (by simp) (fun hB=>?_);(try simp at hB);(try simp -implicitDefEqProofs))
 (try simp -implicitDefEqProofs [h1,h2,h3,h3',e1,j1,j2,j3,hcn,hfin])
theorem Zv (b:Nat) (B:List Bx) (hU:OkU B) (s:Src) (oth:Int) (lv pv:V) (v:Int) (ok:Bool) (h1:B[b]?=some (.cells (qC s oth .snil lv pv))) (hlv : ∀n,B.length≤n→okN n 0 lv=true) (hpv : ∀n,B.length≤n→okN n 0 pv=true) :
  FnS Tryz.prog 79 [.ptr b 0,vI v,vB ok] ⟨B,[]⟩ (vB (ok&&Ag v)) ⟨B.set b (.cells (qC s oth (.bw B.length 1) lv pv))++[.buf 3 1 [vI v]],[]⟩:=by
 have ha:=Bh v
 have hbl:=A7 h1
 have h1E : ∀l:List Bx,(B++l)[b]?=some (.cells (qC s oth .snil lv pv)):=fun l=>Ak h1 l
 have hst : ∀(l:List Bx) (v:Bx),(B++l).set b v=B.set b v++l:=fun l v=>List.set_append_left _ _ hbl
 have hfin:Aa (B.length+1) 0 (B.set b (.cells (qC s oth (.bw B.length 1) lv pv))++[.buf 3 1 [vI v]]) (B.set b (.cells (qC s oth (.bw B.length 1) lv pv))++[.buf 3 1 [vI v]]):=
  (Aa.appU (Aa.set (show E.leB _ _ (.cells _) (.cells _) from ⟨A4 _,by unfold qC;simp [okNs,okN,hlv (B.length+1) (by omega),hpv (B.length+1) (by omega)]⟩) b (hU _ 0 (by omega)))).2 ⟨Cl [v] _ _,trivial⟩
 unfold qC at h1 h1E hfin ⊢
 cases ok
 ·(refine FnS.of_codeB mix Tryz.call79 kb_79 (by simp) (fun hB=>?_);(try simp at hB);(try simp -implicitDefEqProofs))
  (try simp -implicitDefEqProofs [h1,h1E,hst,maxLen,hfin])
 ·cases hv:Ag v
  ·rw [hv] at ha
   (refine FnS.of_codeB mix Tryz.call79 kb_79 (by simp) (fun hB=>?_);(try simp at hB);(try simp -implicitDefEqProofs))
   ((try simp at ha);(try simp -implicitDefEqProofs [h1,h1E,hst,maxLen,hfin]);repeat' first|(with_reducible apply A0<;>first|(simp only [eras,era,A1];first|with_reducible assumption)|(simp -implicitDefEqProofs [h1,h1E,hst,maxLen,hfin])))
  ·rw [hv] at ha
   (refine FnS.of_codeB mix Tryz.call79 kb_79 (by simp) (fun hB=>?_);(try simp at hB);(try simp -implicitDefEqProofs))
   ((try simp at ha);(try simp -implicitDefEqProofs [h1,h1E,hst,maxLen,hfin]);repeat' first|(with_reducible apply A0<;>first|(simp only [eras,era,A1];first|with_reducible assumption)|(simp -implicitDefEqProofs [h1,h1E,hst,maxLen,hfin])))
theorem Zw (b kb n:Nat) (B:List Bx) (hU:OkU B) (s:Src) (oth:Int) (lv pv:V) (v:Int) (ok:Bool) (st:List Int) (cs:List V) (h1:B[b]?=some (.cells (qC s oth (.bw kb st.length) lv pv))) (h2:B[kb]?=some (.buf 3 1 cs)) (h3:cs.take st.length=st.reverse.map vI) (hn:st.length≤8000) (hlv : ∀n,B.length≤n→okN n 0 lv=true) (hpv : ∀n,B.length≤n→okN n 0 pv=true) :
  FnS Tryz.prog 79 [.ptr b 0,vI v,vB ok] ⟨B,[]⟩ (vB (ok&&Ag v)) ⟨(B.set kb .dead).set b (.cells (qC s oth (.bw B.length (st.length+1)) lv pv))++[.buf 3 1 ((v::st).reverse.map vI)],[]⟩:=by
 have ha:=Bh v
 have hbl:=A7 h1
 have hkl:=A7 h2
 have hne:kb≠b:=fun e=>by rw [e,h1] at h2;cases h2
 have hcl:st.length≤cs.length:=by have:=congrArg List.length h3;simp at this;omega
 have h1E : ∀(l:List Bx),(B.set kb .dead++l)[b]?=some (.cells (qC s oth (.bw kb st.length) lv pv)):=fun l=>by
  rw [List.getElem?_append_left (by simpa using hbl),List.getElem?_set_ne hne];exact h1
 have hst : ∀(l:List Bx) (v:Bx),(B.set kb .dead++l).set b v=(B.set kb .dead).set b v++l:=fun l v=>List.set_append_left _ _ (by simpa using hbl)
 have h3':cs.take st.length=(st.map vI).reverse:=by rw [h3];simp
 have hrev:(st.map vI).reverse++[vI v]=(v::st).reverse.map vI:=by simp
 have j1:st.length+1≤9223372036854775807:=by omega
 have j2:(st.length+1)*8≤140737488355328:=by omega
 have hfin:Aa (B.length+1) 0 ((B.set kb .dead).set b (.cells (qC s oth (.bw B.length (st.length+1)) lv pv))++[.buf 3 1 ((v::st).reverse.map vI)]) ((B.set kb .dead).set b (.cells (qC s oth (.bw B.length (st.length+1)) lv pv))++[.buf 3 1 ((v::st).reverse.map vI)]):=
  (Aa.appU (Aa.set (show E.leB _ _ (.cells _) (.cells _) from ⟨A4 _,by unfold qC;simp [okNs,okN,hlv (B.length+1) (by omega),hpv (B.length+1) (by omega)]⟩) b (Aa.set (show E.leB _ _ .dead .dead from trivial) kb (hU _ 0 (by omega))))).2 ⟨Cl _ _ _,trivial⟩
 rw [←hrev] at hfin ⊢
 unfold qC at h1 h1E hfin ⊢
 cases ok
 ·(refine FnS.of_codeB mix Tryz.call79 kb_79 (by simp) (fun hB=>?_);(try simp at hB);(try simp -implicitDefEqProofs))
  (try simp -implicitDefEqProofs [h1,h2,h1E,hst,maxLen,hcl,h3',j1,j2,hfin])
 ·cases hv:Ag v
  ·rw [hv] at ha
   (refine FnS.of_codeB mix Tryz.call79 kb_79 (by simp) (fun hB=>?_);(try simp at hB);(try simp -implicitDefEqProofs))
   ((try simp at ha);(try simp -implicitDefEqProofs [h1,h2,h1E,hst,maxLen,hcl,h3',j1,j2,hfin]);repeat' first|(with_reducible apply A0<;>first|(simp only [eras,era,A1];first|with_reducible assumption)|(simp -implicitDefEqProofs [h1,h2,h1E,hst,maxLen,hcl,h3',j1,j2,hfin])))
  ·rw [hv] at ha
   (refine FnS.of_codeB mix Tryz.call79 kb_79 (by simp) (fun hB=>?_);(try simp at hB);(try simp -implicitDefEqProofs))
   ((try simp at ha);(try simp -implicitDefEqProofs [h1,h2,h1E,hst,maxLen,hcl,h3',j1,j2,hfin]);repeat' first|(with_reducible apply A0<;>first|(simp only [eras,era,A1];first|with_reducible assumption)|(simp -implicitDefEqProofs [h1,h2,h1E,hst,maxLen,hcl,h3',j1,j2,hfin])))
end Go.Proofs.YtmlpmdccfmmpoaaGreatDoor
section
set_option linter.unusedSimpArgs false
set_option linter.unusedVariables false
set_option maxHeartbeats 4000000
set_option maxRecDepth 8000
namespace Go.Proofs.YtmlpmdccfmmpoaaGreatDoor
open E

def B9 (s:Src) (oth:Int) (x:Ins) (st loc:List Int):Int×Bool:=
 if x.op=1 then (x.a,true)
 else if x.op=2 then (loc.getD x.a.toNat 0,true)
 else if x.op=3 then (An s.items x.a x.b true (-2),true)
 else if x.op=4 then (An s.items x.a x.b false oth,true)
 else if x.op=7 then Dg (st.headD 0) s
 else if tk x.op=1 then opR x.op x.a (st.headD 0) 0
 else opR x.op x.a (st.getD 1 0) (st.headD 0)
theorem Xi (b:Nat) (B:List Bx) (hU:OkU B) (s:Src) (hs:s.Ok) (oth:Int) (ho:oth≠-2) (lv pv:V) (x:Ins) (loc:List Int) (hx:x.op=1∨x.op=2∨x.op=3∨x.op=4) (h1:B[b]?=some (.cells (qC s oth .snil lv pv)))
  (lb:Nat) (lcs:List V) (hl:x.op=2→lv=.bw lb loc.length∧B[lb]?=some (.buf 3 1 lcs)∧lcs[x.a.toNat]?=some (vI (loc.getD x.a.toNat 0))∧0≤x.a∧x.a.toNat<loc.length∧loc.length≤8000)
  (hlv : ∀n,B.length≤n→okN n 0 lv=true) (hpv : ∀n,B.length≤n→okN n 0 pv=true) :
  FnS Tryz.prog 35 [.ptr b 0,x.v] ⟨B,[]⟩ (vB ((B9 s oth x [] loc).2&&Ag (B9 s oth x [] loc).1)) ⟨B.set b (.cells (qC s oth (.bw (B.length+1) 1) lv pv))++[.dead,.buf 3 1 [vI (B9 s oth x [] loc).1]],[]⟩:=by
 have hbl:=A7 h1
 obtain⟨op,xa,xb⟩:=x
 simp only [] at hx hl
 have htk:=My op
 have hxU : ∀n m,E.leB n m (.cells [vI op,vI xa,vI xb]) (.cells [vI op,vI xa,vI xb]):=fun n m=>⟨A4 _,rfl⟩
 have hU1:OkU (B++[.cells [vI op,vI xa,vI xb]]):=fun n m hn=>(Aa.appU (hU n m (by simp at hn;omega))).2 ⟨hxU _ _,trivial⟩
 have h1E : ∀l:List Bx,(B++l)[b]?=some (.cells (qC s oth .snil lv pv)):=fun l=>Ak h1 l
 have gz : ∀(l:List Bx),(B++l)[B.length]?=l[0]?:=fun l=>by rw [List.getElem?_append_right (by omega)];simp
 have hput : ∀v ok,FnS Tryz.prog 79 [.ptr b 0,vI v,vB ok] ⟨B++[.cells [vI op,vI xa,vI xb]],[]⟩ (vB (ok&&Ag v)) ⟨B.set b (.cells (qC s oth (.bw (B.length+1) 1) lv pv))++[.cells [vI op,vI xa,vI xb],.buf 3 1 [vI v]],[]⟩:=fun v ok=>by
  have:=Zv b (B++[.cells [vI op,vI xa,vI xb]]) hU1 s oth lv pv v ok (h1E _) (fun n hn=>hlv n (by simp at hn;omega)) (fun n hn=>hpv n (by simp at hn;omega))
  rw [List.set_append_left _ _ hbl] at this
  simpa [List.append_assoc] using this
 have hfin : ∀v:Int,Aa (B.length+2) 0 (B.set b (.cells (qC s oth (.bw (B.length+1) 1) lv pv))++[.cells [vI op,vI xa,vI xb],.buf 3 1 [vI v]]) (B.set b (.cells (qC s oth (.bw (B.length+1) 1) lv pv))++[.dead,.buf 3 1 [vI v]]):=fun v=>
  (Aa.appU (Aa.set (show E.leB _ _ (.cells _) (.cells _) from ⟨A4 _,by unfold qC;simp [okNs,okN,hlv (B.length+2) (by omega),hpv (B.length+2) (by omega)]⟩) b (hU _ 0 (by omega)))).2 ⟨trivial,Cl [v] _ _,trivial⟩
 have hsum:=fun f t p=>Xg s f t p hs.len hs.amt
 unfold B9
 simp only []
 rcases hx with rfl|rfl|rfl|rfl
 ·have e:F5 1=(0,1):=by decide
  rw [e] at htk
  have hp:=hput xa true
  generalize hfin xa=hf at *
  unfold qC at h1E
  (refine FnS.of_codeV mix Tryz.call35 kv_35 (by simp) (fun hB=>?_);(try simp at hB);(try simp -implicitDefEqProofs))
  ((try simp at htk);(try simp -implicitDefEqProofs [h1E,gz]);repeat' first|(with_reducible apply A0<;>first|(simp only [eras,era,A1];first|with_reducible assumption)|(simp -implicitDefEqProofs [h1E,gz])))
  refine A9 hp ?_
  (try simp -implicitDefEqProofs [hf])
 ·have e:F5 2=(0,1):=by decide
  rw [e] at htk
  obtain⟨rfl,l2,l3,l4,l5,l6⟩:=hl rfl
  have hlE : ∀l:List Bx,(B++l)[lb]?=some (.buf 3 1 lcs):=fun l=>Ak l2 l
  have hll:=A7 l3
  have l3' : ∀h,lcs[xa.toNat]'h=vI (loc.getD xa.toNat 0):=fun h=>by rw [List.getElem?_eq_getElem h] at l3;exact Option.some.inj l3
  have l7:xa<(loc.length:Int):=by omega
  have l8:xa.toNat+1≤lcs.length:=hll
  have hp:=hput (loc.getD xa.toNat 0) true
  have hf:=hfin (loc.getD xa.toNat 0)
  rw [show (if (2:Int)=1 then (xa,true) else if (2:Int)=2 then (loc.getD xa.toNat 0,true) else if (2:Int)=3 then (An s.items xa xb true (-2),true) else if (2:Int)=4 then (An s.items xa xb false oth,true) else if (2:Int)=7 then Dg (([]:List Int).headD 0) s else if tk 2=1 then opR 2 xa (([]:List Int).headD 0) 0 else opR 2 xa (([]:List Int).getD 1 0) (([]:List Int).headD 0))=(loc.getD xa.toNat 0,true) from by simp]
  generalize loc.getD xa.toNat 0=v at *
  unfold qC at h1E
  (refine FnS.of_codeV mix Tryz.call35 kv_35 (by simp) (fun hB=>?_);(try simp at hB);(try simp -implicitDefEqProofs))
  ((try simp at htk);(try simp -implicitDefEqProofs [h1E,gz,hlE,l3,l3',l4,l7,l8,hll]);repeat' first|(with_reducible apply A0<;>first|(simp only [eras,era,A1];first|with_reducible assumption)|(simp -implicitDefEqProofs [h1E,gz,hlE,l3,l3',l4,l7,l8,hll])))
  all_goals (repeat' with_reducible apply And.intro)
  all_goals refine A9 hp ?_
  all_goals (try simp -implicitDefEqProofs [hf])
 ·have e:F5 3=(0,1):=by decide
  rw [e] at htk
  have hsm:=hsum xa xb (-2)
  rw [show ((-2:Int) == -2)=true from rfl] at hsm
  have hp:=hput (An s.items xa xb true (-2)) true
  have hf:=hfin (An s.items xa xb true (-2))
  simp only [show ¬(3:Int)=1 by decide,show ¬(3:Int)=2 by decide,if_false,if_true]
  generalize An s.items xa xb true (-2)=v at *
  unfold Src.qv at hsm
  unfold qC at h1E
  (refine FnS.of_codeV mix Tryz.call35 kv_35 (by simp) (fun hB=>?_);(try simp at hB);(try simp -implicitDefEqProofs))
  ((try simp at htk hsm);(try simp -implicitDefEqProofs [h1E,gz]);repeat' first|(with_reducible apply A0<;>first|(simp only [eras,era,A1];first|with_reducible assumption)|(simp -implicitDefEqProofs [h1E,gz])))
  all_goals (repeat' with_reducible apply And.intro)
  all_goals ((try simp at hsm);(try simp -implicitDefEqProofs [h1E,gz]);repeat' first|(with_reducible apply A0<;>first|(simp only [eras,era,A1];first|with_reducible assumption)|(simp -implicitDefEqProofs [h1E,gz])))
  all_goals (repeat' with_reducible apply And.intro)
  all_goals refine A9 hp ?_
  all_goals (try simp -implicitDefEqProofs [hf])
 ·have e:F5 4=(0,1):=by decide
  rw [e] at htk
  have hsm:=hsum xa xb oth
  rw [show (oth == -2)=false by simpa using ho] at hsm
  have hp:=hput (An s.items xa xb false oth) true
  have hf:=hfin (An s.items xa xb false oth)
  simp only [show ¬(4:Int)=1 by decide,show ¬(4:Int)=2 by decide,show ¬(4:Int)=3 by decide,if_false,if_true]
  generalize An s.items xa xb false oth=v at *
  unfold Src.qv at hsm
  unfold qC at h1E
  (refine FnS.of_codeV mix Tryz.call35 kv_35 (by simp) (fun hB=>?_);(try simp at hB);(try simp -implicitDefEqProofs))
  ((try simp at htk hsm);(try simp -implicitDefEqProofs [h1E,gz]);repeat' first|(with_reducible apply A0<;>first|(simp only [eras,era,A1];first|with_reducible assumption)|(simp -implicitDefEqProofs [h1E,gz])))
  all_goals (repeat' with_reducible apply And.intro)
  all_goals ((try simp at hsm);(try simp -implicitDefEqProofs [h1E,gz]);repeat' first|(with_reducible apply A0<;>first|(simp only [eras,era,A1];first|with_reducible assumption)|(simp -implicitDefEqProofs [h1E,gz])))
  all_goals (repeat' with_reducible apply And.intro)
  all_goals refine A9 hp ?_
  all_goals (try simp -implicitDefEqProofs [hf])
structure QS (B:List Bx) (b kb:Nat) (s:Src) (oth:Int) (lv pv:V) (st:List Int) (cs:List V):Prop where
 U:OkU B
 hb:B[b]?=some (.cells (qC s oth (.bw kb st.length) lv pv))
 hk:B[kb]?=some (.buf 3 1 cs)
 ht:cs.take st.length=st.reverse.map vI
 hl:st.length≤8000
 lv : ∀n m,B.length≤n→okN n m lv=true
 pv : ∀n m,B.length≤n→okN n m pv=true
def QM (B:List Bx) (b kb:Nat) (s:Src) (oth:Int) (lv pv:V) (n:Nat):List Bx:=B.set b (.cells (qC s oth (.bw kb n) lv pv))
def QF (B:List Bx) (b kb:Nat) (s:Src) (oth:Int) (lv pv:V) (n:Nat):List Bx:=(B.set kb .dead).set b (.cells (qC s oth (.bw (B.length+1) n) lv pv))
section
variable {B:List Bx} {b kb:Nat} {s:Src} {oth:Int} {lv pv:V} {st:List Int} {cs:List V}
theorem QS.ne (h:QS B b kb s oth lv pv st cs):kb≠b:=fun e=>by have:=h.hk;rw [e,h.hb] at this;cases this
theorem QS.same (h:QS B b kb s oth lv pv st cs):QM B b kb s oth lv pv st.length=B:=by
 obtain⟨h1,h2⟩:=List.getElem?_eq_some_iff.1 h.hb
 unfold QM;rw [←h2,List.set_getElem_self]
theorem Pf {n m:Nat} {sv lv pv:V} (h1:okN n m sv=true) (h2:okN n m lv=true) (h3:okN n m pv=true):E.leB n m (.cells (qC s oth sv lv pv)) (.cells (qC s oth sv lv pv)):=⟨A4 _,by unfold qC;simp [okNs,okN,h1,h2,h3]⟩
theorem QS.len (x:Bx) (k:Nat):(QM B b kb s oth lv pv k++[x]).length=B.length+1:=by unfold QM;simp
theorem QS.UM (h:QS B b kb s oth lv pv st cs) {x:Bx} (hx : ∀n m,E.leB n m x x) (k:Nat):OkU (QM B b kb s oth lv pv k++[x]):=fun n m hn=>by
 rw [QS.len] at hn
 have hk:=A7 h.hk
 exact (Aa.appU (Aa.set (Pf (by simp [okN];omega) (h.lv n m (by omega)) (h.pv n m (by omega))) b (h.U n m (by omega)))).2 ⟨hx _ _,trivial⟩
theorem QS.Mb (h:QS B b kb s oth lv pv st cs) (k:Nat) (l:List Bx):(QM B b kb s oth lv pv k++l)[b]?=some (.cells (qC s oth (.bw kb k) lv pv)):=by
 have hb:=A7 h.hb
 unfold QM
 rw [List.getElem?_append_left (by simpa using hb),List.getElem?_set_self hb]
theorem QS.Mk (h:QS B b kb s oth lv pv st cs) (k:Nat) (l:List Bx):(QM B b kb s oth lv pv k++l)[kb]?=some (.buf 3 1 cs):=by
 have hk:=A7 h.hk
 unfold QM
 rw [List.getElem?_append_left (by simpa using hk),List.getElem?_set_ne (fun e=>h.ne e.symm)]
 exact h.hk
theorem QS.get (h:QS B b kb s oth lv pv st cs) {j:Nat} {v:Int} (hj:j<st.length) (hv:st.reverse[j]?=some v):cs[j]?=some (vI v):=by
 have:=congrArg (fun l=>l[j]?) h.ht
 simp only [List.getElem?_take,if_pos hj,List.getElem?_map,hv,Option.map_some] at this
 exact this
theorem QS.takes (h:QS B b kb s oth lv pv st cs) {st' r:List Int} (e:st=r++st'):cs.take st'.length=st'.reverse.map vI:=by
 have h1:=h.ht
 rw [e,List.reverse_append,List.map_append,List.length_append] at h1
 have h2:=congrArg (List.take st'.length) h1
 rw [List.take_take,Nat.min_eq_left (by omega),List.take_left' (by simp)] at h2
 exact h2
theorem R7 (h:QS B b kb s oth lv pv st cs) {x:Bx} (hx : ∀n m,E.leB n m x x) {n:Nat} {v:Int} (hn:n<st.length) (hv:cs[n]?=some (vI v)) :
  FnS Tryz.prog 36 [.ptr b 0] ⟨QM B b kb s oth lv pv (n+1)++[x],[]⟩ (vI v) ⟨QM B b kb s oth lv pv n++[x],[]⟩:=by
 have hl:=h.hl
 have hbl:=A7 h.hb
 have:=Xh b kb n (QM B b kb s oth lv pv (n+1)++[x]) (fun m=>h.UM hx _ _ _ (Nat.le_refl _)) s oth lv pv cs v (h.Mb _ _) (h.Mk _ _) hv (by omega) (h.lv _ _ (by rw [QS.len];omega)) (h.pv _ _ (by rw [QS.len];omega))
 rw [List.set_append_left _ _ (by unfold QM;simpa using hbl)] at this
 unfold QM at this ⊢
 rw [List.set_set] at this
 exact this
theorem R8 (h:QS B b kb s oth lv pv st cs) {x:Bx} (hx : ∀n m,E.leB n m x x) {st' r:List Int} (e:st=r++st') (v:Int) (ok:Bool) :
  FnS Tryz.prog 79 [.ptr b 0,vI v,vB ok] ⟨QM B b kb s oth lv pv st'.length++[x],[]⟩ (vB (ok&&Ag v)) ⟨QF B b kb s oth lv pv (st'.length+1)++[x,.buf 3 1 ((v::st').reverse.map vI)],[]⟩:=by
 have hl:=h.hl
 have hbl:=A7 h.hb
 have hkl:=A7 h.hk
 have hs:st'.length≤st.length:=by rw [e];simp
 have:=Zw b kb 0 (QM B b kb s oth lv pv st'.length++[x]) (h.UM hx _) s oth lv pv v ok st' cs (h.Mb _ _) (h.Mk _ _) (h.takes e) (by omega) (fun n hn=>h.lv _ _ (by rw [QS.len] at hn;omega)) (fun n hn=>h.pv _ _ (by rw [QS.len] at hn;omega))
 rw [QS.len,List.set_append_left _ _ (by unfold QM;simpa using hkl),List.set_append_left _ _ (by unfold QM;simpa using hbl),List.append_assoc] at this
 have e2:((QM B b kb s oth lv pv st'.length).set kb .dead).set b (.cells (qC s oth (.bw (B.length+1) (st'.length+1)) lv pv))=QF B b kb s oth lv pv (st'.length+1):=by
  unfold QM QF
  rw [List.set_comm _ _ (fun e=>h.ne e.symm),List.set_set]
 rw [e2] at this
 exact this
theorem QS.fin (h:QS B b kb s oth lv pv st cs) (x:Bx) (n:Nat) (l:List Int):Aa (B.length+2) 0 (QF B b kb s oth lv pv n++[x,.buf 3 1 (l.map vI)]) (QF B b kb s oth lv pv n++[.dead,.buf 3 1 (l.map vI)]):=
 (Aa.appU (Aa.set (Pf (by simp [okN]) (h.lv _ _ (by omega)) (h.pv _ _ (by omega))) b (Aa.set (show E.leB _ _ .dead .dead from trivial) kb (h.U _ 0 (by omega))))).2 ⟨trivial,Cl _ _ _,trivial⟩
theorem QS.flen (n:Nat) (l:List Bx):(QF B b kb s oth lv pv n++l).length=B.length+l.length:=by unfold QF;simp
end
end Go.Proofs.YtmlpmdccfmmpoaaGreatDoor
end
