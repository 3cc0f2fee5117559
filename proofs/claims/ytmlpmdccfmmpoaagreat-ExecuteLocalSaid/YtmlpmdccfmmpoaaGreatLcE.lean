/- Chapter 35: one posting is what a view shows; plain laws of single runs. -/
import Derived.Test.YtmlpmdccfmmpoaaGreatLcC
import Derived.Test.YtmlpmdccfmmpoaaGreatExH
import Derived.Test.YtmlpmdccfmmpoaaGreatSlices
import Derived.Test.YtmlpmdccfmmpoaaGreatExO
set_option linter.unusedSimpArgs false
set_option linter.unusedVariables false
set_option maxHeartbeats 4000000
set_option maxRecDepth 8000
namespace Go.Proofs.YtmlpmdccfmmpoaaGreat
open E
attribute [local simp] Cw.reflU

theorem Tm {T:List Nat} {B:List Bx} (h:OkU B):OkT ⟨B,T⟩:=fun n m h1 _=>h n m h1
theorem ColP.more {T:List Nat} {B0:List Bx} {X:List Bx} {R:List Posting×Int} {r:V} {S':St} (h:ColP T (B0++X) R r S'):ColP T B0 R r S':=by
 obtain⟨B',ov,h1,h2,h3,h4,h5⟩:=h
 exact⟨B',ov,h1,h2,⟨by have:=h3.1;simp at this;omega,fun j x hj hn=>h3.2 j x (Ad hj X) (by simp)⟩,h4,h5⟩
def Mq (c:Code) (l:List Src):List (Option Posting):=l.flatMap (Bp (fun s o=>B9 c s o 0) l c.pair)
theorem Yp {T:List Nat} (c:Code) (l:List Src) (B:List Bx) (hU:OkU B) (hok:Ca l=true) (hval:(Cc c).2=true) (hl:l.length≤13) (hci:c.ins.length≤8000) (hs : ∀s∈l,s.num.natAbs≤100000∧0<s.den∧s.den≤100000∧s.items.length≤1000) :
  FnE Tryz.prog 11 [Code.l [c],Src.l l] ⟨B,T⟩ (ColP T B (Am [] (Mq c l))):=by
 have hv:=J5 l (by omega)
 rw [hok] at hv
 have hcon:A7 Tryz.prog 24 [Code.l [c],.fn (.func 25) []] (vB ([c].any fun c=>!(Cc c).2)):=He St0 Wl [c] 25 [] rfl (fun c=>!(Cc c).2) (fun d hm=>by
  have:=List.mem_singleton.1 hm
  subst this
  exact Tf d (by omega))
 have hcon2:([c].any fun c=>!(Cc c).2)=false:=by simp [hval]
 rw [hcon2] at hcon
 have hUX:OkU (B++[.cells [Code.l [c]]]):=fun n m hn=>(A6.appU (hU n m (by simp at hn;omega))).2 ⟨⟨A3 _,rfl⟩,trivial⟩
 have hb0:(B++[Bx.cells [Code.l [c]]])[B.length]?=some (.cells [Code.l [c]]):=by rw [List.getElem?_append_right (by omega)];simp
 have hcol:=R2 (T:=T) 28 29 [.ptr B.length 0] [.ptr B.length 0] (B++[.cells [Code.l [c]]]) hUX l c.pair (fun s o=>B9 c s o 0) (by omega) (fun k m hk=>by simp [okNs,okN];simp at hk;omega) (fun k m hk=>by simp [okNs,okN];simp at hk;omega)
  (fun C hC=>Tg [c] 0 c rfl B.length _ (Tm hC) (Ad hb0 C))
  (fun B2 b mb s oth hB2 hk hsm hf hp hb hmb=>by
   obtain⟨q1,q2,q3,q4⟩:=hs s hsm
   have q5:=(Cz hok hsm).2.2
   exact T8 B.length b mb 0 [c] c _ (Tm hB2) s oth ⟨q1,q2,q3,q4,q5⟩ (hk.2 _ _ hb0 (by simp)) rfl hb hmb hval hci (fun hpp=>by
    rw [if_pos hpp] at hp
    obtain⟨t,ht1,_,ht3,_⟩:=hp
    rw [←ht3];exact (Cz hok ht1).1))
 have z0 : ∀l:List Bx,(B++l)[B.length]?=l[0]?:=fun l=>by rw [List.getElem?_append_right (by omega)];simp
 unfold Src.l at hv hcol ⊢
 simp only [Code.l,List.map_cons,List.map_nil] at hcon hcol ⊢
 change FnE _ _ _ _ (ColP T (B++[Bx.cells [.t (.sl [c.c])]]) (Am [] (Mq c l))) at hcol
 generalize Am [] (Mq c l)=R at *
 (refine FnE.of_code mix Tryz.call11 k_11 (by simp) (fun hB=>?_);(try simp at hB);(try simp -implicitDefEqProofs))
 ((try simp at hv hcon);(try simp -implicitDefEqProofs [z0]);repeat' first|(with_reducible apply A0<;>first|(simp only [eras,era,A1];first|with_reducible assumption)|(simp -implicitDefEqProofs [z0])))
 refine Rn hcol ?_
 rintro r S' h
 obtain⟨B',ov,rfl,hBU,hk,rfl,ho⟩:=h.more
 have h8:=hBU B'.length T.length (Nat.le_refl _)
 have h7:=hk.1
 (try simp -implicitDefEqProofs)
 refine⟨.tup [ov,vI R.2],⟨B',T⟩,⟨B',ov,rfl,hBU,hk,rfl,ho⟩,.inl ?_⟩
 have hov:okN B'.length T.length ov=true:=by
  split at ho
  ·rcases ho with ⟨rfl,_⟩|⟨kb,rfl,hkb⟩
   ·rfl
   ·have:=A5 hkb
    simp [okN,this]
  ·rw [ho];rfl
 simp [h8,okN,okNs,hov]
 omega
end Go.Proofs.YtmlpmdccfmmpoaaGreat
section
set_option linter.unusedSimpArgs false
set_option linter.unusedVariables false
namespace Go.Proofs.YtmlpmdccfmmpoaaGreat
namespace E
theorem Dl {a b:Nat} : ∀{vs:List V},(∀j,j<vs.length→okN a b (vs.getD j .junk)=true)→okNs a b vs=true
 | [],_=>rfl
 | v::vs,h=>by
  have h0:=h 0 (by simp)
  have h1:=Dl (vs:=vs) fun j hj=>by have:=h (j+1) (by simpa using hj);simpa using this
  simp only [okNs,Bool.and_eq_true]
  exact⟨by simpa using h0,h1⟩
theorem RelV.okB {g:Gh} {tk:List Nat} {v:V} {u:Value} (h:RelV g tk v u):okN g.β.length tk.length v=true:=by
 induction h with
 | t x v h=>rfl
 | und=>rfl
 | junk v=>rfl
 | snil=>rfl
 | full es a h=>rfl
 | own k e z es v n h hz hn hle hg=>have:=(List.getElem?_eq_some_iff.1 hn).1;simp [okN,this]
 | ptr b o blk h=>have:=(List.getElem?_eq_some_iff.1 h).1;simp [okN,this]
 | tp e o blk off c hI hr=>rfl
 | fn f caps vs hl hr ih=>simp only [okN];exact Dl ih
 | agg cs vs hl hr ih=>simp only [okN];exact Dl ih
 | tup cs vs hl hr ih=>simp only [okN];exact Dl ih
 | mp b blk h=>have:=(List.getElem?_eq_some_iff.1 h).1;simp [okN,this]
 | vw b o n blk cap h hc hm=>have:=(List.getElem?_eq_some_iff.1 h).1;simp [okN,this]
 | bw b n blk cap h hc hk hm=>have:=(List.getElem?_eq_some_iff.1 h).1;simp [okN,this]
theorem Cw.self : ∀(K:List Nat),Cw K K
 | []=>trivial
 | _::K=>⟨rfl,Cw.self K⟩
theorem A6.self {n m:Nat} : ∀{B:List Bx},(∀(i:Nat) (x:Bx),B[i]?=some x→E.leB n m x x)→A6 n m B B
 | [],_=>trivial
 | b::B,h=>⟨h 0 b rfl,A6.self fun i x hx=>h (i+1) x (by simpa using hx)⟩
theorem Inv.okS {g:Gh} {S:St} {w:World} (hI:Inv g S w):OkS S:=by
 refine⟨A6.self fun i x hx=>?_,Cw.self _⟩
 have hil:=(List.getElem?_eq_some_iff.1 hx).1
 obtain⟨blk,hb⟩ : ∃blk,g.β[i]?=some blk:=⟨_,List.getElem?_eq_getElem (by rw [hI.len];exact hil)⟩
 have hbox:=hI.box i blk x hb hx
 rw [←hI.len]
 cases x with
 | dead=>trivial
 | cells cs=>
  obtain⟨vs,ty,_,_,h⟩:=hbox
  exact⟨A3 _,Dl fun j hj=>(h j hj).okB⟩
 | mp es=>
  obtain⟨ms,clock,_,h1,h2,_⟩:=hbox
  refine⟨rfl,Dl fun j hj=>?_,Dl fun j hj=>?_⟩
  ·simp only [List.length_map] at hj
   obtain⟨m,_,h3,h4,_⟩:=h2 j hj
   have:=h3.okB
   simpa [List.getD_eq_getElem?_getD,hj] using this
  ·simp only [List.length_map] at hj
   obtain⟨m,_,h3,h4,_⟩:=h2 j hj
   have:=h4.okB
   simpa [List.getD_eq_getElem?_getD,hj] using this
 | buf e z cs=>
  obtain⟨vs,_,_,_,h⟩:=hbox
  exact⟨rfl,rfl,A3 _,Dl fun j hj=>(h j hj).okB⟩
 | itr s p=>exact⟨rfl,rfl⟩
theorem FnS.ofOk {P:Program} {f:Nat} {vs:List V} {S S':St} {r:V} (hE:Bd P f) (h:OkS S→FnS P f vs S r S'):FnS P f vs S r S':=⟨hE,fun g w us hI hus hrel=>(h (Inv.okS hI)).2 g w us hI hus hrel⟩
end E
end Go.Proofs.YtmlpmdccfmmpoaaGreat
end
namespace Go.Proofs.YtmlpmdccfmmpoaaGreat
open E
attribute [local simp] Cw.reflU

theorem RelV.era' {g:Gh} {tk:List Nat} {v:V} {u:Value} (h:RelV g tk v u):RelV g tk (E.era v) u:=by
 induction h with
 | t x v h=>exact .t x v h
 | und=>exact .und
 | junk v=>exact .junk v
 | snil=>exact .t _ _ .slnil
 | full es a h=>exact .t _ _ h
 | own k e z es v n h hz hn hle hg=>exact .t _ _ h
 | ptr b o blk h=>exact .junk _
 | tp e o blk off c hI hr=>exact .tp e o blk off c hI hr
 | fn f caps vs hl hr ih=>
  simp only [E.era,Co]
  refine .fn f _ vs (by simpa using hl) (fun j hj=>?_)
  have hj':j<caps.length:=by simpa using hj
  have:=ih j hj'
  simpa [List.getD_eq_getElem?_getD,hj'] using this
 | agg cs vs hl hr ih=>
  simp only [E.era,Co]
  refine .agg _ vs (by simpa using hl) (fun j hj=>?_)
  have hj':j<cs.length:=by simpa using hj
  have:=ih j hj'
  simpa [List.getD_eq_getElem?_getD,hj'] using this
 | tup cs vs hl hr ih=>
  simp only [E.era,Co]
  refine .tup _ vs (by simpa using hl) (fun j hj=>?_)
  have hj':j<cs.length:=by simpa using hj
  have:=ih j hj'
  simpa [List.getD_eq_getElem?_getD,hj'] using this
 | mp b blk h=>exact .junk _
 | vw b o n blk cap h hc hm=>exact .junk _
 | bw b n blk cap h hc hk hm=>exact .junk _
theorem FnE.eras {P:Program} {f:Nat} {vs:List V} {S:St} {Φ:V→St→Prop} (h:FnE P f (E.eras vs) S Φ):FnE P f vs S Φ:=by
 refine⟨h.1,fun g w us hI hus hrel=>h.2 g w us hI (by rw [Co];simpa using hus) fun j hj=>?_⟩
 rw [Co] at hj ⊢
 have hj':j<vs.length:=by simpa using hj
 have:=RelV.era' (hrel j hj')
 simpa [List.getD_eq_getElem?_getD,hj'] using this
theorem R3 {g:Gh} {tk:List Nat} {es:List (List T)} {u:Value} (h:RelV g tk (.full es) u):RelV g tk (.t (.sl es)) u:=by
 cases h with
 | full es a h=>exact .t _ _ h
theorem FnS.full {P:Program} {f:Nat} {es:List (List T)} {vs:List V} {S S':St} {r:V} (h:FnS P f (.t (.sl es)::vs) S r S'):FnS P f (.full es::vs) S r S':=⟨h.1,fun g w us hI hus hrel=>h.2 g w us hI (by simpa using hus) fun j hj=>by
 have:=hrel j (by simpa using hj)
 cases j with
 | zero=>
  simp only [List.getD_cons_zero] at this ⊢
  exact R3 this
 | succ j=>simpa using this⟩
theorem Mr {c:Code} {l:List Src} {q:List Posting} (h:Dy [c] l=some q):Am [] (Mq c l)=(q,0):=by
 have e:Mq c l=(Cm l c.pair).map fun z=>B9 c z.1 z.2 0:=(K4 (fun s o=>B9 c s o 0) l c.pair).symm
 rw [J0,←e] at h
 rw [Es,h];rfl
theorem V7 {T:List Nat} (p:Posting) (hp:p.parts.length≤1000000) {B:List Bx} (hbU:A6 B.length T.length B B) {kb k:Nat} {cs:List V} (hb:B[kb]?=some (.buf 43 5 cs)) (hl:(k+1)*5≤cs.length) (hk:k≤1000000) (hcs:(cs.drop (k*5)).take 5=p.c.map .t) :
  FnS Tryz.prog 14 [.t (.sl [p.c]),.vw kb (k*5) 1] ⟨B,T⟩ (vB true) ⟨B,T⟩:=by
 have hc : ∀j,j<5→cs[k*5+j]?=(p.c.map V.t)[j]?:=fun j hj=>by
  rw [←hcs,List.getElem?_take_of_lt hj,List.getElem?_drop]
 obtain⟨kd,en,ot,ru,ps⟩:=p
 simp only [] at hp
 have c0:=hc 0 (by omega)
 have c1:=hc 1 (by omega)
 have c2:=hc 2 (by omega)
 have c3:=hc 3 (by omega)
 have c4:=hc 4 (by omega)
 simp only [Posting.c,List.map_cons,List.getElem?_cons_zero,List.getElem?_cons_succ,Nat.add_zero] at c0 c1 c2 c3 c4
 (refine FnS.of_code mix Tryz.call14 k_14 (by simp) (fun hB=>?_);(try simp at hB);(try simp -implicitDefEqProofs))
 (try simp -implicitDefEqProofs [hb,c0,c1,c2,c3,c4])
 have l1:k*5+1≤cs.length:=by omega
 have l2:k*5+1+1≤cs.length:=by omega
 have l3:k*5+2+1≤cs.length:=by omega
 have l4:k*5+3+1≤cs.length:=by omega
 have l5:k*5+4+1≤cs.length:=by omega
 refine Ac (X:=Nat) (fun j=>j≤1) (fun j=>[(0,.t (.sl [[.int .i64 kd,.int .i64 en,.int .i64 ot,.int .i64 ru,.sl (ps.map Part.c)]])),(1,.vw kb (k*5) 1),(5,vI j)]) (fun _=>⟨B,T⟩) (fun j=>1-j) 0 (by omega) ?hs ?_
 case hs=>
  have:=A5 hb
  simp [okN,hbU,this]
  all_goals omega
 rintro j hj hbd
 clear hbd
 rcases (by omega:j=0∨j=1) with rfl|rfl
 ·(try simp -implicitDefEqProofs [hb,c0,c1,c2,c3,c4,l1,l2,l3,l4,l5])
  have hkB:=A5 hb
  refine Ac (X:=Nat) (fun j=>j≤ps.length) (fun j=>[(0,.t (.sl [[.int .i64 kd,.int .i64 en,.int .i64 ot,.int .i64 ru,.sl (ps.map Part.c)]])),(1,.vw kb (k*5) 1),(5,vI (0:Nat)),(6,vI j)]) (fun _=>⟨B,T⟩) (fun j=>ps.length-j) 0 (by omega) (by simp [okN,hbU,hkB]) ?_
  rintro j hj hbd
  clear hbd
  rcases Nat.lt_or_ge j ps.length with h2|h2
  ·obtain⟨x,hx⟩:=Aa h2
   have e4:IntKind.i64.wrap ((j:Int)+1)=(j:Int)+1:=wrap64 (by omega) (by omega)
   have hxc:(ps.map Part.c)[j]?=some x.c:=by simp [hx]
   have hxc' : ∀h,(ps.map Part.c)[j]'h=x.c:=fun h=>by rw [List.getElem?_eq_getElem h] at hxc;exact Option.some.inj hxc
   obtain⟨ac,am⟩:=x
   have hfin2 : ∃z':Nat,z'≤ps.length∧ps.length-z'<ps.length-j∧(z':Int)=(j:Int)+1:=⟨j+1,by omega,by omega,by push_cast;rfl⟩
   (try simp -implicitDefEqProofs [hb,c0,c1,c2,c3,c4,l1,l2,l3,l4,l5,h2,hxc,hxc',Part.c,e4,hbU])
   exact⟨j+1,by omega,by omega,hkB,by push_cast;rfl⟩
  ·have:j=ps.length:=by omega
   subst this
   (try simp -implicitDefEqProofs [hb,c0,c1,c2,c3,c4,l1,l2,l3,l4,l5,hbU])
   exact⟨1,by omega,by omega,by simp [hkB]⟩
 ·(try simp -implicitDefEqProofs [hbU])
end Go.Proofs.YtmlpmdccfmmpoaaGreat
