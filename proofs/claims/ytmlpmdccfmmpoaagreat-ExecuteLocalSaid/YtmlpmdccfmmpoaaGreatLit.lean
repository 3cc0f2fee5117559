/- Chapter 35: results that stay in buffers; items turned; the reference's Valid and Same; the law ExecuteItems. -/
import Derived.Test.YtmlpmdccfmmpoaaGreatLea
import Derived.Test.YtmlpmdccfmmpoaaGreatExO
import Derived.Test.YtmlpmdccfmmpoaaGreatCodeM
import Derived.Test.YtmlpmdccfmmpoaaGreatExS
set_option linter.unusedSimpArgs false
set_option linter.unusedVariables false
set_option maxHeartbeats 4000000
set_option maxRecDepth 8000
namespace Go.Proofs.YtmlpmdccfmmpoaaGreat
open E
theorem J6 {l:List Sou} {cs:List Code} (h:Mo l cs=true):l.length≤13∧cs.length≤10∧(∀c∈cs,c.ins.length≤400)∧∀x∈l,x.items.length≤60:=by
 unfold Mo Gk at h
 simp only [Bool.and_eq_true,List.all_eq_true,decide_eq_true_eq] at h
 exact⟨h.1.2,h.2,fun c hc=>(h.1.1.2 c hc).2,h.1.1.1⟩
theorem Mp {l:List Sou} {cs:List Code} (h:Mo l cs=true) (hw : ∀x∈l,x.wf) : ∀s∈l.map Sou.src,s.num.natAbs≤100000∧0<s.den∧s.den≤100000∧s.items.length≤1000:=by
 intro s hs
 obtain⟨x,hx,rfl⟩:=List.mem_map.1 hs
 have h1:=(J6 h).2.2.2 x hx
 obtain⟨h2,h3⟩:=hw x hx
 have h4:=Oz (a:=x.sh) (q:=10000) (by decide)
 have h5:=S4 (a:=x.sh) (q:=10000)
 have h6:=Oy (a:=x.sh) (q:=10000) (by decide)
 unfold Sou.src
 exact⟨by simp only [];omega,h6,by simp only [];omega,by simp only [];omega⟩
theorem V4 {l:List Sou} {cs:List Code} (h:Mo l cs=true) (hw : ∀x∈l,x.wf):A7 Tryz.prog 11 [Code.l cs,Src.l (l.map Sou.src)] (.tup [Posting.l (Gc cs (l.map Sou.src)).1,vI (Gc cs (l.map Sou.src)).2]):=by
 obtain⟨h1,h2,h3,h4⟩:=J6 h
 exact Th cs (l.map Sou.src) (by simpa using h1) (by omega) (fun c hc=>by have:=h3 c hc;omega) (Mp h hw)
theorem Og {ps l:List Part} (h:D7 ps=some l):l.length≤ps.length:=by
 unfold D7 at h
 split at h
 ·cases h
  rw [List.length_map]
  exact Nat.le_trans (List.length_filter_le _ _) (Ft ps)
 ·cases h
theorem E0 {s:Src} {oth:Int} : ∀{l:List Ins} {st loc:List Int} {ps q:List Part},Ay s oth l st loc ps=some q→q.length≤ps.length+l.length
 | [],st,loc,ps,q,h=>by cases h;simp
 | x::l,st,loc,ps,q,h=>by
  unfold Ay at h
  rw [List.length_cons]
  split at h
  ·have:=E0 h;omega
  split at h
  ·split at h
   ·cases h;simp
   ·have:=E0 h;omega
  split at h
  ·have:=E0 h;rw [List.length_append] at this;simp at this;omega
  split at h
  ·have:=Og h;rw [List.length_append] at this;simp at this;omega
  split at h
  ·have:=E0 h;omega
  ·cases h
structure BalP (cs:List Code) (p:Posting):Prop where
 kind:p.kind=10
 r0:0≤p.rule
 rl:p.rule<cs.length
 oth : ∀c,cs[p.rule.toNat]?=some c→(p.oth == -1) = !c.pair
 parts:PartsOk p.parts
 two:2≤p.parts.length
 len:p.parts.length≤8000
theorem P8 {cs:List Code} {l:List Src} {q:List Posting} (hci : ∀c∈cs,c.ins.length≤8000) (hl:Ca l=true) (h:Dy cs l=some q) {p:Posting} (hp:p∈q):BalP cs p:=by
 obtain⟨y,hy,h1,h2,h3,h4,h5,h6,h7⟩:=Ux h hp
 obtain⟨g1,g2,g3,g4⟩:=Uw hy
 have g0:=A5 g1
 refine⟨h2,by omega,by omega,fun c hc=>?_,h6,h6.two h7,?_⟩
 case refine_2=>
  unfold B9 at h1
  obtain⟨ps,hx,rfl⟩:=Option.map_eq_some_iff.1 h1
  have hl:=E0 hx
  have hcl:=hci _ (List.mem_of_getElem? g1)
  simp at hl
  unfold Bq
  split
  ·simp
  ·simp only [];omega
 rw [h3,Int.toNat_natCast,g1] at hc
 cases hc
 by_cases hp:y.1.1.pair=true
 ·rw [if_pos hp] at g4
  obtain⟨o,o1,o2,o3,o4⟩:=g4
  have:=(Cz hl o1).1
  rw [hp,h5,←o3]
  simp;omega
 ·rw [if_neg hp] at g4
  rw [Bool.not_eq_true] at hp
  rw [hp,h5,g4];rfl
end Go.Proofs.YtmlpmdccfmmpoaaGreat
section
set_option linter.unusedVariables false
namespace Go.Proofs.YtmlpmdccfmmpoaaGreat
namespace E
def X6 (rvs:List RV) (nb nt:Nat) (r:V) (S':St) (e:Ex) (a:Fr) (S1:St):Prop:=
 (match e with | .ex _=>False | .pn _=>False|_=>True)∧(nb≤S'.boxes.length∧nt≤S'.toks.length)∧
 match Lv a S1 rvs with
 | some vs=>leS S1 S'∧leV (H6 vs) r∧okN S'.boxes.length S'.toks.length r=true
 | none=>False
attribute [simp] X6
theorem Tj {P:Program} {fn:Func} {rs:List RV} {g g0:Gh} {S S1 S':St} {w w':World} {a':Fr} {act':Act} {N:Nat} {Df:List Deferred} {x:Ex} {r:V} (hI:Inv g S w) (hr:Fe P fn.results.toList=some rs)
  (hfinK:X6 rs S.boxes.length S.toks.length r S' x a' S1) (hC':Conc N Df g0 a' S1 act' w') (hm0:Mv0 S.boxes.length S.toks.length g S w g0 S1 w') :
  ∃v,(results fn act'.tmps).run P w'=.ok v w'∧∃u g',Ending.returned v=.returned u∧RelV g' S'.toks r u∧Mv g S w g' S' w':=by
 obtain⟨hx,hcnt,hfin⟩:=hfinK
 split at hfin
 ·rename_i rvals hrv
  obtain⟨hle,hl,hok⟩:=hfin
  obtain⟨u,hu,hur⟩:=H7 (P:=P) (fn:=fn) hC' hr hrv
  refine⟨u,hu,u,trunc g0 S'.boxes.length S'.toks.length,rfl,?_,hm0.mv hI hC'.inv hle hcnt⟩
  have:=(Ki hur hl).trunc hok
  rw [←hle.2.eq.2] at this
  exact this
 ·exact hfin.elim
end E
end Go.Proofs.YtmlpmdccfmmpoaaGreat
set_option linter.unusedSimpArgs false
set_option linter.unusedVariables false
namespace Go.Proofs.YtmlpmdccfmmpoaaGreat
open E
structure Alike (a b:Src):Prop where
 ent:a.ent=b.ent
 full:a.full=b.full
 num:a.num=b.num
 den:a.den=b.den
 rd : ∀f t any p,B5 a.items f t any p=B5 b.items f t any p
end Go.Proofs.YtmlpmdccfmmpoaaGreat
set_option linter.unusedSimpArgs false
set_option linter.unusedVariables false
set_option maxHeartbeats 4000000
set_option maxRecDepth 8000
namespace Go.Proofs.YtmlpmdccfmmpoaaGreat
open E

theorem Tk (l:List Posting) (hl : ∀p∈l,p.parts.length≤1000000):A7 Tryz.prog 14 [Posting.l l,Posting.l l] (vB true):=by
 (refine A7.of_code mix Tryz.call14 k_14 (by simp) (fun hB=>?_);(try simp at hB);(try simp -implicitDefEqProofs))
 simp only [maxLen] at hB
 refine Ac (X:=Nat) (fun k=>k≤l.length) (fun k=>[(0,Posting.l l),(1,Posting.l l),(5,vI k)]) (fun _=>⟨[],[]⟩) (fun k=>l.length-k) 0 (by omega) (by simp) ?_
 rintro k hk hbd
 clear hbd
 rcases Nat.lt_or_ge k l.length with h|h
 ·obtain⟨p,hp⟩:=Aa h
  have e3:IntKind.i64.wrap ((k:Int)+1)=(k:Int)+1:=wrap64 (by omega) (by omega)
  have hpc:(l.map Posting.c)[k]?=some p.c:=by simp [hp]
  have hpc' : ∀h,(l.map Posting.c)[k]'h=p.c:=fun h=>by rw [List.getElem?_eq_getElem h] at hpc;exact Option.some.inj hpc
  have hpl:=hl p (List.mem_of_getElem? hp)
  obtain⟨kd,en,ot,ru,ps⟩:=p
  simp only [] at hpl
  have hfin : ∃z':Nat,z'≤l.length∧l.length-z'<l.length-k∧(z':Int)=(k:Int)+1:=⟨k+1,by omega,by omega,by push_cast;rfl⟩
  (try simp -implicitDefEqProofs [h,hpc,hpc',Posting.c])
  refine Ac (X:=Nat) (fun j=>j≤ps.length) (fun j=>[(0,Posting.l l),(1,Posting.l l),(5,vI k),(6,vI j)]) (fun _=>⟨[],[]⟩) (fun j=>ps.length-j) 0 (by omega) (by simp) ?_
  rintro j hj hbd
  clear hbd
  rcases Nat.lt_or_ge j ps.length with h2|h2
  ·obtain⟨x,hx⟩:=Aa h2
   have e4:IntKind.i64.wrap ((j:Int)+1)=(j:Int)+1:=wrap64 (by omega) (by omega)
   have hxc:(ps.map Part.c)[j]?=some x.c:=by simp [hx]
   have hxc' : ∀h,(ps.map Part.c)[j]'h=x.c:=fun h=>by rw [List.getElem?_eq_getElem h] at hxc;exact Option.some.inj hxc
   obtain⟨ac,am⟩:=x
   have hfin2 : ∃z':Nat,z'≤ps.length∧ps.length-z'<ps.length-j∧(z':Int)=(j:Int)+1:=⟨j+1,by omega,by omega,by push_cast;rfl⟩
   (try simp -implicitDefEqProofs [h,hpc,hpc',Posting.c,h2,hxc,hxc',Part.c,e4])
   exact hfin2
  ·have:j=ps.length:=by omega
   subst this
   (try simp -implicitDefEqProofs [h,hpc,hpc',Posting.c,e3])
   exact hfin
 ·have:k=l.length:=by omega
  subst this
  (try simp -implicitDefEqProofs)
end Go.Proofs.YtmlpmdccfmmpoaaGreat
set_option linter.unusedSimpArgs false
set_option linter.unusedVariables false
set_option maxHeartbeats 4000000
set_option maxRecDepth 8000
namespace Go.Proofs.YtmlpmdccfmmpoaaGreat
open E

theorem X7 (n m:Nat) (e:TypeId) (z:Nat) (l:List T):E.leB n m (.buf e z (l.map .t)) (.buf e z (l.map .t)):=⟨rfl,rfl,A3 _,Ds _ _ _⟩
theorem A6.dead {n m:Nat} : ∀(D:List Bx),A6 n m D (List.replicate D.length .dead)
 | []=>trivial
 | x::D=>⟨trivial,A6.dead D⟩
theorem A6.append {n m:Nat} : ∀{A A' l l':List Bx},A6 n m A A'→A6 n m l l'→A.length=A'.length→A6 n m (A++l) (A'++l')
 | [],[],_,_,_,h,_=>h
 | a::A,b::B,l,l',h,h2,hl=>⟨h.1,A6.append h.2 h2 (by simpa using hl)⟩
theorem Tl {α:Type} {c:α→List T} {z:Nat} (hz : ∀x,(c x).length=z) (o:List α):Fv z o.length (o.flatMap c)=some (o.map c):=by
 have hl:(o.flatMap c).length=o.length*z:=by
  induction o with
  | nil=>simp
  | cons x o ih=>simp only [List.flatMap_cons,List.length_append,hz,ih,List.length_cons,Nat.succ_mul];omega
 unfold Fv
 rw [if_pos hl]
 congr 1
 clear hl
 induction o with
 | nil=>rfl
 | cons x o ih=>
  rw [List.length_cons,List.range_succ_eq_map,List.map_cons,List.map_cons,List.flatMap_cons,List.map_map]
  congr 1
  ·simp [hz]
  ·rw [←ih]
   apply List.map_congr_left
   intro i _
   simp only [Function.comp_apply,Nat.succ_mul]
   rw [Nat.add_comm (i*z) z,←List.drop_drop,List.drop_left' (hz x)]
end Go.Proofs.YtmlpmdccfmmpoaaGreat
end
