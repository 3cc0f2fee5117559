/- Chapter 35: the program's value of an expression. -/
import Derived.Test.YtmlpmdccfmmpoaaGreatDoorRfi
import Derived.Test.YtmlpmdccfmmpoaaGreatDoorRcm
import Derived.Test.YtmlpmdccfmmpoaaGreatDoorRxJ
import Derived.Test.YtmlpmdccfmmpoaaGreatDoorInP
import Derived.Test.YtmlpmdccfmmpoaaGreatDoorPrg
import Derived.Test.YtmlpmdccfmmpoaaGreatDoorExM
import Derived.Test.YtmlpmdccfmmpoaaGreatDoorFds
import Derived.Test.YtmlpmdccfmmpoaaGreatDoorExV
set_option linter.unusedSimpArgs false
set_option linter.unusedVariables false
set_option maxHeartbeats 4000000
set_option maxRecDepth 8000
namespace Go.Proofs.YtmlpmdccfmmpoaaGreatDoor
open E
theorem Jm {p:List Rul} (h:Ei p=true) : ∀r∈p,Cs r=true:=by
 unfold Ei Ho at h
 simp only [Bool.and_eq_true,List.all_eq_true] at h
 exact h.1.1.1
theorem S7 {r:Rul} (h:Cs r=true):r.stmts.length≤30:=by
 unfold Cs at h
 simp only [Bool.and_eq_true,decide_eq_true_eq] at h
 exact h.1.1.2
theorem Uf {r:Rul} (hb:Cs r=true) (hf:Dk r=true):(C4 (Be r)).2=true:=
 Rv (known:=fun _=>true) hb (by unfold Dk at hf;rw [decide_eq_true_eq] at hf;unfold K4;rw [hf];rfl)
theorem A10 (p:List Rul) (hok : ∀r∈p,r.ok) (hc : ∀r∈p,∀s∈r.stmts,s.ex.cnt≤100000) (hst : ∀r∈p,r.stmts.length≤1000) (hss : ∀r∈p,Ib r.stmts≤50000) :
  A4 Tryz.prog 42 [Rul.l p] (.tup [Code.l (if Ei p=true then p.map Be else []),vB (Ei p)]):=by
 obtain⟨R,hR⟩ : ∃R,R=V.tup [Code.l (if Ei p=true then p.map Be else []),vB (Ei p)]:=⟨_,rfl⟩
 rw [←hR]
 have hno:Ei p=false→R=.tup [.t (.sl []),vB false]:=fun h=>by rw [hR,h];rfl
 have hv:=Yt p hok hc
 by_cases h1:Ho p=true
 case neg=>
  rw [Bool.not_eq_true] at h1
  have:=hno (by unfold Ei;rw [h1];rfl)
  rw [h1] at hv
  subst this
  (refine A4.of_code mix Tryz.call42 k_42 (by simp) (fun hB=>?_);(try simp at hB);(try simp -implicitDefEqProofs))
  ((try simp at hv);(try simp -implicitDefEqProofs);repeat' first|(with_reducible apply A0<;>first|(simp only [eras,era,A1];first|with_reducible assumption)|(simp -implicitDefEqProofs)))
 have h3:=h1
 have hsn:Ei p=(p.all Dk&&decide ((p.map (·.name)).Nodup)):=by unfold Ei;rw [h1,Bool.true_and]
 rw [h1] at hv
 unfold Ho at h3
 simp only [Bool.and_eq_true,decide_eq_true_eq,List.all_eq_true] at h3
 obtain⟨hrs,hpl⟩:=h3
 obtain⟨L,hL⟩ : ∃L,L=(p.map Be).map Code.c:=⟨_,rfl⟩
 have hLl:L.length=p.length:=by rw [hL];simp
 (refine A4.of_code mix Tryz.call42 k_42 (by simp) (fun hB=>?_);(try simp at hB);(try simp -implicitDefEqProofs))
 ((try simp at hv);(try simp -implicitDefEqProofs);repeat' first|(with_reducible apply A0<;>first|(simp only [eras,era,A1];first|with_reducible assumption)|(simp -implicitDefEqProofs)))
 refine Av [(.slot 4,102,3)] (X:=Nat) (fun k=>k≤p.length∧(p.take k).all Dk=true∧((p.map (·.name)).take k).Nodup) (fun k=>[(0,Rul.l p),(4,.own 0 102 3 (L.take k)),(5,vI k)])
  (fun k=>⟨[],[k]⟩) (fun k=>p.length-k) 0 ⟨by simp,by simp,by simp⟩ (by simp) ?_
 rintro k ⟨hk,hfi,hnd⟩ hbd
 clear hbd
 rcases Nat.lt_or_ge k p.length with h|h
 ·have hx:p[k]?=some p[k]:=by simp [h]
  have e3:IntKind.i64.wrap ((k:Int)+1)=(k:Int)+1:=wrap64 (by omega) (by omega)
  have hmem:=List.getElem_mem h
  have hN:(p.map (·.name)).take (k+1)=(p.map (·.name)).take k++[p[k].name]:=Ae (by simp [h])
  have hfine:=A65 p[k] (hst _ hmem)
  have hrule:=A0o p[k] (hrs _ hmem) (hss _ hmem)
  have hrv:L.take (k+1)=L.take k++[(Be p[k]).c]:=Ae (by rw [hL];simp [h])
  have hLk:(L.take k).length=k:=by simp;omega
  have hall:(p.take (k+1)).all Dk=Dk p[k]:=by rw [Ae hx,List.all_append,hfi];simp
  have hnf:Dk p[k]=false→Ei p=false:=fun hf=>by
   rw [hsn,Bool.and_eq_false_iff];left
   rw [Bool.eq_false_iff];intro h0
   rw [List.all_eq_true] at h0
   rw [h0 _ hmem] at hf;cases hf
  obtain⟨nm,pr,ss,to,hr⟩ : ∃nm pr ss to,p[k]=⟨nm,pr,ss,to⟩:=⟨_,_,_,_,rfl⟩
  have hrk:(p.map Rul.c)[k]?=some [.str nm,.bool pr,.sl (ss.map Stm.c),.int .i64 to]:=by simp [h,hr,Rul.c]
  have hrk' : ∀h,(p.map Rul.c)[k]'h=[.str nm,.bool pr,.sl (ss.map Stm.c),.int .i64 to]:=fun h=>by rw [List.getElem?_eq_getElem h] at hrk;exact Option.some.inj hrk
  have hcc:p[k].c=[.str nm,.bool pr,.sl (ss.map Stm.c),.int .i64 to]:=by rw [hr];rfl
  have hdup:nm∈(p.map (·.name)).take k→Ei p=false:=fun hm=>by
   rw [hsn,Bool.and_eq_false_iff];right
   refine decide_eq_false fun hn=>?_
   have e:(p.map (·.name))=(p.map (·.name)).take (k+1)++(p.map (·.name)).drop (k+1):=(List.take_append_drop _ _).symm
   rw [e] at hn
   have:=(List.nodup_append.1 hn).1
   rw [hN,hr] at this
   exact (List.nodup_append.1 this).2.2 nm hm nm (by simp) rfl
  rw [Rul.v,hcc] at hrule hfine
  rw [hr] at hN
  simp only [] at hN
  generalize Be p[k]=cd at *
  generalize hF:Dk p[k]=F at *
  obtain⟨cn,cp,ci⟩:=cd
  simp only [List.map] at hrule hfine
  obtain⟨A,hA⟩ : ∃A,A=L.take k:=⟨_,rfl⟩
  rw [←hA] at hrv hLk ⊢
  (try simp -implicitDefEqProofs [h])
  refine A9 (X:=Nat) (fun j=>j≤k∧nm∉(p.map (·.name)).take j) (fun j=>[(0,Rul.l p),(4,.own 0 102 3 A),(5,vI k),(6,vI j)])
   (fun j=>⟨[],[k]⟩) (fun j=>k-j) 0 ⟨by omega,by simp⟩ (by simp) ?_
  rintro j ⟨hj,hjn⟩ hbd
  clear hbd
  rcases Nat.lt_or_ge j k with g|g
  ·have gx:p[j]?=some p[j]:=by simp [show j<p.length by omega]
   have g3:IntKind.i64.wrap ((j:Int)+1)=(j:Int)+1:=wrap64 (by omega) (by omega)
   have gl:j<p.length:=by omega
   obtain⟨nm',pr',ss',to',gr⟩ : ∃nm pr ss to,p[j]=⟨nm,pr,ss,to⟩:=⟨_,_,_,_,rfl⟩
   have grk:(p.map Rul.c)[j]?=some [.str nm',.bool pr',.sl (ss'.map Stm.c),.int .i64 to']:=by simp [gl,gr,Rul.c]
   have grk' : ∀h,(p.map Rul.c)[j]'h=[.str nm',.bool pr',.sl (ss'.map Stm.c),.int .i64 to']:=fun h=>by rw [List.getElem?_eq_getElem h] at grk;exact Option.some.inj grk
   have gN:(p.map (·.name))[j]?=some nm':=by simp [gl,gr]
   by_cases hy:nm'=nm
   ·subst hy
    have:=hno (hdup (List.mem_of_getElem? (by rw [List.getElem?_take_of_lt g];exact gN)))
    subst this
    (try simp -implicitDefEqProofs [g,gl,h,grk,grk',hrk,hrk'])
   ·have hy':(nm'==nm)=false:=by simpa using hy
    (try simp -implicitDefEqProofs [g,gl,h,grk,grk',hrk,hrk',hy',g3])
    exact⟨j+1,⟨by omega,by rw [Ae gN,List.mem_append];exact fun q=>q.elim hjn (fun q=>hy (List.mem_singleton.1 q).symm)⟩,by omega,by push_cast;rfl⟩
  ·have hjk:j=k:=by omega
   subst hjk
   cases F
   ·have:=hno (hnf rfl)
    subst this
    ((try simp at hfine);(try simp -implicitDefEqProofs [g,h,hrk,hrk']);repeat' first|(with_reducible apply A0<;>first|(simp only [eras,era,A1];first|with_reducible assumption)|(simp -implicitDefEqProofs [g,h,hrk,hrk'])))
   ·((try simp at hfine hrule);(try simp -implicitDefEqProofs [g,h,hrk,hrk',e3,hLk]);repeat' first|(with_reducible apply A0<;>first|(simp only [eras,era,A1];first|with_reducible assumption)|(simp -implicitDefEqProofs [g,h,hrk,hrk',e3,hLk])))
    exact⟨⟨by unfold maxLen;omega,by omega⟩,j+1,⟨by omega,List.all_eq_true.1 hall,by rw [hN,List.nodup_append];exact⟨hnd,by simp,fun a ha b hb=>by rw [List.mem_singleton.1 hb];exact fun e=>hjn (e▸ha)⟩⟩,by omega,rfl,by rw [hrv];exact leA.refl _,by push_cast;rfl⟩
 ·have:k=p.length:=by omega
  subst this
  have hRt:Ei p=true:=by
   rw [List.take_length] at hfi
   rw [List.take_of_length_le (by simp)] at hnd
   rw [hsn,hfi,decide_eq_true hnd];rfl
  rw [hRt,if_pos rfl,Code.l,←hL] at hR
  subst hR
  have ht:L.take p.length=L:=List.take_of_length_le (by omega)
  (try simp -implicitDefEqProofs [ht])
theorem O0 {p:List Rul} (h:Mn p=true) {r:Rul} (hr:r∈p) (h3:r.stmts.length≤30):(Be r).ins.length≤8000:=by
 obtain⟨_,_,f3⟩:=Jl h
 have h2:=Vl (f3 r hr)
 rw [Xq];omega
theorem P8 (p:List Rul) (l:List Src) (hok : ∀r∈p,r.ok) (hfw:Mn p=true) (hl:l.length≤13) (hs : ∀s∈l,s.num.natAbs≤100000∧0<s.den∧s.den≤100000∧s.items.length≤1000) :
  A4 Tryz.prog 16 [Rul.l p,Src.ql l] (psV (if Ei p=true then G8 (p.map Be) l else ([],1))):=by
 obtain⟨f1,f2,f3⟩:=Jl hfw
 have hcd:=A10 p hok (fun r hr s h=>by have:=f3 r hr s h;omega) (fun r hr=>by have:=f2 r hr;omega) (fun r hr=>by have:=A0p hfw r hr;omega)
 have hv:=Mp l (by omega) (fun s h=>by have:=hs s h;omega)
 cases h1:Ei p
 ·rw [h1] at hcd
  simp only [Bool.false_eq_true,if_false] at hcd ⊢
  unfold Src.ql at *
  (refine A4.of_code mix Tryz.call16 k_16 (by simp) (fun hB=>?_);(try simp at hB);(try simp -implicitDefEqProofs))
  ((try simp at hcd);(try simp -implicitDefEqProofs [psV]);repeat' first|(with_reducible apply A0<;>first|(simp only [eras,era,A1];first|with_reducible assumption)|(simp -implicitDefEqProofs [psV])))
 rw [h1] at hcd
 rw [if_pos rfl] at hcd ⊢
 have hrun:=A6c (p.map Be) l hl (by simp;omega) (fun c hc=>by
  obtain⟨r,hr,rfl⟩:=List.mem_map.1 hc
  exact O0 hfw hr (S7 (Jm h1 r hr))) hs
 cases h2:Ds l
 ·have e:G8 (p.map Be) l=([],1):=by unfold G8;rw [if_neg (by simp [h2])]
  rw [h2] at hv
  rw [e]
  unfold Src.ql at *
  (refine A4.of_code mix Tryz.call16 k_16 (by simp) (fun hB=>?_);(try simp at hB);(try simp -implicitDefEqProofs))
  ((try simp at hcd hv);(try simp -implicitDefEqProofs [psV]);repeat' first|(with_reducible apply A0<;>first|(simp only [eras,era,A1];first|with_reducible assumption)|(simp -implicitDefEqProofs [psV])))
 rw [h2] at hv
 generalize G8 (p.map Be) l=W at *
 obtain⟨w1,w2⟩:=W
 unfold Src.ql psV at *
 generalize (p.map Be).map Code.c=C at *
 (refine A4.of_code mix Tryz.call16 k_16 (by simp) (fun hB=>?_);(try simp at hB);(try simp -implicitDefEqProofs))
 ((try simp at hcd hv hrun);(try simp -implicitDefEqProofs);repeat' first|(with_reducible apply A0<;>first|(simp only [eras,era,A1];first|with_reducible assumption)|(simp -implicitDefEqProofs)))
def Ge (s:Src) (oth:Int) (q:List UInt8→Int) (k v f t:Int) (n:List UInt8) (vs:List Int):Int×Bool:=
 if k=1 then (v,true) else if k=2 then (q n,true)
 else if k=21 then (Aq s.items f t true 0,Ah (Aq s.items f t true 0))
 else if k=22 then (Aq s.items f t false oth,Ah (Aq s.items f t false oth))
 else if k=5 then Dx (vs.getD 0 0) s else opC (Dd k) v (vs.getD 0 0) (vs.getD 1 0)
namespace Xp
mutual
def valE (s:Src) (oth:Int) (q:List UInt8→Int):Xp→Int×Bool
 | .mk k v f t n xs=>match valEs s oth q xs with
  | some vs=>Ge s oth q k v f t n vs
  | none=>(0,false)
def valEs (s:Src) (oth:Int) (q:List UInt8→Int):List Xp→Option (List Int)
 | []=>some []
 | x::xs=>if (valE s oth q x).2=true then (valEs s oth q xs).map ((valE s oth q x).1 :: ·) else none
end
theorem valEs_len {s:Src} {oth:Int} {q:List UInt8→Int} : ∀{xs:List Xp} {vs:List Int},valEs s oth q xs=some vs→vs.length=xs.length
 | [],vs,h=>by cases h;rfl
 | x::xs,vs,h=>by
  rw [valEs] at h
  split at h
  ·cases hx:valEs s oth q xs with
   | none=>rw [hx] at h;cases h
   | some us=>rw [hx] at h;cases h;simp [valEs_len hx]
  ·cases h
end Xp
def Mr (s:Src) (oth:Int) (loc:List Int):List Ins→List Int→Option (List Int)
 | [],st=>some st
 | x::l,st=>if (Cq s oth x st loc).2=true then Mr s oth loc l ((Cq s oth x st loc).1::st.drop (tk x.op).toNat) else none
theorem Ms {s:Src} {oth:Int} {loc:List Int} : ∀{a b:List Ins} {st:List Int},Mr s oth loc (a++b) st=(Mr s oth loc a st).bind (Mr s oth loc b)
 | [],b,st=>rfl
 | x::a,b,st=>by
  simp only [List.cons_append,Mr]
  split
  ·exact Ms
  ·rfl
theorem A11 {k v f t:Int} {n:List UInt8} {len:Nat} (h:Gz k v f t n len=true):1≤k∧k≤22∧(len:Int)=Bi k:=by
 simp only [Gz,kdB,Bool.and_eq_true,decide_eq_true_eq,beq_iff_eq] at h
 exact⟨h.1.1.1,h.1.1.2,h.1.2⟩
theorem A7x {k v f t:Int} {n:List UInt8} {len:Nat} (h:Gz k v f t n len=true) (h1:k≠1) (h2:k≠20):v=0:=by
 simp only [Gz,Bool.and_eq_true] at h
 have h:=h.2
 unfold fldB at h
 rw [if_neg h1] at h
 by_cases hk:k=2
 ·rw [if_pos hk] at h
  simp only [Bool.and_eq_true,beq_iff_eq] at h;exact h.1.1.2
 rw [if_neg hk,if_neg h2] at h
 by_cases h3:k=21∨k=22
 ·rw [if_pos h3] at h
  simp only [Bool.and_eq_true,beq_iff_eq] at h;exact h.1.2
 ·rw [if_neg h3] at h
  simp only [Bool.and_eq_true,beq_iff_eq] at h;exact h.1.1.1
theorem A12 {s:Src} {oth:Int} {q:List UInt8→Int} {M:List (List UInt8)} {loc st:List Int} {k v f t:Int} {n:List UInt8} {vs:List Int} (h:Gz k v f t n vs.length=true) (hq:k=2→q n=loc.getD (Ku M n).toNat 0) :
  Cq s oth (E8 M k v f t n) (vs.reverse++st) loc=Ge s oth q k v f t n vs∧(vs.reverse++st).drop (tk (E8 M k v f t n).op).toNat=st:=by
 obtain⟨h1,h2,h3⟩:=A11 h
 have hv:=A7x h
 have htk:=(K6 h1 h2).1
 rw [←h3] at htk
 rw [Mm,htk]
 refine⟨?_,by rw [Int.toNat_natCast,List.drop_left' (by simp)]⟩
 by_cases k1:k=1
 ·subst k1;simp [E8,Cq,Ge]
 by_cases k2:k=2
 ·subst k2;simp only [E8,Cq,Ge];simp [hq rfl]
 by_cases k20:k=20
 ·subst k20
  have h4:vs.length=1:=by simp [Bi] at h3;omega
  obtain⟨a,rfl⟩:=List.length_eq_one_iff.1 h4
  simp [E8,Cq,Ge,show tk 9=1 from rfl,Dd]
 by_cases k21:k=21
 ·subst k21;simp [E8,Cq,Ge]
 by_cases k22:k=22
 ·subst k22;simp [E8,Cq,Ge]
 have hv0:=hv k1 k20
 have hl:E8 M k v f t n=⟨Dd k,0,0⟩:=by unfold E8;rw [if_neg k1,if_neg k2,if_neg k20,if_neg k21,if_neg k22]
 rw [hl,hv0]
 by_cases k5:k=5
 ·subst k5
  have h4:vs.length=1:=by simp [Bi] at h3;omega
  obtain⟨a,rfl⟩:=List.length_eq_one_iff.1 h4
  simp [Cq,Ge,Dd]
 have htop:Ge s oth q k 0 f t n vs=opC (Dd k) 0 (vs.getD 0 0) (vs.getD 1 0):=by unfold Ge;rw [if_neg k1,if_neg k2,if_neg k21,if_neg k22,if_neg k5]
 rw [htop]
 rcases (by omega:(k=3∨k=4∨k=6)∨(7≤k∧k≤19)) with hk|hk
 ·have h4:vs.length=1:=by rcases hk with rfl|rfl|rfl<;>(simp [Bi] at h3;omega)
  obtain⟨a,rfl⟩:=List.length_eq_one_iff.1 h4
  rcases hk with rfl|rfl|rfl
  ·simp [Cq,Dd,show tk 5=1 from rfl]
  ·simp [Cq,Dd,show tk 6=1 from rfl]
  ·simp [Cq,Dd,show tk 8=1 from rfl]
 ·have h4:vs.length=2:=by
   have:Bi k=2:=by unfold Bi;rw [if_neg (by omega),if_pos (by omega)]
   omega
  obtain⟨a,b,rfl⟩ : ∃a b,vs=[a,b]:=by
   match vs,h4 with
   | [a,b],_=>exact⟨a,b,rfl⟩
  have ho:Dd k=k+3:=by unfold Dd;simp only [show ¬k=1 by omega,show ¬k=2 by omega,show ¬k=3 by omega,show ¬k=4 by omega,show ¬k=5 by omega,show ¬k=6 by omega,show ¬k=20 by omega,show ¬k=21 by omega,show ¬k=22 by omega,if_false]
  have ht:tk (Dd k)=2:=by rw [htk];rfl
  unfold Cq
  simp only [ho,show ¬k+3=1 by omega,show ¬k+3=2 by omega,show ¬k+3=3 by omega,show ¬k+3=4 by omega,show ¬k+3=7 by omega,if_false]
  rw [←ho,ht]
  simp
namespace Xp
theorem S8 {s:Src} {oth:Int} {q:List UInt8→Int} {M:List (List UInt8)} {loc:List Int} : ∀(xs:List Xp),(∀x∈xs,∀st,Mr s oth loc (x.codeX M) st=if (x.valE s oth q).2=true then some ((x.valE s oth q).1::st) else none)→
  ∀st,Mr s oth loc (codesX M xs) st=(valEs s oth q xs).map fun vs=>vs.reverse++st
 | [],_,st=>rfl
 | x::xs,h,st=>by
  rw [codesX,Ms,h x (by simp),valEs]
  split
  ·rw [Option.bind_some,S8 xs (fun y hy=>h y (by simp [hy]))]
   cases valEs s oth q xs with
   | none=>rfl
   | some vs=>simp
  ·rfl
theorem run_val {s:Src} {oth:Int} {q:List UInt8→Int} {M:List (List UInt8)} {loc:List Int} {pair:Bool} (hq : ∀n∈M,q n=loc.getD (Ku M n).toNat 0) : ∀(x:Xp),x.prop=true→(x.inf (C9 M) pair).2=0→∀st,Mr s oth loc (x.codeX M) st=if (x.valE s oth q).2=true then some ((x.valE s oth q).1::st) else none:=by
 refine Xp.ind fun k v f t n xs ih hp hi st=>?_
 simp only [prop,Bool.and_eq_true] at hp
 have hi':(F0 (C9 M n) pair (infs (C9 M) pair (Gc k) xs).2 (infs (C9 M) pair (Gc k) xs).1 k f t).2=0:=by simpa [inf] using hi
 obtain⟨f1,f2,f3,f4⟩:=K7 hi'
 have hpm:=props_mem hp.2
 have him:=infs_all xs f1
 rw [codeX,Ms,S8 xs (fun x hx st=>ih x hx (hpm x hx) (him x hx) st),valE]
 cases hvs:valEs s oth q xs with
 | none=>simp
 | some vs=>
  have hl:=valEs_len hvs
  have hs:=hp.1
  rw [←hl] at hs
  obtain⟨t1,t2⟩:=A12 (s:=s) (oth:=oth) (q:=q) (M:=M) (loc:=loc) (st:=st) hs (fun h2=>hq n (by simpa [C9] using f2 h2))
  simp only [Option.map_some,Option.bind_some,Mr]
  rw [t1,t2]
end Xp
def Bz (s:Src) (oth to:Int):List (List UInt8×Int)→List Stm→List Part→Option (List Part)
 | _,[],ps=>Cw (ps++[⟨to,-(ps.map Part.amt).sum⟩])
 | L,x::ss,ps=>
  if (x.ex.valE s oth fun n=>(Bf L n).getD 0).2=true then
   if x.kind=1 then Bz s oth to (D3 L x.name (x.ex.valE s oth fun n=>(Bf L n).getD 0).1) ss ps
   else if x.kind=2 then if (x.ex.valE s oth fun n=>(Bf L n).getD 0).1=0 then some [] else Bz s oth to L ss ps
   else Bz s oth to L ss (ps++[⟨x.acc,(x.ex.valE s oth fun n=>(Bf L n).getD 0).1⟩])
  else none
def Ej (r:Rul) (s:Src) (oth rule:Int):Option Posting:=(Bz s oth r.to [] r.stmts []).map (Dc s oth rule)
theorem Mt {s:Src} {oth:Int} {loc:List Int} {ps:List Part} {rest:List Ins} : ∀{cd:List Ins} {st:List Int},(∀i∈cd,1≤i.op∧i.op≤22)→
  Ar s oth (cd++rest) st loc ps=match Mr s oth loc cd st with
   | some st'=>Ar s oth rest st' loc ps
   | none=>none
 | [],st,_=>rfl
 | x::cd,st,h=>by
  have h0:=h x (by simp)
  simp only [List.cons_append,Ar,Mr]
  rw [if_neg (by omega),if_neg (by omega),if_neg (by omega),if_neg (by omega)]
  split
  ·exact Mt fun i hi=>h i (by simp [hi])
  ·rfl
theorem Xy {s:Src} {oth v:Int} {loc:List Int} {ps:List Part} {l:List Ins} : Ar s oth (⟨24,0,0⟩::l) [v] loc ps=if v=0 then some [] else Ar s oth l [] loc ps:=by simp [Ar]
theorem Xz (M:List (List UInt8)) : ∀(x:Xp),x.prop=true→∀i∈x.codeX M,1≤i.op∧i.op≤22:=by
 refine Xp.ind fun k v f t n xs ih hp i hi=>?_
 simp only [Xp.prop,Bool.and_eq_true] at hp
 obtain⟨k1,k2,_⟩:=A11 hp.1
 rw [Xp.codeX,List.mem_append,Xp.codesX_flat,List.mem_flatMap] at hi
 rcases hi with ⟨y,hy,hi⟩|hi
 ·exact ih y hy (Xp.props_mem hp.2 y hy) i hi
 ·simp only [List.mem_singleton] at hi
  rw [hi,Mm]
  exact (K6 k1 k2).2.2
theorem Kq {s:Src} {oth to:Int} {known:Int→Bool} {pair:Bool} : ∀(ss:List Stm) (M:List (List UInt8)) (L:List (List UInt8×Int)) (loc:List Int) (ps:List Part),
  (∀x∈ss,Dl x=true)→Bo known pair M ss=0→loc.length=M.length→(∀n∈M,(Bf L n).getD 0=loc.getD (Ku M n).toNat 0)→
  Bz s oth to L ss ps=Ar s oth (B7 M ss++[⟨26,to,0⟩]) [] loc ps
 | [],M,L,loc,ps,_,_,_,_=>by simp [Bz,B7,Ar]
 | x::ss,M,L,loc,ps,hb,he,hl,hq=>by
  rw [Bo] at he
  split at he
  ·rename_i h1;exact absurd he h1
  rename_i h1
  have hs0:F1 known (C9 M) pair x=0:=by simpa using h1
  have hi0:(x.ex.inf (C9 M) pair).2=0:=by
   unfold F1 at hs0
   split at hs0
   ·rename_i q;exact absurd hs0 q
   ·rename_i q;simpa using q
  have hnew:x.kind=1→x.name∉M:=fun k1 hm=>by
   unfold F1 at hs0
   rw [if_neg (by simpa using hi0)] at hs0
   split at hs0
   ·cases hs0
   ·rw [if_pos ⟨k1,by simpa [C9] using hm⟩] at hs0;cases hs0
  have hsb:=hb x (by simp)
  unfold Dl at hsb
  simp only [Bool.and_eq_true,decide_eq_true_eq] at hsb
  obtain⟨⟨hsh,_⟩,hpr⟩:=hsb
  have hrv:=Xp.run_val (s:=s) (oth:=oth) (q:=fun n=>(Bf L n).getD 0) (M:=M) (loc:=loc) (pair:=pair) hq x.ex hpr hi0 []
  have ih:=fun M' L' loc' ps'=>Kq (s:=s) (oth:=oth) (to:=to) (known:=known) (pair:=pair) ss M' L' loc' ps' (fun y hy=>hb y (by simp [hy]))
  rw [Bz,B7,List.append_assoc,List.append_assoc,Mt (Xz M x.ex hpr),hrv]
  generalize (x.ex.valE s oth fun n=>(Bf L n).getD 0)=v
  obtain⟨v1,v2⟩:=v
  cases v2
  ·simp
  ·simp only [if_true,List.singleton_append]
   unfold Ly at hsh
   by_cases k1:x.kind=1
   ·have hls:Eg M x=⟨23,M.length,0⟩:=by unfold Eg;rw [if_pos k1]
    have hno:Af [x]=[x.name]:=by simp [Af,k1]
    rw [hno] at he ⊢
    rw [hls,if_pos k1]
    simp only [Ar,List.headD_cons,List.tail_cons,if_true]
    refine ih (M++[x.name]) _ _ _ he (by simp [hl]) fun n hn=>?_
    rw [Jt]
    have hix:Ku (M++[x.name]) n=if x.name=n then (M.length:Int) else Ku M n:=by
     unfold Ku;rw [K8];simp
    rw [hix]
    by_cases hn1:x.name=n
    ·rw [if_pos hn1,if_pos hn1.symm,Int.toNat_natCast,←hl]
     simp [List.getD_eq_getElem?_getD]
    ·rw [if_neg hn1,if_neg (Ne.symm hn1)]
     have hnM:n∈M:=by
      rcases List.mem_append.1 hn with h|h
      ·exact h
      ·simp at h;exact absurd h.symm hn1
     have:=Ru hnM
     rw [hq n hnM,List.getD_eq_getElem?_getD,List.getD_eq_getElem?_getD,List.getElem?_append_left (by omega)]
   ·have hno:Af [x]=[]:=by simp [Af,k1]
    rw [hno,List.append_nil] at he ⊢
    rw [if_neg k1] at hsh ⊢
    by_cases k2:x.kind=2
    ·have hls:Eg M x=⟨24,0,0⟩:=by unfold Eg;rw [if_neg k1,if_pos k2]
     rw [hls,if_pos k2]
     rw [Xy]
     by_cases hv0:v1=0
     ·rw [if_pos hv0,if_pos hv0]
     ·rw [if_neg hv0,if_neg hv0];exact ih M L loc ps he hl hq
    ·have hls:Eg M x=⟨25,x.acc,0⟩:=by unfold Eg;rw [if_neg k1,if_neg k2]
     rw [hls,if_neg k2]
     simp only [Ar,List.headD_cons,List.tail_cons,show ¬(25:Int)=23 by decide,show ¬(25:Int)=24 by decide,if_true,if_false]
     exact ih M L loc _ he hl hq
theorem P9 {r:Rul} {known:Int→Bool} (hb:Cs r=true) (he:Bo known r.pair [] r.stmts=0) (s:Src) (oth rule:Int):Ej r s oth rule=Cx (Be r) s oth rule:=by
 unfold Ej Cx Be
 have hst : ∀x∈r.stmts,Dl x=true:=by
  unfold Cs at hb
  simp only [Bool.and_eq_true,List.all_eq_true] at hb
  exact hb.2
 rw [Kq (known:=known) (pair:=r.pair) r.stmts [] [] [] [] hst he rfl (fun n hn=>by cases hn)]
end Go.Proofs.YtmlpmdccfmmpoaaGreatDoor
section
set_option linter.unusedSimpArgs false
set_option linter.unusedVariables false
namespace Go.Proofs.YtmlpmdccfmmpoaaGreatDoor
namespace E
theorem Fd {a b:Nat} : ∀{vs:List V},(∀j,j<vs.length→okN a b (vs.getD j .junk)=true)→okNs a b vs=true
 | [],_=>rfl
 | v::vs,h=>by
  have h0:=h 0 (by simp)
  have h1:=Fd (vs:=vs) fun j hj=>by have:=h (j+1) (by simpa using hj);simpa using this
  simp only [okNs,Bool.and_eq_true]
  exact⟨by simpa using h0,h1⟩
theorem RelV.okB {g:Gh} {tk:List Nat} {v:V} {u:Value} (h:RelV g tk v u):okN g.β.length tk.length v=true:=by
 induction h with
 | t x v h=>rfl
 | und=>rfl
 | junk v=>rfl
 | snil=>rfl
 | full es a h=>rfl
 | own k e z es v n h hz hn hle hg=>have:=(List.getElem?_eq_some_iff.1 hn).1;simp [okN,this]
 | ptr b o blk h=>have:=(List.getElem?_eq_some_iff.1 h).1;simp [okN,this]
 | tp e o blk off c hI hr=>rfl
 | fn f caps vs hl hr ih=>simp only [okN];exact Fd ih
 | agg cs vs hl hr ih=>simp only [okN];exact Fd ih
 | tup cs vs hl hr ih=>simp only [okN];exact Fd ih
 | mp b blk h=>have:=(List.getElem?_eq_some_iff.1 h).1;simp [okN,this]
 | vw b o n blk cap h hc hm=>have:=(List.getElem?_eq_some_iff.1 h).1;simp [okN,this]
 | bw b n blk cap h hc hk hm=>have:=(List.getElem?_eq_some_iff.1 h).1;simp [okN,this]
theorem Fl.self : ∀(K:List Nat),Fl K K
 | []=>trivial
 | _::K=>⟨rfl,Fl.self K⟩
theorem Ab.self {n m:Nat} : ∀{B:List Bx},(∀(i:Nat) (x:Bx),B[i]?=some x→E.leB n m x x)→Ab n m B B
 | [],_=>trivial
 | b::B,h=>⟨h 0 b rfl,Ab.self fun i x hx=>h (i+1) x (by simpa using hx)⟩
theorem Inv.okS {g:Gh} {S:St} {w:World} (hI:Inv g S w):OkS S:=by
 refine⟨Ab.self fun i x hx=>?_,Fl.self _⟩
 have hil:=(List.getElem?_eq_some_iff.1 hx).1
 obtain⟨blk,hb⟩ : ∃blk,g.β[i]?=some blk:=⟨_,List.getElem?_eq_getElem (by rw [hI.len];exact hil)⟩
 have hbox:=hI.box i blk x hb hx
 rw [←hI.len]
 cases x with
 | dead=>trivial
 | cells cs=>
  obtain⟨vs,ty,_,_,h⟩:=hbox
  exact⟨A5 _,Fd fun j hj=>(h j hj).okB⟩
 | mp es=>
  obtain⟨ms,clock,_,h1,h2,_⟩:=hbox
  refine⟨rfl,Fd fun j hj=>?_,Fd fun j hj=>?_⟩
  ·simp only [List.length_map] at hj
   obtain⟨m,_,h3,h4,_⟩:=h2 j hj
   have:=h3.okB
   simpa [List.getD_eq_getElem?_getD,hj] using this
  ·simp only [List.length_map] at hj
   obtain⟨m,_,h3,h4,_⟩:=h2 j hj
   have:=h4.okB
   simpa [List.getD_eq_getElem?_getD,hj] using this
 | buf e z cs=>
  obtain⟨vs,_,_,_,h⟩:=hbox
  exact⟨rfl,rfl,A5 _,Fd fun j hj=>(h j hj).okB⟩
 | itr s p=>exact⟨rfl,rfl⟩
theorem FnS.ofOk {P:Program} {f:Nat} {vs:List V} {S S':St} {r:V} (hE:Bl P f) (h:OkS S→FnS P f vs S r S'):FnS P f vs S r S':=⟨hE,fun g w us hI hus hrel=>(h (Inv.okS hI)).2 g w us hI hus hrel⟩
end E
end Go.Proofs.YtmlpmdccfmmpoaaGreatDoor
end
namespace Go.Proofs.YtmlpmdccfmmpoaaGreatDoor
open E
def Ug:List Int:=[0,0,0,5,6,0,8,10,11,12,13,14,15,16,17,18,19,20,21,22,9,0,0]
theorem A6d:A4 Tryz.prog 73 [] (.agg (Ug.map vI)):=by
 unfold Ug
 (refine A4.of_code mix Tryz.call73 k_73 (by simp) (fun hB=>?_);(try simp at hB);(try simp -implicitDefEqProofs))
 (try simp -implicitDefEqProofs)
theorem A3d {k:Int} (h1:1≤k) (h2:k≤22) (n1:k≠1) (n2:k≠2) (n5:k≠5) (n21:k≠21) (n22:k≠22):Ug[k.toNat]?=some (Dd k):=by
 rcases (by omega:k=3∨k=4∨k=6∨k=7∨k=8∨k=9∨k=10∨k=11∨k=12∨k=13∨k=14∨k=15∨k=16∨k=17∨k=18∨k=19∨k=20) with h|h|h|h|h|h|h|h|h|h|h|h|h|h|h|h|h<;>(subst h;rfl)
def Y0 (B:List Bx) (nv:V) (q:List UInt8→Int):Prop:=(nv=.t .nilm∧∀n,q n=0)∨∃(nb:Nat) (L:List (List UInt8×Int)),nv=.mp nb∧B[nb]?=some (.mp (mS vI L))∧∀n,q n=(Bf L n).getD 0
theorem Y0.app {B:List Bx} {nv:V} {q:List UInt8→Int} (h:Y0 B nv q) (l:List Bx):Y0 (B++l) nv q:=by
 rcases h with h|⟨nb,L,h1,h2,h3⟩
 ·exact .inl h
 ·exact .inr ⟨nb,L,h1,Aj h2 l,h3⟩
theorem Y0.ok {B:List Bx} {nv:V} {q:List UInt8→Int} (h:Y0 B nv q) {n m:Nat} (hn:B.length≤n):okN n m nv=true:=by
 rcases h with ⟨rfl,_⟩|⟨nb,L,rfl,h2,_⟩
 ·rfl
 ·have:=A6 h2;simp [okN];omega
structure VS where
 i:Nat
 vs:List Int
theorem A3e (s:Src) (hs:s.Ok) (oth:Int) (kn:List UInt8→Bool) (pair:Bool) (q:List UInt8→Int) (hpo:pair=true→0≤oth) : ∀(x:Xp),x.prop=true→(x.inf kn pair).2=0→∀(B:List Bx) (hU:OkU B) (b:Nat) (lv:V) (mb:Nat) (sum:Int) (hb:B[b]?=some (.cells (mC s oth lv mb sum))) (nv:V) (hn:Y0 B nv q),
  FnS Tryz.prog 30 [.ptr b 0,x.v,nv] ⟨B,[]⟩ (vO (x.valE s oth q)) ⟨B,[]⟩:=by
 refine Xp.ind fun k v f t n xs ih hp hi B hU b lv mb sum hb nv hn=>?_
 simp only [Xp.prop,Bool.and_eq_true] at hp
 have hi':(F0 (kn n) pair (Xp.infs kn pair (Gc k) xs).2 (Xp.infs kn pair (Gc k) xs).1 k f t).2=0:=by simpa [Xp.inf] using hi
 obtain⟨f1,f2,f3,f4⟩:=K7 hi'
 have hpm:=Xp.props_mem hp.2
 have him:=Xp.infs_all xs f1
 obtain⟨k1,k2,k3⟩:=A11 hp.1
 have hx2:xs.length≤2:=by
  have:Bi k≤2:=by unfold Bi;split<;>(try split)<;>omega
  omega
 have hbl:=A6 hb
 obtain⟨R,hR⟩ : ∃R,R=(Xp.mk k v f t n xs).valE s oth q:=⟨_,rfl⟩
 rw [←hR]
 rw [Xp.valE] at hR
 have hbE : ∀l:List Bx,(B++l)[b]?=some (.cells (mC s oth lv mb sum)):=fun l=>Aj hb l
 have gz : ∀(l:List Bx),(B++l)[B.length]?=l[0]?:=fun l=>by rw [List.getElem?_append_right (by omega)];congr 1;omega
 have g1 : ∀(l:List Bx) (j:Nat),(B++l)[B.length+j]?=l[j]?:=fun l j=>by rw [List.getElem?_append_right (by omega)];congr 1;omega
 have s1 : ∀(l:List Bx) (j:Nat) (w:Bx),(B++l).set (B.length+j) w=B++l.set j w:=fun l j w=>by rw [List.set_append_right _ _ (by omega)];congr 2;omega
 have hle : ∀(l l':List Bx) n m,B.length≤n→(Ab n m (B++l) (B++l')↔Ab n m l l'):=fun l l' n m h=>Ab.appU (hU n m h)
 have hdrop : ∀(l:List Bx) m,Ab B.length m (B++l) B:=fun l m=>Ab.ext l (hU _ m (Nat.le_refl _))
 have hnv : ∀j m,okN (B.length+j) m nv=true:=fun j m=>hn.ok (by omega)
 have hval:=fun (x:Xp) (hx:x∈xs) (l:List Bx) (hl : ∀n m,Ab n m l l)=>ih x hx (hpm x hx) (him x hx) (B++l) (fun n m h=>(hle l l n m (by simp at h;omega)).2 (hl n m)) b lv mb sum (hbE l) nv (hn.app l)
 obtain⟨r1,r2⟩:=R
 rw [show (Xp.mk k v f t n xs).v=.agg [vI k,vI v,vI f,vI t,vS n,.t (.sl (xs.map Xp.c))] from by show V.agg _=_;rw [Xp.c_mk];rfl]
 unfold vO
 (refine FnS.of_code mix Tryz.call30 k_30 (by simp) (fun hB=>?_);(try simp at hB);(try simp -implicitDefEqProofs))
 (try simp -implicitDefEqProofs [gz,g1,s1])
 refine A9 (X:=VS) (fun X=>X.i≤xs.length∧X.vs.length=X.i∧(Xp.valEs s oth q (xs.drop X.i)).map (X.vs ++ ·)=Xp.valEs s oth q xs)
  (fun X=>[(0,.ptr b 0),(2,nv),(4,.ptr B.length 0),(8,.ptr (B.length+1) 0),(14,.t (.sl (xs.map Xp.c))),(15,vI xs.length),(16,vI X.i)])
  (fun X=>⟨B++[.cells [vI k,vI v,vI f,vI t,vS n,.t (.sl (xs.map Xp.c))],.cells [vI (X.vs.getD 0 0),vI (X.vs.getD 1 0)]],[]⟩) (fun X=>xs.length-X.i) ⟨0,[]⟩ ⟨by simp,rfl,by simp⟩ ?hs ?_
 case hs=>
  simp [hle,E.leB,A5,okNs,okN,hnv]
  omega
 rintro ⟨i,vs⟩ ⟨hi2,hvl,hvs⟩ hbd
 simp only [] at hi2 hvl hvs
 clear hbd
 have e3:IntKind.i64.wrap ((i:Int)+1)=(i:Int)+1:=wrap64 (by omega) (by omega)
 rcases Nat.lt_or_ge i xs.length with h|h
 ·obtain⟨a,ha⟩:=Ad h
  have ham:a∈xs:=List.mem_of_getElem? ha
  have hdr:xs.drop i=a::xs.drop (i+1):=by
   obtain⟨h1,h2⟩:=List.getElem?_eq_some_iff.1 ha
   rw [List.drop_eq_getElem_cons h1,h2]
  rw [hdr,Xp.valEs] at hvs
  have hxc:(xs.map Xp.c)[i]?=some a.c:=by simp [ha]
  have hxc' : ∀h,(xs.map Xp.c)[i]'h=a.c:=fun h=>by rw [List.getElem?_eq_getElem h] at hxc;exact Option.some.inj hxc
  have hcall:=hval a ham [.cells [vI k,vI v,vI f,vI t,vS n,.t (.sl (xs.map Xp.c))],.cells [vI (vs.getD 0 0),vI (vs.getD 1 0)],.cells (a.c.map .t)] (fun n m=>⟨⟨A5 _,rfl⟩,⟨A5 _,rfl⟩,⟨A5 _,Fk _ _ _⟩,trivial⟩)
  obtain⟨w,hw⟩ : ∃w,w=a.valE s oth q:=⟨_,rfl⟩
  rw [←hw] at hcall hvs
  obtain⟨w1,w2⟩:=w
  simp only [] at hvs
  unfold vO at hcall
  obtain⟨ak,av,af,at',an,axs⟩:=a
  rw [Xp.c_mk] at hxc hcall
  simp only [Xp.c_mk] at hxc'
  rw [show (Xp.mk ak av af at' an axs).v=.agg [vI ak,vI av,vI af,vI at',vS an,.t (.sl (axs.map Xp.c))] from by show V.agg _=_;rw [Xp.c_mk];rfl] at hcall
  simp only [List.map_cons,List.map_nil] at hcall
  cases w2
  ·rw [if_neg (by decide)] at hvs
   rw [←hvs] at hR
   simp only [Option.map_none,Prod.mk.injEq] at hR
   obtain⟨rfl,rfl⟩:=hR
   (try simp -implicitDefEqProofs [h,hxc,hxc',gz,g1,s1])
   refine Ac hcall ?_
   (try simp -implicitDefEqProofs [gz,g1,s1,hdrop])
  ·rw [if_pos rfl,Option.map_map] at hvs
   have hvs2:(Xp.valEs s oth q (xs.drop (i+1))).map ((vs++[w1]) ++ ·)=Xp.valEs s oth q xs:=by
    rw [←hvs]
    congr 1
    funext l
    simp
   rcases (by omega:i=0∨i=1) with i0|i0
   ·subst i0
    have h0i:(0:Int)<xs.length:=by omega
    have hv0:vs=[]:=List.eq_nil_of_length_eq_zero hvl
    subst hv0
    (try simp -implicitDefEqProofs [h,h0i,hxc,hxc',gz,g1,s1])
    refine Ac hcall ?_
    (try simp -implicitDefEqProofs [gz,g1,s1,hle,E.leB,A5,okNs,okN,hnv])
    refine⟨⟨1,[w1]⟩,⟨h,rfl,hvs2⟩,by simp only [];omega,?_⟩
    simp [hle,E.leB,A5,okNs,okN,hnv]
    omega
   ·subst i0
    have h0i:(1:Int)<xs.length:=by omega
    obtain⟨u,rfl⟩:=List.length_eq_one_iff.1 hvl
    (try simp -implicitDefEqProofs [h,h0i,hxc,hxc',gz,g1,s1])
    refine Ac hcall ?_
    (try simp -implicitDefEqProofs [gz,g1,s1,hle,E.leB,A5,okNs,okN,hnv])
    refine⟨⟨2,[u,w1]⟩,⟨h,rfl,hvs2⟩,by simp only [];omega,?_⟩
    simp [hle,E.leB,A5,okNs,okN,hnv]
    omega
 ·have hii:i=xs.length:=by omega
  subst hii
  rw [List.drop_of_length_le (Nat.le_refl _),Xp.valEs] at hvs
  simp only [Option.map_some,List.append_nil] at hvs
  rw [←hvs] at hR
  simp only [] at hR
  obtain⟨Bx2,hBx2⟩ : ∃Bx2:List Bx,Bx2=[.cells [vI k,vI v,vI f,vI t,vS n,.t (.sl (xs.map Xp.c))],.cells [vI (vs.getD 0 0),vI (vs.getD 1 0)]]:=⟨_,rfl⟩
  have hU2:OkU (B++Bx2):=fun n m h=>(hle _ _ n m (by simp at h;omega)).2 (by rw [hBx2];exact⟨⟨A5 _,rfl⟩,⟨A5 _,rfl⟩,trivial⟩)
  have hread:=fun f t p=>Oz b f t p ⟨B++Bx2,[]⟩ hU2.S s oth lv mb sum hs (hbE _)
  have hshare:=fun n=>Vc b n ⟨B++Bx2,[]⟩ hU2.S s oth lv mb sum hs (hbE _)
  rw [hBx2] at hread hshare
  have hbE2:=hbE
  unfold mC at hbE2
  have d : ∀j:Int,k≠j→(k==j)=false:=fun j h=>by simpa using h
  by_cases q1:k=1
  ·subst q1
   simp only [Ge,if_true,Prod.mk.injEq] at hR
   obtain⟨rfl,rfl⟩:=hR
   (try simp -implicitDefEqProofs [gz,g1,s1,hdrop])
  by_cases q2:k=2
  ·subst q2
   simp only [Ge,show ¬(2:Int)=1 by decide,if_true,if_false,Prod.mk.injEq] at hR
   obtain⟨rfl,rfl⟩:=hR
   rcases hn with ⟨rfl,hz⟩|⟨nb,L,rfl,hL,hz⟩
   ·rw [hz]
    (try simp -implicitDefEqProofs [gz,g1,s1,hdrop,O3])
   ·rw [hz]
    have hLE : ∀l:List Bx,(B++l)[nb]?=some (.mp (mS vI L)):=fun l=>Aj hL l
    have hfm:=He vI n L
    cases hag:Bf L n with
    | none=>rw [hag] at hfm;(try simp -implicitDefEqProofs [gz,g1,s1,hdrop,O3,hLE,hfm])
    | some z=>rw [hag] at hfm;(try simp -implicitDefEqProofs [gz,g1,s1,hdrop,O3,hLE,hfm])
  by_cases q21:k=21
  ·subst q21
   simp only [Ge,show ¬(21:Int)=1 by decide,show ¬(21:Int)=2 by decide,if_true,if_false,Prod.mk.injEq] at hR
   have hr:=hread f t (-1)
   rw [show decide ((-1:Int)<0)=true from rfl,show Aq s.items f t true (-1)=Aq s.items f t true 0 by unfold Aq;simp] at hr
   obtain⟨rfl,rfl⟩:=hR
   (try simp -implicitDefEqProofs [gz,g1,s1])
   refine Ac hr ?_
   (try simp -implicitDefEqProofs [hdrop])
  by_cases q22:k=22
  ·subst q22
   simp only [Ge,show ¬(22:Int)=1 by decide,show ¬(22:Int)=2 by decide,show ¬(22:Int)=21 by decide,if_true,if_false,Prod.mk.injEq] at hR
   have hoth:=hpo (f4 rfl)
   have hr:=hread f t oth
   have hrA:=fun (l:List Bx)=>FnS.ofOk (S:=⟨(B++[.cells [vI 22,vI v,vI f,vI t,vS n,.t (.sl (xs.map Xp.c))],.cells [vI (vs.getD 0 0),vI (vs.getD 1 0)]])++l,[]⟩) Tryz.call71 (fun hok=>Oz b f t oth _ hok s oth lv mb sum hs (Aj (hbE _) l))
   rw [show decide (oth<0)=false by simp;exact hoth] at hr hrA
   obtain⟨rfl,rfl⟩:=hR
   (try simp -implicitDefEqProofs [gz,g1,s1,hbE2])
   refine Qi hr (fun _=>⟨rfl,fun l=>hrA l⟩) ?_
   (try simp -implicitDefEqProofs [hdrop])
  by_cases q5:k=5
  ·subst q5
   simp only [Ge,show ¬(5:Int)=1 by decide,show ¬(5:Int)=2 by decide,show ¬(5:Int)=21 by decide,show ¬(5:Int)=22 by decide,if_true,if_false] at hR
   have hr:=hshare (vs.getD 0 0)
   rw [←hR] at hr
   (try simp -implicitDefEqProofs [gz,g1,s1])
   refine Ac hr ?_
   (try simp -implicitDefEqProofs [hdrop])
  simp only [Ge,q1,q2,q21,q22,q5,if_false] at hR
  have hop:=X0 (Dd k) v (vs.getD 0 0) (vs.getD 1 0)
  rw [←hR] at hop
  unfold vO at hop
  have hol:=A3d k1 k2 q1 q2 q5 q21 q22
  have hol1:(Ug.map vI)[k.toNat]?=some (vI (Dd k)):=by rw [List.getElem?_map,hol];rfl
  have hol2 : ∀h,(Ug.map vI)[k.toNat]'h=vI (Dd k):=fun h=>by rw [List.getElem?_eq_getElem h] at hol1;exact Option.some.inj hol1
  have holl:(Ug.map vI).length=23:=rfl
  have heo:=A6d
  generalize Ug.map vI=OL at *
  have k0:0≤k:=by omega
  have k23:k<23:=by omega
  have k24:k.toNat+1≤23:=by omega
  have k25:k.toNat<23:=by omega
  ((try simp at heo hop);(try simp -implicitDefEqProofs [gz,g1,s1,d 1 q1,d 2 q2,d 21 q21,d 22 q22,d 5 q5,hol1,hol2,holl,k0,k23,k24,k25]);repeat' first|(with_reducible apply A0<;>first|(simp only [eras,era,A1];first|with_reducible assumption)|(simp -implicitDefEqProofs [gz,g1,s1,d 1 q1,d 2 q2,d 21 q21,d 22 q22,d 5 q5,hol1,hol2,holl,k0,k23,k24,k25])))
  exact hdrop _ _
end Go.Proofs.YtmlpmdccfmmpoaaGreatDoor
