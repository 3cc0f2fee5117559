/- Chapter 35: the program's value of an expression. -/
import Derived.Test.YtmlpmdccfmmpoaaGreatDoorPrg
import Derived.Test.YtmlpmdccfmmpoaaGreatDoorExM
import Derived.Test.YtmlpmdccfmmpoaaGreatDoorMaps
import Derived.Test.YtmlpmdccfmmpoaaGreatDoorLba
import Derived.Test.YtmlpmdccfmmpoaaGreatDoorFds
import Derived.Test.YtmlpmdccfmmpoaaGreatDoorExK
set_option linter.unusedSimpArgs false
set_option linter.unusedVariables false
set_option maxHeartbeats 4000000
set_option maxRecDepth 8000
namespace Go.Proofs.YtmlpmdccfmmpoaaGreatDoor
open E
def G0 (s:Src) (oth:Int) (q:List UInt8→Int) (k v f t:Int) (n:List UInt8) (vs:List Int):Int×Bool:=
 if k=1 then (v,true) else if k=2 then (q n,true)
 else if k=21 then (B0 s.items f t true 0,Aj (B0 s.items f t true 0))
 else if k=22 then (B0 s.items f t false oth,Aj (B0 s.items f t false oth))
 else if k=5 then F1 (vs.getD 0 0) s else opC (F4 k) v (vs.getD 0 0) (vs.getD 1 0)
namespace Xp
mutual
def valE (s:Src) (oth:Int) (q:List UInt8→Int):Xp→Int×Bool
 | .mk k v f t n xs=>match valEs s oth q xs with
  | some vs=>G0 s oth q k v f t n vs
  | none=>(0,false)
def valEs (s:Src) (oth:Int) (q:List UInt8→Int):List Xp→Option (List Int)
 | []=>some []
 | x::xs=>if (valE s oth q x).2=true then (valEs s oth q xs).map ((valE s oth q x).1 :: ·) else none
end
theorem valEs_len {s:Src} {oth:Int} {q:List UInt8→Int} : ∀{xs:List Xp} {vs:List Int},valEs s oth q xs=some vs→vs.length=xs.length
 | [],vs,h=>by cases h;rfl
 | x::xs,vs,h=>by
  rw [valEs] at h
  split at h
  ·cases hx:valEs s oth q xs with
   | none=>rw [hx] at h;cases h
   | some us=>rw [hx] at h;cases h;simp [valEs_len hx]
  ·cases h
end Xp
def Mh (s:Src) (oth:Int) (loc:List Int):List Ins→List Int→Option (List Int)
 | [],st=>some st
 | x::l,st=>if (Ca s oth x st loc).2=true then Mh s oth loc l ((Ca s oth x st loc).1::st.drop (tk x.op).toNat) else none
theorem Mi {s:Src} {oth:Int} {loc:List Int} : ∀{a b:List Ins} {st:List Int},Mh s oth loc (a++b) st=(Mh s oth loc a st).bind (Mh s oth loc b)
 | [],b,st=>rfl
 | x::a,b,st=>by
  simp only [List.cons_append,Mh]
  split
  ·exact Mi
  ·rfl
theorem A0l {k v f t:Int} {n:List UInt8} {len:Nat} (h:Hs k v f t n len=true):1≤k∧k≤22∧(len:Int)=Ch k:=by
 simp only [Hs,kdB,Bool.and_eq_true,decide_eq_true_eq,beq_iff_eq] at h
 exact⟨h.1.1.1,h.1.1.2,h.1.2⟩
theorem A7d {k v f t:Int} {n:List UInt8} {len:Nat} (h:Hs k v f t n len=true) (h1:k≠1) (h2:k≠20):v=0:=by
 simp only [Hs,Bool.and_eq_true] at h
 have h:=h.2
 unfold fldB at h
 rw [if_neg h1] at h
 by_cases hk:k=2
 ·rw [if_pos hk] at h
  simp only [Bool.and_eq_true,beq_iff_eq] at h;exact h.1.1.2
 rw [if_neg hk,if_neg h2] at h
 by_cases h3:k=21∨k=22
 ·rw [if_pos h3] at h
  simp only [Bool.and_eq_true,beq_iff_eq] at h;exact h.1.2
 ·rw [if_neg h3] at h
  simp only [Bool.and_eq_true,beq_iff_eq] at h;exact h.1.1.1
theorem A0m {s:Src} {oth:Int} {q:List UInt8→Int} {M:List (List UInt8)} {loc st:List Int} {k v f t:Int} {n:List UInt8} {vs:List Int} (h:Hs k v f t n vs.length=true) (hq:k=2→q n=loc.getD (J7 M n).toNat 0) :
  Ca s oth (Dx M k v f t n) (vs.reverse++st) loc=G0 s oth q k v f t n vs∧(vs.reverse++st).drop (tk (Dx M k v f t n).op).toNat=st:=by
 obtain⟨h1,h2,h3⟩:=A0l h
 have hv:=A7d h
 have htk:=(Ju h1 h2).1
 rw [←h3] at htk
 rw [Md,htk]
 refine⟨?_,by rw [Int.toNat_natCast,List.drop_left' (by simp)]⟩
 by_cases k1:k=1
 ·subst k1;simp [Dx,Ca,G0]
 by_cases k2:k=2
 ·subst k2;simp only [Dx,Ca,G0];simp [hq rfl]
 by_cases k20:k=20
 ·subst k20
  have h4:vs.length=1:=by simp [Ch] at h3;omega
  obtain⟨a,rfl⟩:=List.length_eq_one_iff.1 h4
  simp [Dx,Ca,G0,show tk 9=1 from rfl,F4]
 by_cases k21:k=21
 ·subst k21;simp [Dx,Ca,G0]
 by_cases k22:k=22
 ·subst k22;simp [Dx,Ca,G0]
 have hv0:=hv k1 k20
 have hl:Dx M k v f t n=⟨F4 k,0,0⟩:=by unfold Dx;rw [if_neg k1,if_neg k2,if_neg k20,if_neg k21,if_neg k22]
 rw [hl,hv0]
 by_cases k5:k=5
 ·subst k5
  have h4:vs.length=1:=by simp [Ch] at h3;omega
  obtain⟨a,rfl⟩:=List.length_eq_one_iff.1 h4
  simp [Ca,G0,F4]
 have htop:G0 s oth q k 0 f t n vs=opC (F4 k) 0 (vs.getD 0 0) (vs.getD 1 0):=by unfold G0;rw [if_neg k1,if_neg k2,if_neg k21,if_neg k22,if_neg k5]
 rw [htop]
 rcases (by omega:(k=3∨k=4∨k=6)∨(7≤k∧k≤19)) with hk|hk
 ·have h4:vs.length=1:=by rcases hk with rfl|rfl|rfl<;>(simp [Ch] at h3;omega)
  obtain⟨a,rfl⟩:=List.length_eq_one_iff.1 h4
  rcases hk with rfl|rfl|rfl
  ·simp [Ca,F4,show tk 5=1 from rfl]
  ·simp [Ca,F4,show tk 6=1 from rfl]
  ·simp [Ca,F4,show tk 8=1 from rfl]
 ·have h4:vs.length=2:=by
   have:Ch k=2:=by unfold Ch;rw [if_neg (by omega),if_pos (by omega)]
   omega
  obtain⟨a,b,rfl⟩ : ∃a b,vs=[a,b]:=by
   match vs,h4 with
   | [a,b],_=>exact⟨a,b,rfl⟩
  have ho:F4 k=k+3:=by unfold F4;simp only [show ¬k=1 by omega,show ¬k=2 by omega,show ¬k=3 by omega,show ¬k=4 by omega,show ¬k=5 by omega,show ¬k=6 by omega,show ¬k=20 by omega,show ¬k=21 by omega,show ¬k=22 by omega,if_false]
  have ht:tk (F4 k)=2:=by rw [htk];rfl
  unfold Ca
  simp only [ho,show ¬k+3=1 by omega,show ¬k+3=2 by omega,show ¬k+3=3 by omega,show ¬k+3=4 by omega,show ¬k+3=7 by omega,if_false]
  rw [←ho,ht]
  simp
namespace Xp
theorem Rs {s:Src} {oth:Int} {q:List UInt8→Int} {M:List (List UInt8)} {loc:List Int} : ∀(xs:List Xp),(∀x∈xs,∀st,Mh s oth loc (x.codeX M) st=if (x.valE s oth q).2=true then some ((x.valE s oth q).1::st) else none)→
  ∀st,Mh s oth loc (codesX M xs) st=(valEs s oth q xs).map fun vs=>vs.reverse++st
 | [],_,st=>rfl
 | x::xs,h,st=>by
  rw [codesX,Mi,h x (by simp),valEs]
  split
  ·rw [Option.bind_some,Rs xs (fun y hy=>h y (by simp [hy]))]
   cases valEs s oth q xs with
   | none=>rfl
   | some vs=>simp
  ·rfl
theorem run_val {s:Src} {oth:Int} {q:List UInt8→Int} {M:List (List UInt8)} {loc:List Int} {pair:Bool} (hq : ∀n∈M,q n=loc.getD (J7 M n).toNat 0) : ∀(x:Xp),x.prop=true→(x.inf (Cf M) pair).2=0→∀st,Mh s oth loc (x.codeX M) st=if (x.valE s oth q).2=true then some ((x.valE s oth q).1::st) else none:=by
 refine Xp.ind fun k v f t n xs ih hp hi st=>?_
 simp only [prop,Bool.and_eq_true] at hp
 have hi':(Fx (Cf M n) pair (infs (Cf M) pair (J4 k) xs).2 (infs (Cf M) pair (J4 k) xs).1 k f t).2=0:=by simpa [inf] using hi
 obtain⟨f1,f2,f3,f4⟩:=Jv hi'
 have hpm:=props_mem hp.2
 have him:=infs_all xs f1
 rw [codeX,Mi,Rs xs (fun x hx st=>ih x hx (hpm x hx) (him x hx) st),valE]
 cases hvs:valEs s oth q xs with
 | none=>simp
 | some vs=>
  have hl:=valEs_len hvs
  have hs:=hp.1
  rw [←hl] at hs
  obtain⟨t1,t2⟩:=A0m (s:=s) (oth:=oth) (q:=q) (M:=M) (loc:=loc) (st:=st) hs (fun h2=>hq n (by simpa [Cf] using f2 h2))
  simp only [Option.map_some,Option.bind_some,Mh]
  rw [t1,t2]
end Xp
def Bt (s:Src) (oth to:Int):List (List UInt8×Int)→List Stm→List Part→Option (List Part)
 | _,[],ps=>De (ps++[⟨to,-(ps.map Part.amt).sum⟩])
 | L,x::ss,ps=>
  if (x.ex.valE s oth fun n=>(B7 L n).getD 0).2=true then
   if x.kind=1 then Bt s oth to (Ce L x.name (x.ex.valE s oth fun n=>(B7 L n).getD 0).1) ss ps
   else if x.kind=2 then if (x.ex.valE s oth fun n=>(B7 L n).getD 0).1=0 then some [] else Bt s oth to L ss ps
   else Bt s oth to L ss (ps++[⟨x.acc,(x.ex.valE s oth fun n=>(B7 L n).getD 0).1⟩])
  else none
def E8 (r:Rul) (s:Src) (oth rule:Int):Option Posting:=(Bt s oth r.to [] r.stmts []).map (G5 s oth rule)
theorem Mj {s:Src} {oth:Int} {loc:List Int} {ps:List Part} {rest:List Ins} : ∀{cd:List Ins} {st:List Int},(∀i∈cd,1≤i.op∧i.op≤22)→
  Am s oth (cd++rest) st loc ps=match Mh s oth loc cd st with
   | some st'=>Am s oth rest st' loc ps
   | none=>none
 | [],st,_=>rfl
 | x::cd,st,h=>by
  have h0:=h x (by simp)
  simp only [List.cons_append,Am,Mh]
  rw [if_neg (by omega),if_neg (by omega),if_neg (by omega),if_neg (by omega)]
  split
  ·exact Mj fun i hi=>h i (by simp [hi])
  ·rfl
theorem Xs {s:Src} {oth v:Int} {loc:List Int} {ps:List Part} {l:List Ins} : Am s oth (⟨24,0,0⟩::l) [v] loc ps=if v=0 then some [] else Am s oth l [] loc ps:=by simp [Am]
theorem Xt (M:List (List UInt8)) : ∀(x:Xp),x.prop=true→∀i∈x.codeX M,1≤i.op∧i.op≤22:=by
 refine Xp.ind fun k v f t n xs ih hp i hi=>?_
 simp only [Xp.prop,Bool.and_eq_true] at hp
 obtain⟨k1,k2,_⟩:=A0l hp.1
 rw [Xp.codeX,List.mem_append,Xp.codesX_flat,List.mem_flatMap] at hi
 rcases hi with ⟨y,hy,hi⟩|hi
 ·exact ih y hy (Xp.props_mem hp.2 y hy) i hi
 ·simp only [List.mem_singleton] at hi
  rw [hi,Md]
  exact (Ju k1 k2).2.2
theorem Kg {s:Src} {oth to:Int} {known:Int→Bool} {pair:Bool} : ∀(ss:List Stm) (M:List (List UInt8)) (L:List (List UInt8×Int)) (loc:List Int) (ps:List Part),
  (∀x∈ss,F2 x=true)→Bh known pair M ss=0→loc.length=M.length→(∀n∈M,(B7 L n).getD 0=loc.getD (J7 M n).toNat 0)→
  Bt s oth to L ss ps=Am s oth (Az M ss++[⟨26,to,0⟩]) [] loc ps
 | [],M,L,loc,ps,_,_,_,_=>by simp [Bt,Az,Am]
 | x::ss,M,L,loc,ps,hb,he,hl,hq=>by
  rw [Bh] at he
  split at he
  ·rename_i h1;exact absurd he h1
  rename_i h1
  have hs0:D9 known (Cf M) pair x=0:=by simpa using h1
  have hi0:(x.ex.inf (Cf M) pair).2=0:=by
   unfold D9 at hs0
   split at hs0
   ·rename_i q;exact absurd hs0 q
   ·rename_i q;simpa using q
  have hnew:x.kind=1→x.name∉M:=fun k1 hm=>by
   unfold D9 at hs0
   rw [if_neg (by simpa using hi0)] at hs0
   split at hs0
   ·cases hs0
   ·rw [if_pos ⟨k1,by simpa [Cf] using hm⟩] at hs0;cases hs0
  have hsb:=hb x (by simp)
  unfold F2 at hsb
  simp only [Bool.and_eq_true,decide_eq_true_eq] at hsb
  obtain⟨⟨hsh,_⟩,hpr⟩:=hsb
  have hrv:=Xp.run_val (s:=s) (oth:=oth) (q:=fun n=>(B7 L n).getD 0) (M:=M) (loc:=loc) (pair:=pair) hq x.ex hpr hi0 []
  have ih:=fun M' L' loc' ps'=>Kg (s:=s) (oth:=oth) (to:=to) (known:=known) (pair:=pair) ss M' L' loc' ps' (fun y hy=>hb y (by simp [hy]))
  rw [Bt,Az,List.append_assoc,List.append_assoc,Mj (Xt M x.ex hpr),hrv]
  generalize (x.ex.valE s oth fun n=>(B7 L n).getD 0)=v
  obtain⟨v1,v2⟩:=v
  cases v2
  ·simp
  ·simp only [if_true,List.singleton_append]
   unfold Tw at hsh
   by_cases k1:x.kind=1
   ·have hls:Eh M x=⟨23,M.length,0⟩:=by unfold Eh;rw [if_pos k1]
    have hno:Af [x]=[x.name]:=by simp [Af,k1]
    rw [hno] at he ⊢
    rw [hls,if_pos k1]
    simp only [Am,List.headD_cons,List.tail_cons,if_true]
    refine ih (M++[x.name]) _ _ _ he (by simp [hl]) fun n hn=>?_
    rw [Jf]
    have hix:J7 (M++[x.name]) n=if x.name=n then (M.length:Int) else J7 M n:=by
     unfold J7;rw [Nv];simp
    rw [hix]
    by_cases hn1:x.name=n
    ·rw [if_pos hn1,if_pos hn1.symm,Int.toNat_natCast,←hl]
     simp [List.getD_eq_getElem?_getD]
    ·rw [if_neg hn1,if_neg (Ne.symm hn1)]
     have hnM:n∈M:=by
      rcases List.mem_append.1 hn with h|h
      ·exact h
      ·simp at h;exact absurd h.symm hn1
     have:=Rm hnM
     rw [hq n hnM,List.getD_eq_getElem?_getD,List.getD_eq_getElem?_getD,List.getElem?_append_left (by omega)]
   ·have hno:Af [x]=[]:=by simp [Af,k1]
    rw [hno,List.append_nil] at he ⊢
    rw [if_neg k1] at hsh ⊢
    by_cases k2:x.kind=2
    ·have hls:Eh M x=⟨24,0,0⟩:=by unfold Eh;rw [if_neg k1,if_pos k2]
     rw [hls,if_pos k2]
     rw [Xs]
     by_cases hv0:v1=0
     ·rw [if_pos hv0,if_pos hv0]
     ·rw [if_neg hv0,if_neg hv0];exact ih M L loc ps he hl hq
    ·have hls:Eh M x=⟨25,x.acc,0⟩:=by unfold Eh;rw [if_neg k1,if_neg k2]
     rw [hls,if_neg k2]
     simp only [Am,List.headD_cons,List.tail_cons,show ¬(25:Int)=23 by decide,show ¬(25:Int)=24 by decide,if_true,if_false]
     exact ih M L loc _ he hl hq
theorem P1 {r:Rul} {known:Int→Bool} (hb:D7 r=true) (he:Bh known r.pair [] r.stmts=0) (s:Src) (oth rule:Int):E8 r s oth rule=Cy (B5 r) s oth rule:=by
 unfold E8 Cy B5
 have hst : ∀x∈r.stmts,F2 x=true:=by
  unfold D7 at hb
  simp only [Bool.and_eq_true,List.all_eq_true] at hb
  exact hb.2
 rw [Kg (known:=known) (pair:=r.pair) r.stmts [] [] [] [] hst he rfl (fun n hn=>by cases hn)]
end Go.Proofs.YtmlpmdccfmmpoaaGreatDoor
section
set_option linter.unusedSimpArgs false
set_option linter.unusedVariables false
namespace Go.Proofs.YtmlpmdccfmmpoaaGreatDoor
namespace E
theorem Ey {a b:Nat} : ∀{vs:List V},(∀j,j<vs.length→okN a b (vs.getD j .junk)=true)→okNs a b vs=true
 | [],_=>rfl
 | v::vs,h=>by
  have h0:=h 0 (by simp)
  have h1:=Ey (vs:=vs) fun j hj=>by have:=h (j+1) (by simpa using hj);simpa using this
  simp only [okNs,Bool.and_eq_true]
  exact⟨by simpa using h0,h1⟩
theorem RelV.okB {g:Gh} {tk:List Nat} {v:V} {u:Value} (h:RelV g tk v u):okN g.β.length tk.length v=true:=by
 induction h with
 | t x v h=>rfl
 | und=>rfl
 | junk v=>rfl
 | snil=>rfl
 | full es a h=>rfl
 | own k e z es v n h hz hn hle hg=>have:=(List.getElem?_eq_some_iff.1 hn).1;simp [okN,this]
 | ptr b o blk h=>have:=(List.getElem?_eq_some_iff.1 h).1;simp [okN,this]
 | tp e o blk off c hI hr=>rfl
 | fn f caps vs hl hr ih=>simp only [okN];exact Ey ih
 | agg cs vs hl hr ih=>simp only [okN];exact Ey ih
 | tup cs vs hl hr ih=>simp only [okN];exact Ey ih
 | mp b blk h=>have:=(List.getElem?_eq_some_iff.1 h).1;simp [okN,this]
 | vw b o n blk cap h hc hm=>have:=(List.getElem?_eq_some_iff.1 h).1;simp [okN,this]
 | bw b n blk cap h hc hk hm=>have:=(List.getElem?_eq_some_iff.1 h).1;simp [okN,this]
theorem At.self : ∀(K:List Nat),At K K
 | []=>trivial
 | _::K=>⟨rfl,At.self K⟩
theorem Aa.self {n m:Nat} : ∀{B:List Bx},(∀(i:Nat) (x:Bx),B[i]?=some x→E.leB n m x x)→Aa n m B B
 | [],_=>trivial
 | b::B,h=>⟨h 0 b rfl,Aa.self fun i x hx=>h (i+1) x (by simpa using hx)⟩
theorem Inv.okS {g:Gh} {S:St} {w:World} (hI:Inv g S w):OkS S:=by
 refine⟨Aa.self fun i x hx=>?_,At.self _⟩
 have hil:=(List.getElem?_eq_some_iff.1 hx).1
 obtain⟨blk,hb⟩ : ∃blk,g.β[i]?=some blk:=⟨_,List.getElem?_eq_getElem (by rw [hI.len];exact hil)⟩
 have hbox:=hI.box i blk x hb hx
 rw [←hI.len]
 cases x with
 | dead=>trivial
 | cells cs=>
  obtain⟨vs,ty,_,_,h⟩:=hbox
  exact⟨A4 _,Ey fun j hj=>(h j hj).okB⟩
 | mp es=>
  obtain⟨ms,clock,_,h1,h2,_⟩:=hbox
  refine⟨rfl,Ey fun j hj=>?_,Ey fun j hj=>?_⟩
  ·simp only [List.length_map] at hj
   obtain⟨m,_,h3,h4,_⟩:=h2 j hj
   have:=h3.okB
   simpa [List.getD_eq_getElem?_getD,hj] using this
  ·simp only [List.length_map] at hj
   obtain⟨m,_,h3,h4,_⟩:=h2 j hj
   have:=h4.okB
   simpa [List.getD_eq_getElem?_getD,hj] using this
 | buf e z cs=>
  obtain⟨vs,_,_,_,h⟩:=hbox
  exact⟨rfl,rfl,A4 _,Ey fun j hj=>(h j hj).okB⟩
 | itr s p=>exact⟨rfl,rfl⟩
theorem FnS.ofOk {P:Program} {f:Nat} {vs:List V} {S S':St} {r:V} (hE:Bj P f) (h:OkS S→FnS P f vs S r S'):FnS P f vs S r S':=⟨hE,fun g w us hI hus hrel=>(h (Inv.okS hI)).2 g w us hI hus hrel⟩
end E
end Go.Proofs.YtmlpmdccfmmpoaaGreatDoor
end
namespace Go.Proofs.YtmlpmdccfmmpoaaGreatDoor
open E
def U4:List Int:=[0,0,0,5,6,0,8,10,11,12,13,14,15,16,17,18,19,20,21,22,9,0,0]
theorem A5t:A7 Tryz.prog 73 [] (.agg (U4.map vI)):=by
 unfold U4
 (refine A7.of_code mix Tryz.call73 k_73 (by simp) (fun hB=>?_);(try simp at hB);(try simp -implicitDefEqProofs))
 (try simp -implicitDefEqProofs)
theorem A2x {k:Int} (h1:1≤k) (h2:k≤22) (n1:k≠1) (n2:k≠2) (n5:k≠5) (n21:k≠21) (n22:k≠22):U4[k.toNat]?=some (F4 k):=by
 rcases (by omega:k=3∨k=4∨k=6∨k=7∨k=8∨k=9∨k=10∨k=11∨k=12∨k=13∨k=14∨k=15∨k=16∨k=17∨k=18∨k=19∨k=20) with h|h|h|h|h|h|h|h|h|h|h|h|h|h|h|h|h<;>(subst h;rfl)
def Xu (B:List Bx) (nv:V) (q:List UInt8→Int):Prop:=(nv=.t .nilm∧∀n,q n=0)∨∃(nb:Nat) (L:List (List UInt8×Int)),nv=.mp nb∧B[nb]?=some (.mp (mS vI L))∧∀n,q n=(B7 L n).getD 0
theorem Xu.app {B:List Bx} {nv:V} {q:List UInt8→Int} (h:Xu B nv q) (l:List Bx):Xu (B++l) nv q:=by
 rcases h with h|⟨nb,L,h1,h2,h3⟩
 ·exact .inl h
 ·exact .inr ⟨nb,L,h1,Ai h2 l,h3⟩
theorem Xu.ok {B:List Bx} {nv:V} {q:List UInt8→Int} (h:Xu B nv q) {n m:Nat} (hn:B.length≤n):okN n m nv=true:=by
 rcases h with ⟨rfl,_⟩|⟨nb,L,rfl,h2,_⟩
 ·rfl
 ·have:=Ab h2;simp [okN];omega
structure VS where
 i:Nat
 vs:List Int
theorem A2y (s:Src) (hs:s.Ok) (oth:Int) (kn:List UInt8→Bool) (pair:Bool) (q:List UInt8→Int) (hpo:pair=true→0≤oth) : ∀(x:Xp),x.prop=true→(x.inf kn pair).2=0→∀(B:List Bx) (hU:OkU B) (b:Nat) (lv:V) (mb:Nat) (sum:Int) (hb:B[b]?=some (.cells (mC s oth lv mb sum))) (nv:V) (hn:Xu B nv q),
  FnS Tryz.prog 30 [.ptr b 0,x.v,nv] ⟨B,[]⟩ (vO (x.valE s oth q)) ⟨B,[]⟩:=by
 refine Xp.ind fun k v f t n xs ih hp hi B hU b lv mb sum hb nv hn=>?_
 simp only [Xp.prop,Bool.and_eq_true] at hp
 have hi':(Fx (kn n) pair (Xp.infs kn pair (J4 k) xs).2 (Xp.infs kn pair (J4 k) xs).1 k f t).2=0:=by simpa [Xp.inf] using hi
 obtain⟨f1,f2,f3,f4⟩:=Jv hi'
 have hpm:=Xp.props_mem hp.2
 have him:=Xp.infs_all xs f1
 obtain⟨k1,k2,k3⟩:=A0l hp.1
 have hx2:xs.length≤2:=by
  have:Ch k≤2:=by unfold Ch;split<;>(try split)<;>omega
  omega
 have hbl:=Ab hb
 obtain⟨R,hR⟩ : ∃R,R=(Xp.mk k v f t n xs).valE s oth q:=⟨_,rfl⟩
 rw [←hR]
 rw [Xp.valE] at hR
 have hbE : ∀l:List Bx,(B++l)[b]?=some (.cells (mC s oth lv mb sum)):=fun l=>Ai hb l
 have gz : ∀(l:List Bx),(B++l)[B.length]?=l[0]?:=fun l=>by rw [List.getElem?_append_right (by omega)];congr 1;omega
 have g1 : ∀(l:List Bx) (j:Nat),(B++l)[B.length+j]?=l[j]?:=fun l j=>by rw [List.getElem?_append_right (by omega)];congr 1;omega
 have s1 : ∀(l:List Bx) (j:Nat) (w:Bx),(B++l).set (B.length+j) w=B++l.set j w:=fun l j w=>by rw [List.set_append_right _ _ (by omega)];congr 2;omega
 have hle : ∀(l l':List Bx) n m,B.length≤n→(Aa n m (B++l) (B++l')↔Aa n m l l'):=fun l l' n m h=>Aa.appU (hU n m h)
 have hdrop : ∀(l:List Bx) m,Aa B.length m (B++l) B:=fun l m=>Aa.ext l (hU _ m (Nat.le_refl _))
 have hnv : ∀j m,okN (B.length+j) m nv=true:=fun j m=>hn.ok (by omega)
 have hval:=fun (x:Xp) (hx:x∈xs) (l:List Bx) (hl : ∀n m,Aa n m l l)=>ih x hx (hpm x hx) (him x hx) (B++l) (fun n m h=>(hle l l n m (by simp at h;omega)).2 (hl n m)) b lv mb sum (hbE l) nv (hn.app l)
 obtain⟨r1,r2⟩:=R
 rw [show (Xp.mk k v f t n xs).v=.agg [vI k,vI v,vI f,vI t,vS n,.t (.sl (xs.map Xp.c))] from by show V.agg _=_;rw [Xp.c_mk];rfl]
 unfold vO
 (refine FnS.of_code mix Tryz.call30 k_30 (by simp) (fun hB=>?_);(try simp at hB);(try simp -implicitDefEqProofs))
 (try simp -implicitDefEqProofs [gz,g1,s1])
 refine Ac (X:=VS) (fun X=>X.i≤xs.length∧X.vs.length=X.i∧(Xp.valEs s oth q (xs.drop X.i)).map (X.vs ++ ·)=Xp.valEs s oth q xs)
  (fun X=>[(0,.ptr b 0),(2,nv),(4,.ptr B.length 0),(8,.ptr (B.length+1) 0),(14,.t (.sl (xs.map Xp.c))),(15,vI xs.length),(16,vI X.i)])
  (fun X=>⟨B++[.cells [vI k,vI v,vI f,vI t,vS n,.t (.sl (xs.map Xp.c))],.cells [vI (X.vs.getD 0 0),vI (X.vs.getD 1 0)]],[]⟩) (fun X=>xs.length-X.i) ⟨0,[]⟩ ⟨by simp,rfl,by simp⟩ ?hs ?_
 case hs=>
  simp [hle,E.leB,A4,okNs,okN,hnv]
  omega
 rintro ⟨i,vs⟩ ⟨hi2,hvl,hvs⟩ hbd
 simp only [] at hi2 hvl hvs
 clear hbd
 have e3:IntKind.i64.wrap ((i:Int)+1)=(i:Int)+1:=wrap64 (by omega) (by omega)
 rcases Nat.lt_or_ge i xs.length with h|h
 ·obtain⟨a,ha⟩:=Ad h
  have ham:a∈xs:=List.mem_of_getElem? ha
  have hdr:xs.drop i=a::xs.drop (i+1):=by
   obtain⟨h1,h2⟩:=List.getElem?_eq_some_iff.1 ha
   rw [List.drop_eq_getElem_cons h1,h2]
  rw [hdr,Xp.valEs] at hvs
  have hxc:(xs.map Xp.c)[i]?=some a.c:=by simp [ha]
  have hxc' : ∀h,(xs.map Xp.c)[i]'h=a.c:=fun h=>by rw [List.getElem?_eq_getElem h] at hxc;exact Option.some.inj hxc
  have hcall:=hval a ham [.cells [vI k,vI v,vI f,vI t,vS n,.t (.sl (xs.map Xp.c))],.cells [vI (vs.getD 0 0),vI (vs.getD 1 0)],.cells (a.c.map .t)] (fun n m=>⟨⟨A4 _,rfl⟩,⟨A4 _,rfl⟩,⟨A4 _,Dq _ _ _⟩,trivial⟩)
  obtain⟨w,hw⟩ : ∃w,w=a.valE s oth q:=⟨_,rfl⟩
  rw [←hw] at hcall hvs
  obtain⟨w1,w2⟩:=w
  simp only [] at hvs
  unfold vO at hcall
  obtain⟨ak,av,af,at',an,axs⟩:=a
  rw [Xp.c_mk] at hxc hcall
  simp only [Xp.c_mk] at hxc'
  rw [show (Xp.mk ak av af at' an axs).v=.agg [vI ak,vI av,vI af,vI at',vS an,.t (.sl (axs.map Xp.c))] from by show V.agg _=_;rw [Xp.c_mk];rfl] at hcall
  simp only [List.map_cons,List.map_nil] at hcall
  cases w2
  ·rw [if_neg (by decide)] at hvs
   rw [←hvs] at hR
   simp only [Option.map_none,Prod.mk.injEq] at hR
   obtain⟨rfl,rfl⟩:=hR
   (try simp -implicitDefEqProofs [h,hxc,hxc',gz,g1,s1])
   refine A8 hcall ?_
   (try simp -implicitDefEqProofs [gz,g1,s1,hdrop])
  ·rw [if_pos rfl,Option.map_map] at hvs
   have hvs2:(Xp.valEs s oth q (xs.drop (i+1))).map ((vs++[w1]) ++ ·)=Xp.valEs s oth q xs:=by
    rw [←hvs]
    congr 1
    funext l
    simp
   rcases (by omega:i=0∨i=1) with i0|i0
   ·subst i0
    have h0i:(0:Int)<xs.length:=by omega
    have hv0:vs=[]:=List.eq_nil_of_length_eq_zero hvl
    subst hv0
    (try simp -implicitDefEqProofs [h,h0i,hxc,hxc',gz,g1,s1])
    refine A8 hcall ?_
    (try simp -implicitDefEqProofs [gz,g1,s1,hle,E.leB,A4,okNs,okN,hnv])
    refine⟨⟨1,[w1]⟩,⟨h,rfl,hvs2⟩,by simp only [];omega,?_⟩
    simp [hle,E.leB,A4,okNs,okN,hnv]
    omega
   ·subst i0
    have h0i:(1:Int)<xs.length:=by omega
    obtain⟨u,rfl⟩:=List.length_eq_one_iff.1 hvl
    (try simp -implicitDefEqProofs [h,h0i,hxc,hxc',gz,g1,s1])
    refine A8 hcall ?_
    (try simp -implicitDefEqProofs [gz,g1,s1,hle,E.leB,A4,okNs,okN,hnv])
    refine⟨⟨2,[u,w1]⟩,⟨h,rfl,hvs2⟩,by simp only [];omega,?_⟩
    simp [hle,E.leB,A4,okNs,okN,hnv]
    omega
 ·have hii:i=xs.length:=by omega
  subst hii
  rw [List.drop_of_length_le (Nat.le_refl _),Xp.valEs] at hvs
  simp only [Option.map_some,List.append_nil] at hvs
  rw [←hvs] at hR
  simp only [] at hR
  obtain⟨Bx2,hBx2⟩ : ∃Bx2:List Bx,Bx2=[.cells [vI k,vI v,vI f,vI t,vS n,.t (.sl (xs.map Xp.c))],.cells [vI (vs.getD 0 0),vI (vs.getD 1 0)]]:=⟨_,rfl⟩
  have hU2:OkU (B++Bx2):=fun n m h=>(hle _ _ n m (by simp at h;omega)).2 (by rw [hBx2];exact⟨⟨A4 _,rfl⟩,⟨A4 _,rfl⟩,trivial⟩)
  have hread:=fun f t p=>Ot b f t p ⟨B++Bx2,[]⟩ hU2.S s oth lv mb sum hs (hbE _)
  have hshare:=fun n=>V0 b n ⟨B++Bx2,[]⟩ hU2.S s oth lv mb sum hs (hbE _)
  rw [hBx2] at hread hshare
  have hbE2:=hbE
  unfold mC at hbE2
  have d : ∀j:Int,k≠j→(k==j)=false:=fun j h=>by simpa using h
  by_cases q1:k=1
  ·subst q1
   simp only [G0,if_true,Prod.mk.injEq] at hR
   obtain⟨rfl,rfl⟩:=hR
   (try simp -implicitDefEqProofs [gz,g1,s1,hdrop])
  by_cases q2:k=2
  ·subst q2
   simp only [G0,show ¬(2:Int)=1 by decide,if_true,if_false,Prod.mk.injEq] at hR
   obtain⟨rfl,rfl⟩:=hR
   rcases hn with ⟨rfl,hz⟩|⟨nb,L,rfl,hL,hz⟩
   ·rw [hz]
    (try simp -implicitDefEqProofs [gz,g1,s1,hdrop,O2])
   ·rw [hz]
    have hLE : ∀l:List Bx,(B++l)[nb]?=some (.mp (mS vI L)):=fun l=>Ai hL l
    have hfm:=Fp vI n L
    cases hag:B7 L n with
    | none=>rw [hag] at hfm;(try simp -implicitDefEqProofs [gz,g1,s1,hdrop,O2,hLE,hfm])
    | some z=>rw [hag] at hfm;(try simp -implicitDefEqProofs [gz,g1,s1,hdrop,O2,hLE,hfm])
  by_cases q21:k=21
  ·subst q21
   simp only [G0,show ¬(21:Int)=1 by decide,show ¬(21:Int)=2 by decide,if_true,if_false,Prod.mk.injEq] at hR
   have hr:=hread f t (-1)
   rw [show decide ((-1:Int)<0)=true from rfl,show B0 s.items f t true (-1)=B0 s.items f t true 0 by unfold B0;simp] at hr
   obtain⟨rfl,rfl⟩:=hR
   (try simp -implicitDefEqProofs [gz,g1,s1])
   refine A8 hr ?_
   (try simp -implicitDefEqProofs [hdrop])
  by_cases q22:k=22
  ·subst q22
   simp only [G0,show ¬(22:Int)=1 by decide,show ¬(22:Int)=2 by decide,show ¬(22:Int)=21 by decide,if_true,if_false,Prod.mk.injEq] at hR
   have hoth:=hpo (f4 rfl)
   have hr:=hread f t oth
   have hrA:=fun (l:List Bx)=>FnS.ofOk (S:=⟨(B++[.cells [vI 22,vI v,vI f,vI t,vS n,.t (.sl (xs.map Xp.c))],.cells [vI (vs.getD 0 0),vI (vs.getD 1 0)]])++l,[]⟩) Tryz.call71 (fun hok=>Ot b f t oth _ hok s oth lv mb sum hs (Ai (hbE _) l))
   rw [show decide (oth<0)=false by simp;exact hoth] at hr hrA
   obtain⟨rfl,rfl⟩:=hR
   (try simp -implicitDefEqProofs [gz,g1,s1,hbE2])
   refine Lr hr (fun _=>⟨rfl,fun l=>hrA l⟩) ?_
   (try simp -implicitDefEqProofs [hdrop])
  by_cases q5:k=5
  ·subst q5
   simp only [G0,show ¬(5:Int)=1 by decide,show ¬(5:Int)=2 by decide,show ¬(5:Int)=21 by decide,show ¬(5:Int)=22 by decide,if_true,if_false] at hR
   have hr:=hshare (vs.getD 0 0)
   rw [←hR] at hr
   (try simp -implicitDefEqProofs [gz,g1,s1])
   refine A8 hr ?_
   (try simp -implicitDefEqProofs [hdrop])
  simp only [G0,q1,q2,q21,q22,q5,if_false] at hR
  have hop:=Qv (F4 k) v (vs.getD 0 0) (vs.getD 1 0)
  rw [←hR] at hop
  unfold vO at hop
  have hol:=A2x k1 k2 q1 q2 q5 q21 q22
  have hol1:(U4.map vI)[k.toNat]?=some (vI (F4 k)):=by rw [List.getElem?_map,hol];rfl
  have hol2 : ∀h,(U4.map vI)[k.toNat]'h=vI (F4 k):=fun h=>by rw [List.getElem?_eq_getElem h] at hol1;exact Option.some.inj hol1
  have holl:(U4.map vI).length=23:=rfl
  have heo:=A5t
  generalize U4.map vI=OL at *
  have k0:0≤k:=by omega
  have k23:k<23:=by omega
  have k24:k.toNat+1≤23:=by omega
  have k25:k.toNat<23:=by omega
  ((try simp at heo hop);(try simp -implicitDefEqProofs [gz,g1,s1,d 1 q1,d 2 q2,d 21 q21,d 22 q22,d 5 q5,hol1,hol2,holl,k0,k23,k24,k25]);repeat' first|(with_reducible apply A0<;>first|(simp only [eras,era,A1];first|with_reducible assumption)|(simp -implicitDefEqProofs [gz,g1,s1,d 1 q1,d 2 q2,d 21 q21,d 22 q22,d 5 q5,hol1,hol2,holl,k0,k23,k24,k25])))
  exact hdrop _ _
end Go.Proofs.YtmlpmdccfmmpoaaGreatDoor
