/- Chapter 32: the program's own program of a reference program. -/
import Derived.Test.YtmlpmdccfmmpoaaGreatDoorCps
import Derived.Test.YtmlpmdccfmmpoaaGreatDoorExM
import Derived.Test.YtmlpmdccfmmpoaaGreatDoorSyc
import Derived.Test.YtmlpmdccfmmpoaaGreatDoorCodeB
set_option linter.unusedSimpArgs false
set_option linter.unusedVariables false
set_option maxHeartbeats 4000000
set_option maxRecDepth 8000
namespace Go.Proofs.YtmlpmdccfmmpoaaGreatDoor
open E
def Fi (s:Src) (oth:Int) (q:List UInt8→Int) (k v f t:Int) (n:List UInt8) (vs:List Int):Int×Bool:=
 if k=1 then (v,true) else if k=2 then (q n,true)
 else if k=21 then (Az s.items f t true 0,Ah (Az s.items f t true 0))
 else if k=22 then (Az s.items f t false oth,Ah (Az s.items f t false oth))
 else if k=5 then El (vs.getD 0 0) s else opC (Eb k) v (vs.getD 0 0) (vs.getD 1 0)
namespace Xp
mutual
def valE (s:Src) (oth:Int) (q:List UInt8→Int):Xp→Int×Bool
 | .mk k v f t n xs=>match valEs s oth q xs with
  | some vs=>Fi s oth q k v f t n vs
  | none=>(0,false)
def valEs (s:Src) (oth:Int) (q:List UInt8→Int):List Xp→Option (List Int)
 | []=>some []
 | x::xs=>if (valE s oth q x).2=true then (valEs s oth q xs).map ((valE s oth q x).1 :: ·) else none
end
theorem valEs_len {s:Src} {oth:Int} {q:List UInt8→Int} : ∀{xs:List Xp} {vs:List Int},valEs s oth q xs=some vs→vs.length=xs.length
 | [],vs,h=>by cases h;rfl
 | x::xs,vs,h=>by
  rw [valEs] at h
  split at h
  ·cases hx:valEs s oth q xs with
   | none=>rw [hx] at h;cases h
   | some us=>rw [hx] at h;cases h;simp [valEs_len hx]
  ·cases h
end Xp
def Ms (s:Src) (oth:Int) (loc:List Int):List Ins→List Int→Option (List Int)
 | [],st=>some st
 | x::l,st=>if (Cm s oth x st loc).2=true then Ms s oth loc l ((Cm s oth x st loc).1::st.drop (tk x.op).toNat) else none
theorem Mt {s:Src} {oth:Int} {loc:List Int} : ∀{a b:List Ins} {st:List Int},Ms s oth loc (a++b) st=(Ms s oth loc a st).bind (Ms s oth loc b)
 | [],b,st=>rfl
 | x::a,b,st=>by
  simp only [List.cons_append,Ms]
  split
  ·exact Mt
  ·rfl
theorem Vq {k v f t:Int} {n:List UInt8} {len:Nat} (h:J0 k v f t n len=true):1≤k∧k≤22∧(len:Int)=Cb k:=by
 simp only [J0,kdB,Bool.and_eq_true,decide_eq_true_eq,beq_iff_eq] at h
 exact⟨h.1.1.1,h.1.1.2,h.1.2⟩
theorem A7p {k v f t:Int} {n:List UInt8} {len:Nat} (h:J0 k v f t n len=true) (h1:k≠1) (h2:k≠20):v=0:=by
 simp only [J0,Bool.and_eq_true] at h
 have h:=h.2
 unfold fldB at h
 rw [if_neg h1] at h
 by_cases hk:k=2
 ·rw [if_pos hk] at h
  simp only [Bool.and_eq_true,beq_iff_eq] at h;exact h.1.1.2
 rw [if_neg hk,if_neg h2] at h
 by_cases h3:k=21∨k=22
 ·rw [if_pos h3] at h
  simp only [Bool.and_eq_true,beq_iff_eq] at h;exact h.1.2
 ·rw [if_neg h3] at h
  simp only [Bool.and_eq_true,beq_iff_eq] at h;exact h.1.1.1
theorem A0l {s:Src} {oth:Int} {q:List UInt8→Int} {M:List (List UInt8)} {loc st:List Int} {k v f t:Int} {n:List UInt8} {vs:List Int} (h:J0 k v f t n vs.length=true) (hq:k=2→q n=loc.getD (Nd M n).toNat 0) :
  Cm s oth (Ep M k v f t n) (vs.reverse++st) loc=Fi s oth q k v f t n vs∧(vs.reverse++st).drop (tk (Ep M k v f t n).op).toNat=st:=by
 obtain⟨h1,h2,h3⟩:=Vq h
 have hv:=A7p h
 have htk:=(Jz h1 h2).1
 rw [←h3] at htk
 rw [Mr,htk]
 refine⟨?_,by rw [Int.toNat_natCast,List.drop_left' (by simp)]⟩
 by_cases k1:k=1
 ·subst k1;simp [Ep,Cm,Fi]
 by_cases k2:k=2
 ·subst k2;simp only [Ep,Cm,Fi];simp [hq rfl]
 by_cases k20:k=20
 ·subst k20
  have h4:vs.length=1:=by simp [Cb] at h3;omega
  obtain⟨a,rfl⟩:=List.length_eq_one_iff.1 h4
  simp [Ep,Cm,Fi,show tk 9=1 from rfl,Eb]
 by_cases k21:k=21
 ·subst k21;simp [Ep,Cm,Fi]
 by_cases k22:k=22
 ·subst k22;simp [Ep,Cm,Fi]
 have hv0:=hv k1 k20
 have hl:Ep M k v f t n=⟨Eb k,0,0⟩:=by unfold Ep;rw [if_neg k1,if_neg k2,if_neg k20,if_neg k21,if_neg k22]
 rw [hl,hv0]
 by_cases k5:k=5
 ·subst k5
  have h4:vs.length=1:=by simp [Cb] at h3;omega
  obtain⟨a,rfl⟩:=List.length_eq_one_iff.1 h4
  simp [Cm,Fi,Eb]
 have htop:Fi s oth q k 0 f t n vs=opC (Eb k) 0 (vs.getD 0 0) (vs.getD 1 0):=by unfold Fi;rw [if_neg k1,if_neg k2,if_neg k21,if_neg k22,if_neg k5]
 rw [htop]
 rcases (by omega:(k=3∨k=4∨k=6)∨(7≤k∧k≤19)) with hk|hk
 ·have h4:vs.length=1:=by rcases hk with rfl|rfl|rfl<;>(simp [Cb] at h3;omega)
  obtain⟨a,rfl⟩:=List.length_eq_one_iff.1 h4
  rcases hk with rfl|rfl|rfl
  ·simp [Cm,Eb,show tk 5=1 from rfl]
  ·simp [Cm,Eb,show tk 6=1 from rfl]
  ·simp [Cm,Eb,show tk 8=1 from rfl]
 ·have h4:vs.length=2:=by
   have:Cb k=2:=by unfold Cb;rw [if_neg (by omega),if_pos (by omega)]
   omega
  obtain⟨a,b,rfl⟩ : ∃a b,vs=[a,b]:=by
   match vs,h4 with
   | [a,b],_=>exact⟨a,b,rfl⟩
  have ho:Eb k=k+3:=by unfold Eb;simp only [show ¬k=1 by omega,show ¬k=2 by omega,show ¬k=3 by omega,show ¬k=4 by omega,show ¬k=5 by omega,show ¬k=6 by omega,show ¬k=20 by omega,show ¬k=21 by omega,show ¬k=22 by omega,if_false]
  have ht:tk (Eb k)=2:=by rw [htk];rfl
  unfold Cm
  simp only [ho,show ¬k+3=1 by omega,show ¬k+3=2 by omega,show ¬k+3=3 by omega,show ¬k+3=4 by omega,show ¬k+3=7 by omega,if_false]
  rw [←ho,ht]
  simp
namespace Xp
theorem S5 {s:Src} {oth:Int} {q:List UInt8→Int} {M:List (List UInt8)} {loc:List Int} : ∀(xs:List Xp),(∀x∈xs,∀st,Ms s oth loc (x.codeX M) st=if (x.valE s oth q).2=true then some ((x.valE s oth q).1::st) else none)→
  ∀st,Ms s oth loc (codesX M xs) st=(valEs s oth q xs).map fun vs=>vs.reverse++st
 | [],_,st=>rfl
 | x::xs,h,st=>by
  rw [codesX,Mt,h x (by simp),valEs]
  split
  ·rw [Option.bind_some,S5 xs (fun y hy=>h y (by simp [hy]))]
   cases valEs s oth q xs with
   | none=>rfl
   | some vs=>simp
  ·rfl
theorem run_val {s:Src} {oth:Int} {q:List UInt8→Int} {M:List (List UInt8)} {loc:List Int} {pair:Bool} (hq : ∀n∈M,q n=loc.getD (Nd M n).toNat 0) : ∀(x:Xp),x.prop=true→(x.inf (Cs M) pair).2=0→∀st,Ms s oth loc (x.codeX M) st=if (x.valE s oth q).2=true then some ((x.valE s oth q).1::st) else none:=by
 refine Xp.ind fun k v f t n xs ih hp hi st=>?_
 simp only [prop,Bool.and_eq_true] at hp
 have hi':(G8 (Cs M n) pair (infs (Cs M) pair (Jc k) xs).2 (infs (Cs M) pair (Jc k) xs).1 k f t).2=0:=by simpa [inf] using hi
 obtain⟨f1,f2,f3,f4⟩:=K0 hi'
 have hpm:=props_mem hp.2
 have him:=infs_all xs f1
 rw [codeX,Mt,S5 xs (fun x hx st=>ih x hx (hpm x hx) (him x hx) st),valE]
 cases hvs:valEs s oth q xs with
 | none=>simp
 | some vs=>
  have hl:=valEs_len hvs
  have hs:=hp.1
  rw [←hl] at hs
  obtain⟨t1,t2⟩:=A0l (s:=s) (oth:=oth) (q:=q) (M:=M) (loc:=loc) (st:=st) hs (fun h2=>hq n (by simpa [Cs] using f2 h2))
  simp only [Option.map_some,Option.bind_some,Ms]
  rw [t1,t2]
end Xp
theorem A0m (p:List Rul) (hp:p.length≤1000) (hs : ∀r∈p,r.stmts.length≤1000) (hc : ∀r∈p,∀s∈r.stmts,s.ex.cnt≤100000):A8 Tryz.prog 15 [Rul.l p] (Rul.l p):=by
 (refine A8.of_code mix Tryz.call15 k_15 (by simp) (fun hB=>?_);(try simp at hB);(try simp -implicitDefEqProofs))
 refine Bm [(.slot 3,133,4)] (X:=Nat) (fun k=>k≤p.length) (fun k=>[(0,Rul.l p),(3,.own 0 133 4 ((p.take k).map Rul.c)),(4,vI k)])
  (fun k=>⟨[],[k]⟩) (fun k=>p.length-k) 0 (by omega) (by simp) ?_
 rintro k hk hbd
 clear hbd
 rcases Nat.lt_or_ge k p.length with h|h
 ·have hx:p[k]?=some p[k]:=by simp [h]
  have hmem:p[k]∈p:=List.getElem_mem h
  have hsk:=hs _ hmem
  have hck:=hc _ hmem
  have htk:=Ag hx
  have hmin:min k p.length=k:=by omega
  have e3:IntKind.i64.wrap ((k:Int)+1)=(k:Int)+1:=wrap64 (by omega) (by omega)
  obtain⟨nm,pr,ss,to,hr⟩ : ∃nm pr ss to,p[k]=⟨nm,pr,ss,to⟩:=⟨_,_,_,_,rfl⟩
  have hrk:(p.map Rul.c)[k]?=some [.str nm,.bool pr,.sl (ss.map Stm.c),.int .i64 to]:=by simp [h,hr,Rul.c]
  have hcc:p[k].c=[.str nm,.bool pr,.sl (ss.map Stm.c),.int .i64 to]:=by rw [hr];rfl
  rw [hr] at hsk hck htk
  simp only [] at hsk hck
  have hap:(p.map Rul.c).take (k+1)=(p.map Rul.c).take k++[[.str nm,.bool pr,.sl (ss.map Stm.c),.int .i64 to]]:=by rw [Ag hrk]
  ((try simp -implicitDefEqProofs [h,hrk,hcc,e3]);repeat' first|((with_reducible first|apply Ac|apply Ad|apply A5)<;>(intro hc;have hc':=hc;(try simp at hc');simp -implicitDefEqProofs [hc,hc',h,hrk,hcc,e3])))
  refine Bm [(.cell 0 2,139,9)] (X:=Nat) (fun j=>j≤ss.length) (fun j=>[(0,Rul.l p),(3,.own 0 133 4 ((p.take k).map Rul.c)),(4,vI k),(5,.ptr 0 0),(6,vI j)])
   (fun j=>⟨[.cells [vS nm,vB pr,.own 1 139 9 ((ss.take j).map Stm.c),vI to]],[k,j]⟩) (fun j=>ss.length-j) 0 (by omega) (by simp) ?_
  rintro j hj hbd
  clear hbd
  rcases Nat.lt_or_ge j ss.length with g|g
  ·have gx:ss[j]?=some ss[j]:=by simp [g]
   have hcj:=hck _ (List.getElem_mem g)
   have gtk:=Ag gx
   have gmin:min j ss.length=j:=by omega
   have g3:IntKind.i64.wrap ((j:Int)+1)=(j:Int)+1:=wrap64 (by omega) (by omega)
   obtain⟨sk,sa,sn,sx,gr⟩ : ∃sk sa sn sx,ss[j]=⟨sk,sa,sn,sx⟩:=⟨_,_,_,_,rfl⟩
   have gsj:(ss.map Stm.c)[j]?=some (.int .i64 sk::.int .i64 sa::.str sn::sx.c):=by simp [g,gr,Stm.c]
   have gcc:ss[j].c=.int .i64 sk::.int .i64 sa::.str sn::sx.c:=by rw [gr];rfl
   rw [gr] at hcj gtk
   simp only [] at hcj
   have how:=A20 sx hcj
   have hlc:=Du sx
   have htc:=Cw sx
   have gap:(ss.map Stm.c).take (j+1)=(ss.map Stm.c).take j++[.int .i64 sk::.int .i64 sa::.str sn::sx.c]:=by rw [Ag gsj]
   ((try simp at how);(try simp -implicitDefEqProofs [h,hrk,hcc,g,gsj,gcc,g3,hlc,htc,gmin,hmin,maxLen]);repeat' first|((with_reducible first|apply Ac|apply Ad|apply A5)<;>(intro hc;have hc':=hc;(try simp at hc');simp -implicitDefEqProofs [hc,hc',h,hrk,hcc,g,gsj,gcc,g3,hlc,htc,gmin,hmin,maxLen]))|(with_reducible apply A0<;>first|(simp only [eras,era,A1];first|with_reducible assumption)|(simp -implicitDefEqProofs [h,hrk,hcc,g,gsj,gcc,g3,hlc,htc,gmin,hmin,maxLen])))
   exact⟨⟨by omega,by omega⟩,j+1,by omega,by omega,⟨by rw [gap];exact .inl rfl,rfl⟩,by push_cast;rfl⟩
  ·have:j=ss.length:=by omega
   subst this
   have gt:(ss.map Stm.c).take ss.length=ss.map Stm.c:=List.take_of_length_le (by simp)
   ((try simp -implicitDefEqProofs [h,hrk,hcc,g,e3,hmin,maxLen,gt]);repeat' first|((with_reducible first|apply Ac|apply Ad|apply A5)<;>(intro hc;have hc':=hc;(try simp at hc');simp -implicitDefEqProofs [hc,hc',h,hrk,hcc,g,e3,hmin,maxLen,gt])))
   exact⟨⟨by omega,by omega⟩,k+1,by omega,by omega,by omega,by rw [hap];exact .inl (.inl rfl),by push_cast;rfl⟩
 ·have:k=p.length:=by omega
  subst this
  have ht:(p.map Rul.c).take p.length=p.map Rul.c:=List.take_of_length_le (by simp)
  ((try simp -implicitDefEqProofs [ht]);repeat' first|((with_reducible first|apply Ac|apply Ad|apply A5)<;>(intro hc;have hc':=hc;(try simp at hc');simp -implicitDefEqProofs [hc,hc',ht])))
end Go.Proofs.YtmlpmdccfmmpoaaGreatDoor
