/- Chapter 35's reference: Codes, Interpret. -/
import Derived.Test.YtmlpmdccfmmpoaaGreatDoorLba
import Derived.Test.YtmlpmdccfmmpoaaGreatDoorCodeM
import Derived.Test.YtmlpmdccfmmpoaaGreatDoorExM
import Derived.Test.YtmlpmdccfmmpoaaGreatDoorExC
import Derived.Test.YtmlpmdccfmmpoaaGreatDoorRfi
import Derived.Test.YtmlpmdccfmmpoaaGreatDoorSyf
set_option linter.unusedVariables false
set_option linter.unusedSimpArgs false
set_option maxHeartbeats 4000000
set_option maxRecDepth 8000
section
set_option linter.unusedVariables false
namespace Go.Proofs.YtmlpmdccfmmpoaaGreatDoor
namespace E
def A83 (rvs:List RV) (nb nt:Nat) (r:V) (S':St) (e:Ex) (a:Fr) (S1:St):Prop:=
 (match e with | .ex _=>False | .pn _=>False|_=>True)∧(nb≤S'.boxes.length∧nt≤S'.toks.length)∧
 match Q7 a S1 rvs with
 | some vs=>leS S1 S'∧leV (K7 vs) r∧okN S'.boxes.length S'.toks.length r=true
 | none=>False
attribute [simp] A83
end E
end Go.Proofs.YtmlpmdccfmmpoaaGreatDoor
set_option linter.unusedSimpArgs false
set_option linter.unusedVariables false
namespace Go.Proofs.YtmlpmdccfmmpoaaGreatDoor
open E
structure Alike (a b:Src):Prop where
 ent:a.ent=b.ent
 full:a.full=b.full
 num:a.num=b.num
 den:a.den=b.den
 rd : ∀f t any p,B0 a.items f t any p=B0 b.items f t any p
end Go.Proofs.YtmlpmdccfmmpoaaGreatDoor
set_option linter.unusedSimpArgs false
set_option linter.unusedVariables false
set_option maxHeartbeats 4000000
set_option maxRecDepth 8000
namespace Go.Proofs.YtmlpmdccfmmpoaaGreatDoor
open E

theorem A0k (l:List Posting) (hl : ∀p∈l,p.parts.length≤1000000):A7 Tryz.prog 17 [Posting.l l,Posting.l l] (vB true):=by
 (refine A7.of_code mix Tryz.call17 k_17 (by simp) (fun hB=>?_);(try simp at hB);(try simp -implicitDefEqProofs))
 simp only [maxLen] at hB
 refine Ac (X:=Nat) (fun k=>k≤l.length) (fun k=>[(0,Posting.l l),(1,Posting.l l),(5,vI k)]) (fun _=>⟨[],[]⟩) (fun k=>l.length-k) 0 (by omega) (by simp) ?_
 rintro k hk hbd
 clear hbd
 rcases Nat.lt_or_ge k l.length with h|h
 ·obtain⟨p,hp⟩:=Ad h
  have e3:IntKind.i64.wrap ((k:Int)+1)=(k:Int)+1:=wrap64 (by omega) (by omega)
  have hpc:(l.map Posting.c)[k]?=some p.c:=by simp [hp]
  have hpc' : ∀h,(l.map Posting.c)[k]'h=p.c:=fun h=>by rw [List.getElem?_eq_getElem h] at hpc;exact Option.some.inj hpc
  have hpl:=hl p (List.mem_of_getElem? hp)
  obtain⟨kd,en,ot,ru,ps⟩:=p
  simp only [] at hpl
  have hfin : ∃z':Nat,z'≤l.length∧l.length-z'<l.length-k∧(z':Int)=(k:Int)+1:=⟨k+1,by omega,by omega,by push_cast;rfl⟩
  (try simp -implicitDefEqProofs [h,hpc,hpc',Posting.c])
  refine Ac (X:=Nat) (fun j=>j≤ps.length) (fun j=>[(0,Posting.l l),(1,Posting.l l),(5,vI k),(6,vI j)]) (fun _=>⟨[],[]⟩) (fun j=>ps.length-j) 0 (by omega) (by simp) ?_
  rintro j hj hbd
  clear hbd
  rcases Nat.lt_or_ge j ps.length with h2|h2
  ·obtain⟨x,hx⟩:=Ad h2
   have e4:IntKind.i64.wrap ((j:Int)+1)=(j:Int)+1:=wrap64 (by omega) (by omega)
   have hxc:(ps.map Part.c)[j]?=some x.c:=by simp [hx]
   have hxc' : ∀h,(ps.map Part.c)[j]'h=x.c:=fun h=>by rw [List.getElem?_eq_getElem h] at hxc;exact Option.some.inj hxc
   obtain⟨ac,am⟩:=x
   have hfin2 : ∃z':Nat,z'≤ps.length∧ps.length-z'<ps.length-j∧(z':Int)=(j:Int)+1:=⟨j+1,by omega,by omega,by push_cast;rfl⟩
   (try simp -implicitDefEqProofs [h,hpc,hpc',Posting.c,h2,hxc,hxc',Part.c,e4])
   exact hfin2
  ·have:j=ps.length:=by omega
   subst this
   (try simp -implicitDefEqProofs [h,hpc,hpc',Posting.c,e3])
   exact hfin
 ·have:k=l.length:=by omega
  subst this
  (try simp -implicitDefEqProofs)
end Go.Proofs.YtmlpmdccfmmpoaaGreatDoor
set_option linter.unusedSimpArgs false
set_option linter.unusedVariables false
set_option maxHeartbeats 4000000
set_option maxRecDepth 8000
namespace Go.Proofs.YtmlpmdccfmmpoaaGreatDoor
open E

theorem Aa.dead {n m:Nat} : ∀(D:List Bx),Aa n m D (List.replicate D.length .dead)
 | []=>trivial
 | x::D=>⟨trivial,Aa.dead D⟩
theorem Aa.append {n m:Nat} : ∀{A A' l l':List Bx},Aa n m A A'→Aa n m l l'→A.length=A'.length→Aa n m (A++l) (A'++l')
 | [],[],_,_,_,h,_=>h
 | a::A,b::B,l,l',h,h2,hl=>⟨h.1,Aa.append h.2 h2 (by simpa using hl)⟩
end Go.Proofs.YtmlpmdccfmmpoaaGreatDoor
set_option linter.unusedSimpArgs false
set_option linter.unusedVariables false
set_option maxHeartbeats 4000000
set_option maxRecDepth 8000
namespace Go.Proofs.YtmlpmdccfmmpoaaGreatDoor
open E

end Go.Proofs.YtmlpmdccfmmpoaaGreatDoor
end
namespace Go.Proofs.YtmlpmdccfmmpoaaGreatDoor
open E
def SvQ (B:List Bx) (sv:V) (st:List Int) (kb:Nat):Prop:=(sv=.snil∧st=[])∨(sv=.bw kb st.length∧∃cs,B[kb]?=some (.buf 3 1 cs)∧cs.take st.length=st.reverse.map vI)
def LvQ (B:List Bx) (lv:V) (loc:List Int) (lb:Nat):Prop:=(lv=.snil∧loc=[])∨(lv=.bw lb loc.length∧B[lb]?=some (.buf 3 1 (loc.map vI)))
theorem LvQ.okU {B:List Bx} {lv:V} {loc:List Int} {lb:Nat} (h:LvQ B lv loc lb) (n m:Nat) (hn:B.length≤n):okN n m lv=true:=by
 rcases h with ⟨rfl,_⟩|⟨rfl,h⟩
 ·rfl
 ·have:=Ab h;simp [okN];omega
structure QL (B B':List Bx) (b kb:Nat) (s:Src) (oth:Int) (sv lv pv:V) (l:List Int):Prop where
 U:OkU B'
 len:B.length<B'.length
 hb:B'[b]?=some (.cells (qC s oth (.bw (B'.length-1) l.length) lv pv))
 hk:B'[B'.length-1]?=some (.buf 3 1 (l.reverse.map vI))
 get : ∀j,j<B.length→j≠b→(∀n,sv=.bw kb n→j≠kb)→B'[j]?=B[j]?
end Go.Proofs.YtmlpmdccfmmpoaaGreatDoor
section
set_option linter.unusedSimpArgs false
set_option linter.unusedVariables false
set_option maxHeartbeats 4000000
set_option maxRecDepth 8000
namespace Go.Proofs.YtmlpmdccfmmpoaaGreatDoor
open E

def PvQ (B:List Bx) (pv:V) (ps:List Part) (pb:Nat):Prop:=(pv=.snil∧ps=[])∨(pv=.bw pb ps.length∧B[pb]?=some (.buf 77 2 ((ps.flatMap Part.c).map .t)))
theorem PvQ.okU {B:List Bx} {pv:V} {ps:List Part} {pb:Nat} (h:PvQ B pv ps pb) (n m:Nat) (hn:B.length≤n):okN n m pv=true:=by
 rcases h with ⟨rfl,_⟩|⟨rfl,h⟩
 ·rfl
 ·have:=Ab h;simp [okN];omega
theorem SvQ.okU {B:List Bx} {sv:V} {st:List Int} {kb:Nat} (h:SvQ B sv st kb) (n m:Nat) (hn:B.length≤n):okN n m sv=true:=by
 rcases h with ⟨rfl,_⟩|⟨rfl,cs,h,_⟩
 ·rfl
 ·have:=Ab h;simp [okN];omega
structure QB (C0 C1 C2:List V) (s:Src) (oth:Int) (st loc:List Int) (ps:List Part) (sv lv pv:V) (kb lb pb:Nat) (B:List Bx):Prop where
 U:OkU B
 b0:B[0]?=some (.cells C0)
 b1:B[1]?=some (.cells C1)
 b2:B[2]?=some (.cells C2)
 b3:B[3]?=some (.cells (qC s oth sv lv pv))
 fs:SvQ B sv st kb
 fl:LvQ B lv loc lb
 fp:PvQ B pv ps pb
 ne:sv≠V.snil→lv≠V.snil→kb≠lb
section
variable {C0 C1 C2:List V} {s:Src} {oth:Int} {st loc:List Int} {ps:List Part} {sv lv pv:V} {kb lb pb:Nat} {B:List Bx}
theorem QB.far (h:QB C0 C1 C2 s oth st loc ps sv lv pv kb lb pb B) {j z:Nat} {e:TypeId} {cs:List V} (hj:B[j]?=some (.buf e z cs)):4≤j:=by
 rcases Nat.lt_or_ge j 4 with h4|h4
 ·rcases (by omega:j=0∨j=1∨j=2∨j=3) with rfl|rfl|rfl|rfl
  ·rw [h.b0] at hj;cases hj
  ·rw [h.b1] at hj;cases hj
  ·rw [h.b2] at hj;cases hj
  ·rw [h.b3] at hj;cases hj
 ·exact h4
theorem QB.x (h:QB C0 C1 C2 s oth st loc ps sv lv pv kb lb pb B) {l:List V} (hl : ∀n m,E.leB n m (.cells l) (.cells l)):QB C0 C1 C2 s oth st loc ps sv lv pv kb lb pb (B++[.cells l]):=by
 refine⟨fun n m hn=>(Aa.appU (h.U n m (by simp at hn;omega))).2 ⟨hl _ _,trivial⟩,Ai h.b0 _,Ai h.b1 _,Ai h.b2 _,Ai h.b3 _,?_,?_,?_,h.ne⟩
 ·rcases h.fs with h1|⟨h1,cs,h2,h3⟩
  ·exact .inl h1
  ·exact .inr ⟨h1,cs,Ai h2 _,h3⟩
 ·rcases h.fl with h1|⟨h1,h2⟩
  ·exact .inl h1
  ·exact .inr ⟨h1,Ai h2 _⟩
 ·rcases h.fp with h1|⟨h1,h2⟩
  ·exact .inl h1
  ·exact .inr ⟨h1,Ai h2 _⟩
theorem QB.step {B':List Bx} {l:List Int} (h:QB C0 C1 C2 s oth st loc ps sv lv pv kb lb pb B) (hq:QL B B' 3 kb s oth sv lv pv l):QB C0 C1 C2 s oth l loc ps (.bw (B'.length-1) l.length) lv pv (B'.length-1) lb pb B':=by
 have hkb : ∀n,sv=.bw kb n→4≤kb∧∃cs,B[kb]?=some (.buf 3 1 cs):=fun n e=>by
  rcases h.fs with ⟨h1,_⟩|⟨_,cs,h2,_⟩
  ·rw [h1] at e;cases e
  ·exact⟨h.far h2,cs,h2⟩
 have hg : ∀j,j<3→B'[j]?=B[j]?:=fun j hj=>hq.get j (by have:=Ab h.b3;omega) (by omega) (fun n e=>by have:=(hkb n e).1;omega)
 refine⟨hq.U,by rw [hg 0 (by omega)];exact h.b0,by rw [hg 1 (by omega)];exact h.b1,by rw [hg 2 (by omega)];exact h.b2,hq.hb,.inr ⟨rfl,_,hq.hk,by rw [List.take_of_length_le (by simp)]⟩,?_,?_,?_⟩
 ·rcases h.fl with h1|⟨h1,h2⟩
  ·exact .inl h1
  ·refine .inr ⟨h1,?_⟩
   have:=h.far h2
   rw [hq.get lb (Ab h2) (by omega) (fun n e=>fun hh=>h.ne (by rw [e];simp) (by rw [h1];simp) hh.symm)]
   exact h2
 ·rcases h.fp with h1|⟨h1,h2⟩
  ·exact .inl h1
  ·refine .inr ⟨h1,?_⟩
   have:=h.far h2
   rw [hq.get pb (Ab h2) (by omega) (fun n e=>fun hh=>by
    obtain⟨_,cs,h3⟩:=hkb n e
    rw [←hh,h2] at h3;cases h3)]
   exact h2
 ·intro _ hn
  rcases h.fl with ⟨h1,_⟩|⟨h1,h2⟩
  ·exact absurd h1 hn
  ·have:=Ab h2
   have:=hq.len
   omega
theorem QB.w_pop {v:Int} (h:QB C0 C1 C2 s oth (v::st) loc ps sv lv pv kb lb pb B) (hst:st.length≤8000):FnS Tryz.prog 36 [.ptr 3 0] ⟨B,[]⟩ (vI v) ⟨B.set 3 (.cells (qC s oth (.bw kb st.length) lv pv)),[]⟩:=by
 obtain⟨rfl,cs,hk,hct⟩:sv=.bw kb (st.length+1)∧∃cs,B[kb]?=some (.buf 3 1 cs)∧cs.take (st.length+1)=(v::st).reverse.map vI:=by
  rcases h.fs with ⟨_,h2⟩|h2
  ·cases h2
  ·exact h2
 refine A5s 3 kb st.length B (fun m=>h.U _ m (Nat.le_refl _)) s oth lv pv cs v h.b3 hk ?_ (by omega) (h.fl.okU _ _ (Nat.le_refl _)) (h.fp.okU _ _ (Nat.le_refl _))
 have:=congrArg (fun l:List V=>l[st.length]?) hct
 simp only [List.getElem?_take] at this
 rw [if_pos (by omega)] at this
 rw [this];simp
end
end Go.Proofs.YtmlpmdccfmmpoaaGreatDoor
end
namespace Go.Proofs.YtmlpmdccfmmpoaaGreatDoor
open E
structure QR where
 k:Nat
 st:List Int
 loc:List Int
 ps:List Part
 all:Int
 sv:V
 lv:V
 pv:V
 kb:Nat
 lb:Nat
 pb:Nat
 B:List Bx
structure QR.Ok (c:Code) (s:Src) (oth:Int) (R:Option (List Part)) (C0 C1 C2:List V) (X:QR):Prop where
 k:X.k≤c.ins.length
 mea : ∃sz,Bu c X.k=some (sz,(X.st.length:Int),(X.loc.length:Int))
 ex:X.k<c.ins.length→Am s oth (c.ins.drop X.k) X.st X.loc X.ps=R∧(∀p∈X.ps,Aj p.amt=true)∧X.all=(X.ps.map Part.amt).sum
 fin:X.k=c.ins.length→De X.ps=R
 alo : ∀v∈X.loc,Aj v=true
 ast : ∀v∈X.st,Aj v=true
 aps:SM X.ps
 acc : ∀p∈X.ps,0≤p.acc∧p.acc≤1000000
 lps:X.ps.length≤X.k
 qb:QB C0 C1 C2 s oth X.st X.loc X.ps X.sv X.lv X.pv X.kb X.lb X.pb X.B
theorem QR.next {c:Code} {s:Src} {oth:Int} {R:Option (List Part)} {C0 C1 C2:List V} {n k:Nat} {z:QR} (hz:z.Ok c s oth R C0 C1 C2) (hk:z.k=k+1) (hkn:k<n) (e3:IntKind.i64.wrap ((k:Int)+1)=(k:Int)+1) {A:Int} (ha:z.all=A) :
  ∃z',QR.Ok c s oth R C0 C1 C2 z'∧n-z'.k<n-k∧Aa z'.B.length 0 z.B z'.B∧0<z'.B.length∧1<z'.B.length∧2<z'.B.length∧3<z'.B.length∧z'.all=A∧(z'.k:Int)=IntKind.i64.wrap ((k:Int)+1):=by
 have h3:=Ab hz.qb.b3
 exact⟨z,hz,by omega,hz.qb.U _ _ (Nat.le_refl _),by omega,by omega,by omega,h3,ha,by rw [e3,hk];push_cast;rfl⟩
structure KS where
 n:Nat
 o:List Posting
structure KS.Ok (R:List Posting×Int) (rest:Nat→List (Option Posting)) (N M z:Nat) (X:KS):Prop where
 n:X.n≤N
 g:Bc X.o (rest X.n)=R
 len:X.o.length≤M+X.n*z
theorem Gu {p:List Rul} (h:Jt p=true) : ∀r∈p,D7 r=true:=by
 unfold Jt Kn at h
 simp only [Bool.and_eq_true,List.all_eq_true] at h
 exact h.1.1.1
theorem Rr {r:Rul} (h:D7 r=true):r.stmts.length≤30:=by
 unfold D7 at h
 simp only [Bool.and_eq_true,decide_eq_true_eq] at h
 exact h.1.1.2
theorem Mg {r:Rul} (hb:D7 r=true) (hf:G6 r=true):(Bo (B5 r)).2=true:=
 Rn (known:=fun _=>true) hb (by unfold G6 at hf;rw [decide_eq_true_eq] at hf;unfold Fy;rw [hf];rfl)
theorem Nw {p:List Rul} (h:Mx p=true) {r:Rul} (hr:r∈p) (h3:r.stmts.length≤30):(B5 r).ins.length≤8000:=by
 obtain⟨_,_,f3⟩:=L3 h
 have h2:=Va (f3 r hr)
 rw [Xj];omega
end Go.Proofs.YtmlpmdccfmmpoaaGreatDoor
