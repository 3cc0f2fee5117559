/- Readings of the arguments of the laws of chapter 35. -/
import Derived.Test.YtmlpmdccfmmpoaaGreatLea
import Derived.Test.YtmlpmdccfmmpoaaGreatRowU
set_option linter.unusedSimpArgs false
set_option linter.unusedVariables false
set_option maxRecDepth 8000
namespace Go.Proofs.YtmlpmdccfmmpoaaGreat
open Go.ChangeShapes Go.WideShapes Go.ChangeAt Go.RowKit E
def inI (x:Int):Prop:=-9223372036854775808≤x∧x≤9223372036854775807
def inS (s:List UInt8):Prop:=s.length≤9223372036854775807
theorem Ja {n:Nat} {ts:List T} (h:Sh Tryz.prog n 3 ts) : ∃x,ts=[.int .i64 x]∧inI x:=by
 cases n with
 | zero=>exact h.elim
 | succ n=>
  simp only [Sh,Tryz.underlying3] at h
  obtain⟨x,rfl,hw⟩:=h
  refine⟨x,rfl,?_⟩
  simp [Lit.wf,IntKind.min,IntKind.max,IntKind.signed,IntKind.bits] at hw
  simp [inI];omega
theorem Zf {n:Nat} {ts:List T} (h:Sh Tryz.prog n 9 ts) : ∃s,ts=[.str s]∧inS s:=by
 cases n with
 | zero=>exact h.elim
 | succ n=>
  simp only [Sh,Tryz.underlying9] at h
  obtain⟨s,rfl,hw⟩:=h
  exact⟨s,rfl,by simpa [inS,maxLen] using hw⟩
theorem Yq {n:Nat} {ts:List T} (h:Sh Tryz.prog n 4 ts) : ∃b,ts=[.bool b]:=by
 cases n with
 | zero=>exact h.elim
 | succ n=>
  simp only [Sh,Tryz.underlying4] at h
  exact h
theorem Yr {α:Type} {n:Nat} {t e:TypeId} {ts:List T} (hu:Tryz.prog.underlying t=some (.slice e)) (c:α→List T) (wf:α→Prop) (he : ∀n ts,Sh Tryz.prog n e ts→∃x,ts=c x∧wf x) (hk:Tryz.prog.cellsOf t=1) (h:Sh Tryz.prog n t (ts.take (Tryz.prog.cellsOf t))) : ∃l:List α,ts.take 1=[.sl (l.map c)]∧∀x∈l,wf x:=by
 rw [hk] at h
 cases n with
 | zero=>exact h.elim
 | succ n=>
  simp only [Sh,hu] at h
  obtain⟨es,hts,hes⟩:=h
  rw [hts]
  clear hts
  suffices hs : ∃l:List α,es=l.map c∧∀x∈l,wf x by obtain⟨l,rfl,hl⟩:=hs;exact⟨l,rfl,hl⟩
  induction es with
  | nil=>exact⟨[],rfl,by simp⟩
  | cons r es ih=>
   obtain⟨x,rfl,hx⟩:=he n r (hes r (by simp))
   obtain⟨l,rfl,hl⟩:=ih (fun r hr=>hes r (by simp [hr]))
   exact⟨x::l,rfl,by simp;exact⟨hx,hl⟩⟩
theorem Xe {n:Nat} {ts:List T} (h:Sh Tryz.prog n 102 ts) : ∃x:Ins,ts=x.c∧True:=by
 cases n with
 | zero=>exact h.elim
 | succ n=>
  have hc:Tryz.prog.cellsOf 102=3:=by kernel_rfl
  simp only [Sh,Tryz.underlying102,hc,List.forall_mem_cons,List.not_mem_nil,false_imp_iff,implies_true,and_true] at h
  obtain⟨hl,h0,h1,h2⟩:=h
  obtain⟨c0,c1,c2,rfl⟩ : ∃c0 c1 c2,ts=[c0,c1,c2]:=by
   match ts,hl with
   | [c0,c1,c2],_=>exact⟨_,_,_,rfl⟩
  rw [show Tryz.prog.cellsOf 3=1 by kernel_rfl] at h0 h1 h2
  obtain⟨x0,e0,w0⟩:=Ja h0
  obtain⟨x1,e1,w1⟩:=Ja h1
  obtain⟨x2,e2,w2⟩:=Ja h2
  refine⟨⟨x0,x1,x2⟩,?_,trivial⟩
  simp at e0 e1 e2
  simp [*]
theorem Vc {n:Nat} {ts:List T} (h:Sh Tryz.prog n 48 ts) : ∃x:Code,ts=x.c:=by
 cases n with
 | zero=>exact h.elim
 | succ n=>
  have hc:Tryz.prog.cellsOf 48=3:=by kernel_rfl
  simp only [Sh,Tryz.underlying48,hc,List.forall_mem_cons,List.not_mem_nil,false_imp_iff,implies_true,and_true] at h
  obtain⟨hl,h0,h1,h2⟩:=h
  obtain⟨c0,c1,c2,rfl⟩ : ∃c0 c1 c2,ts=[c0,c1,c2]:=by
   match ts,hl with
   | [c0,c1,c2],_=>exact⟨_,_,_,rfl⟩
  rw [show Tryz.prog.cellsOf 9=1 by kernel_rfl] at h0
  rw [show Tryz.prog.cellsOf 4=1 by kernel_rfl] at h1
  obtain⟨x0,e0,w0⟩:=Zf h0
  obtain⟨x1,e1⟩:=Yq h1
  obtain⟨x2,e2,w2⟩:=Yr (by kernel_rfl) Ins.c (fun _=>True) (fun n ts h=>Xe h) (by kernel_rfl) h2
  refine⟨⟨x0,x1,x2⟩,?_⟩
  simp at e0 e1 e2
  simp [*]
theorem Xf {n:Nat} {ts:List T} (h:Sh Tryz.prog n 60 ts) : ∃x y,ts=[.int .i64 x,.int .i64 y]:=by
 cases n with
 | zero=>exact h.elim
 | succ n=>
  have hc:Tryz.prog.cellsOf 60=2:=by kernel_rfl
  simp only [Sh,Tryz.underlying60,hc,List.forall_mem_cons,List.not_mem_nil,false_imp_iff,implies_true,and_true] at h
  obtain⟨hl,h0,h1⟩:=h
  obtain⟨c0,c1,rfl⟩ : ∃c0 c1,ts=[c0,c1]:=by
   match ts,hl with
   | [c0,c1],_=>exact⟨_,_,rfl⟩
  rw [show Tryz.prog.cellsOf 3=1 by kernel_rfl] at h0 h1
  obtain⟨x0,e0,w0⟩:=Ja h0
  obtain⟨x1,e1,w1⟩:=Ja h1
  refine⟨x0,x1,?_⟩
  simp at e0 e1
  simp [*]
theorem Vd {n:Nat} {ts:List T} (h:Sh Tryz.prog n 62 ts) : ∃x:Item,ts=x.c∧True:=by
 cases n with
 | zero=>exact h.elim
 | succ n=>
  have hc:Tryz.prog.cellsOf 62=7:=by kernel_rfl
  simp only [Sh,Tryz.underlying62,hc,List.forall_mem_cons,List.not_mem_nil,false_imp_iff,implies_true,and_true] at h
  obtain⟨hl,h0,h1,h2,h3,h4,h5⟩:=h
  obtain⟨c0,c1,c2,c3,c4,c5,c6,rfl⟩ : ∃c0 c1 c2 c3 c4 c5 c6,ts=[c0,c1,c2,c3,c4,c5,c6]:=by
   match ts,hl with
   | [c0,c1,c2,c3,c4,c5,c6],_=>exact⟨_,_,_,_,_,_,_,rfl⟩
  rw [show Tryz.prog.cellsOf 60=2 by kernel_rfl] at h0
  obtain⟨x0,y0,e0⟩:=Xf h0
  rw [show Tryz.prog.cellsOf 3=1 by kernel_rfl] at h1
  obtain⟨x1,e1,w1⟩:=Ja h1
  rw [show Tryz.prog.cellsOf 3=1 by kernel_rfl] at h2
  obtain⟨x2,e2,w2⟩:=Ja h2
  rw [show Tryz.prog.cellsOf 3=1 by kernel_rfl] at h3
  obtain⟨x3,e3,w3⟩:=Ja h3
  rw [show Tryz.prog.cellsOf 3=1 by kernel_rfl] at h4
  obtain⟨x4,e4,w4⟩:=Ja h4
  rw [show Tryz.prog.cellsOf 3=1 by kernel_rfl] at h5
  obtain⟨x5,e5,w5⟩:=Ja h5
  refine⟨⟨x0,y0,x1,x2,x3,x4,x5⟩,?_,trivial⟩
  simp at e0 e1 e2 e3 e4 e5
  simp [*]
theorem Xg {n:Nat} {ts:List T} (h:Sh Tryz.prog n 78 ts) : ∃x:Int,ts=[.int .i16 x]∧-32768≤x∧x≤32767:=by
 cases n with
 | zero=>exact h.elim
 | succ n=>
  simp only [Sh,Tryz.underlying78] at h
  obtain⟨x,rfl,hw⟩:=h
  refine⟨x,rfl,?_⟩
  simp [Lit.wf,IntKind.min,IntKind.max,IntKind.signed,IntKind.bits] at hw
  omega
theorem Xh {n:Nat} {ts:List T} (h:Sh Tryz.prog n 80 ts) : ∃x:Sou,ts=x.c∧x.wf:=by
 cases n with
 | zero=>exact h.elim
 | succ n=>
  have hc:Tryz.prog.cellsOf 80=4:=by kernel_rfl
  simp only [Sh,Tryz.underlying80,hc,List.forall_mem_cons,List.not_mem_nil,false_imp_iff,implies_true,and_true] at h
  obtain⟨hl,h0,h1,h2,h3⟩:=h
  obtain⟨c0,c1,c2,c3,rfl⟩ : ∃c0 c1 c2 c3,ts=[c0,c1,c2,c3]:=by
   match ts,hl with
   | [c0,c1,c2,c3],_=>exact⟨_,_,_,_,rfl⟩
  rw [show Tryz.prog.cellsOf 3=1 by kernel_rfl] at h0
  rw [show Tryz.prog.cellsOf 4=1 by kernel_rfl] at h1
  rw [show Tryz.prog.cellsOf 78=1 by kernel_rfl] at h2
  obtain⟨x0,e0,w0⟩:=Ja h0
  obtain⟨x1,e1⟩:=Yq h1
  obtain⟨x2,e2,w2⟩:=Xg h2
  obtain⟨x3,e3,w3⟩:=Yr (by kernel_rfl) Item.c (fun _=>True) (fun n ts h=>Vd h) (by kernel_rfl) h3
  refine⟨⟨x0,x1,x2,x3⟩,?_,w2⟩
  simp at e0 e1 e2 e3
  simp [*,Sou.c]
theorem Pc {t:TypeId} {ts:List T} {x:T} (h:isAgg Tryz.prog t=false) (hx:ts=[x]):Oh Tryz.prog t ts=.t x:=by
 rw [Oh,h,hx];rfl
theorem Tr {α:Type} {n:Nat} {t e:TypeId} {ts:List T} (hu:Tryz.prog.underlying t=some (.slice e)) (c:α→List T) (wf:α→Prop) (he : ∀n ts,Sh Tryz.prog n e ts→∃x,ts=c x∧wf x) (h:Sh Tryz.prog n t ts) : ∃l:List α,ts=[.sl (l.map c)]∧∀x∈l,wf x:=by
 cases n with
 | zero=>exact h.elim
 | succ n=>
  simp only [Sh,hu] at h
  obtain⟨es,hts,hes⟩:=h
  rw [hts]
  clear hts
  suffices hs : ∃l:List α,es=l.map c∧∀x∈l,wf x by obtain⟨l,rfl,hl⟩:=hs;exact⟨l,rfl,hl⟩
  induction es with
  | nil=>exact⟨[],rfl,by simp⟩
  | cons r es ih=>
   obtain⟨x,rfl,hx⟩:=he n r (hes r (by simp))
   obtain⟨l,rfl,hl⟩:=ih (fun r hr=>hes r (by simp [hr]))
   exact⟨x::l,rfl,by simp;exact⟨hx,hl⟩⟩
theorem R7 {ts:List T} (h : ∃n,Sh Tryz.prog n 22 ts) : ∃l:List Code,Oh Tryz.prog 22 ts=Code.l l:=by
 obtain⟨n,h⟩:=h
 obtain⟨l,e,_⟩:=Tr (by kernel_rfl) Code.c (fun _=>True) (fun n ts h=>by obtain⟨x,e⟩:=Vc h;exact⟨x,e,trivial⟩) h
 exact⟨l,Pc (by kernel_rfl) e⟩
theorem Ts {ts:List T} (h : ∃n,Sh Tryz.prog n 23 ts) : ∃l:List Sou,Oh Tryz.prog 23 ts=Sou.l l∧∀x∈l,x.wf:=by
 obtain⟨n,h⟩:=h
 obtain⟨l,e,w⟩:=Tr (by kernel_rfl) Sou.c Sou.wf (fun n ts h=>Xh h) h
 exact⟨l,Pc (by kernel_rfl) e,w⟩
def Pd:List TypeId:=[22,48,46,102,23,80,51,62,60,65,50,3,78,5,9,4]
theorem Oi:okC Tryz.prog Pd=true:=by kernel_rfl
end Go.Proofs.YtmlpmdccfmmpoaaGreat
