/- The engine, part 15: regions that draw their order: one walk in the order of the text serves every order. -/
import Derived.Test.YtmlpmdccfmmpoaaGreatDoorEc
import Derived.Deep.LoopGhost
import Derived.Scope
section
set_option linter.unusedSimpArgs false
set_option linter.unusedVariables false
namespace Go.Proofs.YtmlpmdccfmmpoaaGreatDoor
namespace E
section
variable {P:Program}

def cls:EK→Nat
 | .load .. | .lkp .. | .lenM=>1
 | .call _ | .callv | .pan=>2
 | .box | .alloc _ | .allocT .. | .store _ | .mkmap | .mup .. | .mks .. | .appB .. | .bslB .. | .rngS | .nxtS | .clr _ | .cpy=>3
 | .app ..=>4
 | .appS ..=>4
 | _=>0

def tb (c:Nat):Bool:=c != 0
def tt (c:Nat):Bool:=c==2||c==4
def wb (c:Nat):Bool:=c==3
def wt (c:Nat):Bool:=c==4

def looks (e:EO):List Nat:=
 (e.xs.filterMap fun | .tmp t=>some t | .c _=>none)++(match e.g with|some (t,_)=>[t]|none=>[])

def Fx (x y:EO):Bool:=
 (match x.d with|some d=>!(looks y).contains d&&y.d != some d|none=>true) &&
 (match y.d with|some d=>!(looks x).contains d|none=>true) &&
 !((wb (cls x.k)&&tb (cls y.k))||(wb (cls y.k)&&tb (cls x.k))||(wt (cls x.k)&&tt (cls y.k))||(wt (cls y.k)&&tt (cls x.k)))

def Bc (P:Program) (k:EK) (vs:List V) (S:St) (v:V) (S':St):Prop:=opK P true k vs S fun v' S''=>v'=v∧S''=S'

theorem Hz {k:EK} {vs:List V} {S:St} {K:V→St→Prop} (hk:Af k vs S K) : ∃v S',Af k vs S (fun v' S''=>v'=v∧S''=S')∧K v S':=by
 cases k<;>simp only [Af,Fj,Sp,Ih,Gl,Ht,Sr,Ss,Su,Sv,Pt,Sw,Vy,Vz,W0,unK,Sx,Sy,Sz,Lh,Li,Lj,T1,Lk,Ll,Kt,Ij,K4,K3,K2,mmK,Oj,T2,Ho,Pu,W2,T3,T4,T5,Px,K5,Pv,Pw] at hk ⊢<;>
  (repeat' split at hk)<;>first
   | exact hk.elim
   | exact hk.2.elim
   | exact⟨_,_,⟨rfl,rfl⟩,hk⟩
   | exact⟨_,_,⟨hk.1,rfl,rfl⟩,hk.2⟩
   | exact⟨_,_,⟨hk.1,hk.2.1,hk.2.2.1,rfl,rfl⟩,hk.2.2.2⟩
   | exact⟨_,_,⟨hk.1,hk.2.1,rfl,rfl⟩,hk.2.2⟩
   | (simp_all;done)
   | (refine⟨_,_,?_,hk⟩;simp_all;done)
   | (refine⟨_,_,?_,hk.2⟩;simp_all;done)
   | (refine⟨_,_,?_,hk.2.2⟩;simp_all;done)

theorem Do {f:Nat} {vs:List V} {S:St} {K:V→St→Prop} {R:V→St→Prop} (h:Fl P true f vs S K R) : ∃r S',FnS P f vs S r S'∧(true=true→S'=S∧∀B,FnS P f vs (S.add B) r (S.add B))∧((true=true∨bdV r)→K r S'):=by
 rcases h with h|⟨h,_⟩
 ·exact h
 ·cases h
theorem A1i {k:EK} {vs:List V} {S:St} {K:V→St→Prop} {R:V→St→Prop} (hk:opK P true k vs S K R) : ∃v S',Bc P k vs S v S'∧K v S':=by
 unfold Bc
 cases k with
 | call f=>obtain⟨r,S',h1,h2,h3⟩:=Do hk;exact⟨r,S',.inl ⟨r,S',h1,h2,fun _=>⟨rfl,rfl⟩⟩,h3 (.inl rfl)⟩
 | callv=>
  simp only [opK] at hk ⊢
  split at hk
  ·obtain⟨r,S',h1,h2,h3⟩:=Do hk;exact⟨r,S',.inl ⟨r,S',h1,h2,fun _=>⟨rfl,rfl⟩⟩,h3 (.inl rfl)⟩
  ·exact hk.elim
 | pan=>exact (by cases hk.1)
 | _=>simp only [opK] at hk ⊢;exact Hz hk

theorem Tq {k:EK} {vs:List V} {S:St} {K:V→St→Prop} {R:V→St→Prop} {v:V} {S':St} (h:Bc P k vs S v S') (hk:K v S'):opK P true k vs S K R:=by
 unfold Bc at h
 cases k with
 | call f=>obtain⟨r,S2,h1,h2,h3⟩:=Do h;obtain⟨rfl,rfl⟩:=h3 (.inl rfl);exact .inl ⟨_,_,h1,h2,fun _=>hk⟩
 | callv=>
  simp only [opK] at h ⊢
  split at h
  ·obtain⟨r,S2,h1,h2,h3⟩:=Do h;obtain⟨rfl,rfl⟩:=h3 (.inl rfl);exact .inl ⟨_,_,h1,h2,fun _=>hk⟩
  ·exact h.elim
 | pan=>exact (by cases h.1)
 | _=>simp only [opK] at h ⊢;exact F1 (fun x S1 hx=>by obtain⟨rfl,rfl⟩:=hx;exact hk) h

theorem F4 {k:EK} (hc:cls k=0) (vs:List V) (S S2:St) (K:V→St→Prop):Af k vs S K=Af k vs S2 (fun v _=>K v S):=by
 cases k with
 | load=>cases hc
 | call=>cases hc
 | callv=>cases hc
 | box=>cases hc
 | alloc=>cases hc
 | allocT=>cases hc
 | store=>cases hc
 | clr=>cases hc
 | cpy=>cases hc
 | app=>cases hc
 | appS=>cases hc
 | mkmap=>cases hc
 | lkp=>cases hc
 | mup=>cases hc
 | lenM=>cases hc
 | mks=>cases hc
 | appB=>cases hc
 | bslB=>cases hc
 | pan=>cases hc
 | rngS=>cases hc
 | nxtS=>cases hc
 | mki t=>simp only [Af];unfold T3;split<;>rfl
 | tas t z=>simp only [Af];unfold T4;split<;>first|rfl|(split<;>rfl)
 | eqn neg=>simp only [Af];unfold T5;split<;>rfl
 | mm=>simp only [Af];unfold mmK;split<;>rfl
 | pick=>simp only [Af];unfold Fj;split<;>rfl
 | bsl=>simp only [Af];unfold Kt;split<;>rfl
 | build=>simp only [Af]
 | faddr=>simp only [Af];unfold Ht;split<;>rfl
 | fld=>simp only [Af];unfold Sr;split<;>rfl
 | iaS=>simp only [Af];unfold Ss;split<;>first|rfl|(split<;>rfl)
 | iaA=>simp only [Af];unfold Su;split<;>rfl
 | ixA=>simp only [Af];unfold Sv;split<;>rfl
 | ixS=>simp only [Af];unfold Pt;split<;>rfl
 | bin op=>simp only [Af];unfold Sw;split<;>first|rfl|(unfold Vy;cases op<;>rfl)|(unfold Vz;cases op<;>rfl)
 | eqv=>simp only [Af];unfold W0;split<;>first|rfl|(split<;>rfl)
 | un op=>simp only [Af];unfold unK;split<;>rfl
 | cvI=>simp only [Af];unfold Sx;split<;>rfl
 | cvS=>simp only [Af];unfold Sy;split<;>rfl
 | ext=>simp only [Af];unfold Sz;split<;>rfl
 | nilc=>simp only [Af];unfold Lh;split<;>rfl
 | lenS=>simp only [Af];unfold Li;split<;>rfl
 | lenL=>simp only [Af];unfold Lj;split<;>first|rfl|(split<;>rfl)
 | slA=>simp only [Af]
 | slS=>simp only [Af]
 | slL=>simp only [Af];unfold W2;split<;>first|rfl|(split<;>rfl)
 | _=>rfl

theorem Np {k:EK} (hc:cls k=0) {vs:List V} {S:St} {K:V→St→Prop} : opK P true k vs S K=Af k vs S K:=by
 cases k<;>first|rfl|(simp [cls] at hc;done)

structure Local (P:Program) (k:EK) (vs:List V) (S:St) (v:V) (S':St):Prop where
 keepB:wb (cls k)=false→S'.boxes=S.boxes
 keepT:wt (cls k)=false→S'.toks=S.toks
 look : ∀S2:St,(tb (cls k)=true→S2.boxes=S.boxes)→(tt (cls k)=true→S2.toks=S.toks)→
  Bc P k vs S2 v ⟨if wb (cls k) then S'.boxes else S2.boxes,if wt (cls k) then S'.toks else S2.toks⟩

theorem St.eq_of {A B:St} (h1:A.boxes=B.boxes) (h2:A.toks=B.toks):A=B:=by cases A;cases B;simp_all

theorem Wu {k:EK} {vs:List V} {S:St} {v:V} {S':St} (h:Bc P k vs S v S'):Local P k vs S v S':=by
 by_cases h0:cls k=0
 ·have h1:=h
  unfold Bc at h1
  rw [Np h0,F4 h0 vs S S] at h1
  obtain⟨_,_,_,_,h2⟩:=Hz h1
  subst h2
  refine⟨fun _=>rfl,fun _=>rfl,fun S2 _ _=>?_⟩
  simp only [h0,wb,wt]
  show Bc P k vs S2 v S2
  unfold Bc
  rw [Np h0,F4 h0 vs S2 S]
  exact F1 (fun x _ hx=>⟨hx.1,rfl⟩) h1
 ·have hcall:S'=S→tb (cls k)=true→tt (cls k)=true→Local P k vs S v S':=by
   intro he htb htt
   subst he
   refine⟨fun _=>rfl,fun _=>rfl,fun S2 e1 e2=>?_⟩
   have:S2=S':=St.eq_of (e1 htb) (e2 htt)
   subst this
   have:(⟨if wb (cls k) then S2.boxes else S2.boxes,if wt (cls k) then S2.toks else S2.toks⟩:St)=S2:=by cases S2;simp
   rw [this]
   exact h
  cases k with
  | call f=>
   refine hcall ?_ rfl rfl
   obtain⟨r,S2,h1,h2,h3⟩:=Do h
   obtain⟨rfl,rfl⟩:=h3 (.inl rfl)
   exact (h2 rfl).1
  | pan=>exact (by cases h.1)
  | rngS=>
   have hT:S'.toks=S.toks:=by
    unfold Bc at h
    simp only [opK,Af] at h
    unfold Px at h
    split at h
    ·rw [←h.2]
    ·exact h.elim
   refine⟨fun h=>by simp [wb,cls] at h,fun _=>hT,fun S2 e1 _=>?_⟩
   have e2:=e1 rfl
   unfold Bc at h ⊢
   simp only [opK,Af,Px] at h ⊢
   rw [e2]
   split at h
   ·exact⟨h.1,St.eq_of (by rw [←h.2];simp [wb,cls]) (by simp [wt,cls])⟩
   ·exact h.elim
  | nxtS=>
   have hT:S'.toks=S.toks:=by
    unfold Bc at h
    simp only [opK,Af] at h
    unfold K5 at h
    repeat' split at h
    all_goals first|exact h.elim|exact h.2.elim|rw [←h.2.2]
   refine⟨fun h=>by simp [wb,cls] at h,fun _=>hT,fun S2 e1 _=>?_⟩
   have e2:=e1 rfl
   unfold Bc at h ⊢
   simp only [opK,Af,K5] at h ⊢
   rw [e2]
   split at h
   ·split at h
    ·refine⟨h.1,?_⟩
     have h:=h.2
     split at h
     ·rename_i hp
      rw [if_pos hp]
      exact⟨h.1,St.eq_of (by rw [←h.2];simp [wb,cls]) (by simp [wt,cls])⟩
     ·rename_i hp
      rw [if_neg hp]
      exact⟨h.1,St.eq_of (by rw [←h.2];simp [wb,cls,e2]) (by simp [wt,cls])⟩
    ·exact h.elim
   ·exact h.elim
  | callv=>
   refine hcall ?_ rfl rfl
   unfold Bc at h
   simp only [opK] at h
   split at h
   ·obtain⟨r,S2,h1,h2,h3⟩:=Do h;obtain⟨rfl,rfl⟩:=h3 (.inl rfl);exact (h2 rfl).1
   ·exact h.elim
  | load n a=>
   have hS:S'=S:=by
    unfold Bc at h
    simp only [opK,Af] at h
    unfold Ih at h
    repeat' split at h
    all_goals first|exact h.elim|exact h.2.2.symm
   subst hS
   refine⟨fun _=>rfl,fun _=>rfl,fun S2 e1 _=>?_⟩
   have e2:=e1 rfl
   show Bc P _ vs S2 v S2
   unfold Bc at h ⊢
   simp only [opK,Af,Ih] at h ⊢
   rw [e2]
   split at h
   ·split at h
    ·exact⟨h.1,h.2.1,by first|rfl|trivial⟩
    ·exact h.elim
   ·exact⟨h.1,h.2.1,by first|rfl|trivial⟩
   ·exact h.elim
  | box=>
   unfold Bc at h
   simp only [opK,Af,Sp] at h
   obtain⟨h1,h2,h3⟩:=h
   subst h3
   refine⟨fun h=>by simp [wb,cls] at h,fun _=>rfl,fun S2 e1 _=>?_⟩
   have e2:=e1 rfl
   unfold Bc
   simp only [opK,Af,Sp]
   exact⟨h1,by rw [e2];exact h2,St.eq_of (by simp [wb,cls,e2]) (by simp [wt,cls])⟩
  | alloc z=>
   unfold Bc at h
   simp only [opK,Af] at h
   obtain⟨h2,h3⟩:=h
   subst h3
   refine⟨fun h=>by simp [wb,cls] at h,fun _=>rfl,fun S2 e1 _=>?_⟩
   have e2:=e1 rfl
   unfold Bc
   simp only [opK,Af]
   exact⟨by rw [e2];exact h2,St.eq_of (by simp [wb,cls,e2]) (by simp [wt,cls])⟩
  | allocT e z=>
   unfold Bc at h
   simp only [opK,Af] at h
   obtain⟨h2,h3⟩:=h
   subst h3
   refine⟨fun h=>by simp [wb,cls] at h,fun _=>rfl,fun S2 e1 _=>?_⟩
   have e2:=e1 rfl
   unfold Bc
   simp only [opK,Af]
   exact⟨by rw [e2];exact h2,St.eq_of (by simp [wb,cls,e2]) (by simp [wt,cls])⟩
  | store n=>
   unfold Bc at h
   simp only [opK,Af,Gl] at h
   split at h
   ·rename_i b o hb
    split at h
    ·rename_i cs hcs
     obtain⟨h1,h2,h3⟩:=h
     subst h3
     refine⟨fun h=>by simp [wb,cls] at h,fun _=>rfl,fun S2 e1 _=>?_⟩
     have e2:=e1 rfl
     unfold Bc
     simp only [opK,Af,Gl,hb,e2,hcs]
     exact⟨h1,h2,St.eq_of (by simp [wb,cls]) (by simp [wt,cls])⟩
    ·exact h.elim
   ·exact h.elim
  | clr z=>
   have hT:S'.toks=S.toks:=by
    unfold Bc at h
    simp only [opK,Af] at h
    unfold Pv at h
    repeat' split at h
    all_goals first|exact h.elim|(obtain⟨_,_,h3⟩:=h;rw [←h3])|(obtain⟨_,h3⟩:=h;rw [←h3])
   refine⟨fun h=>by simp [wb,cls] at h,fun _=>hT,fun S2 e1 _=>?_⟩
   have e2:=e1 rfl
   unfold Bc at h ⊢
   simp only [opK,Af,Pv] at h ⊢
   rw [e2]
   repeat' split at h
   all_goals first|exact h.elim|(obtain⟨h1,h2,h3⟩:=h;subst h3;exact⟨h1,h2,St.eq_of (by simp [wb,cls]) (by simp [wt,cls])⟩)|(obtain⟨h2,h3⟩:=h;subst h3;exact⟨h2,St.eq_of (by simp [wb,cls,e2]) (by simp [wt,cls])⟩)
  | cpy=>
   have hT:S'.toks=S.toks:=by
    unfold Bc at h
    simp only [opK,Af] at h
    unfold Pw at h
    split at h
    ·exact h.elim
    ·have h:=h.2
     repeat' split at h
     all_goals first|exact h.elim|(obtain⟨_,_,h3⟩:=h;rw [←h3])
   refine⟨fun h=>by simp [wb,cls] at h,fun _=>hT,fun S2 e1 _=>?_⟩
   have e2:=e1 rfl
   unfold Bc at h ⊢
   simp only [opK,Af,Pw] at h ⊢
   have e3:Ks 1 (vs.getD 1 .und) S2=Ks 1 (vs.getD 1 .und) S:=by
    unfold Ks;rw [e2]
   rw [e3,e2]
   split at h
   ·exact h.elim
   ·refine⟨h.1,?_⟩
    have h:=h.2
    repeat' split at h
    all_goals first|exact h.elim|(obtain⟨h1,h2,h3⟩:=h;subst h3;exact⟨h1,h2,St.eq_of (by simp [wb,cls]) (by simp [wt,cls])⟩)
  | lkp ka ks a ok z=>
   have hS:S'=S:=by
    unfold Bc at h
    simp only [opK,Af] at h
    unfold Oj at h
    repeat' split at h
    all_goals first|exact h.2.elim|exact h.2.2.elim|exact h.2.2.2.symm
   subst hS
   refine⟨fun _=>rfl,fun _=>rfl,fun S2 e1 _=>?_⟩
   have e2:=e1 rfl
   show Bc P _ vs S2 v S2
   unfold Bc at h ⊢
   simp only [opK,Af,Oj] at h ⊢
   rw [e2]
   repeat' split at h
   all_goals first|exact h.2.elim|exact h.2.2.elim|exact⟨h.1,h.2.1,h.2.2.1,by first|rfl|trivial⟩
  | lenM=>
   have hS:S'=S:=by
    unfold Bc at h
    simp only [opK,Af] at h
    unfold Ho at h
    repeat' split at h
    all_goals first|exact h.elim|exact h.2.symm
   subst hS
   refine⟨fun _=>rfl,fun _=>rfl,fun S2 e1 _=>?_⟩
   have e2:=e1 rfl
   show Bc P _ vs S2 v S2
   unfold Bc at h ⊢
   simp only [opK,Af,Ho] at h ⊢
   rw [e2]
   repeat' split at h
   all_goals first|exact h.elim|exact⟨h.1,by first|rfl|trivial⟩
  | mkmap=>
   unfold Bc at h
   simp only [opK,Af] at h
   obtain⟨h2,h3⟩:=h
   subst h3
   refine⟨fun h=>by simp [wb,cls] at h,fun _=>rfl,fun S2 e1 _=>?_⟩
   have e2:=e1 rfl
   unfold Bc
   simp only [opK,Af]
   exact⟨by rw [e2];exact h2,St.eq_of (by simp [wb,cls,e2]) (by simp [wt,cls])⟩
  | mup ka ks=>
   have hT:S'.toks=S.toks:=by
    unfold Bc at h
    simp only [opK,Af] at h
    unfold T2 at h
    repeat' split at h
    all_goals first|exact h.2.elim|exact h.2.2.elim|(rw [←h.2.2.2.2])
   refine⟨fun h=>by simp [wb,cls] at h,fun _=>hT,fun S2 e1 _=>?_⟩
   have e2:=e1 rfl
   unfold Bc at h ⊢
   simp only [opK,Af,T2] at h ⊢
   rw [e2]
   repeat' split at h
   all_goals first|exact h.2.elim|exact h.2.2.elim|exact⟨h.1,h.2.1,h.2.2.1,h.2.2.2.1,St.eq_of (by rw [←h.2.2.2.2];simp [wb,cls]) (by simp [wt,cls])⟩
  | mks e sz bytes z=>
   have hT:S'.toks=S.toks:=by
    unfold Bc at h
    simp only [opK,Af] at h
    unfold Pu at h
    split at h
    ·rw [←h.2.2]
    ·exact h.elim
   refine⟨fun h=>by simp [wb,cls] at h,fun _=>hT,fun S2 e1 _=>?_⟩
   have e2:=e1 rfl
   unfold Bc at h ⊢
   simp only [opK,Af,Pu] at h ⊢
   rw [e2]
   split at h
   ·refine⟨h.1,h.2.1,St.eq_of ?_ ?_⟩
    ·rw [←h.2.2];simp [wb,cls]
    ·simp [wt,cls]
   ·exact h.elim
  | bslB e sz=>
   have hT:S'.toks=S.toks:=by
    unfold Bc at h
    simp only [opK,Af] at h
    unfold Ij at h
    split at h
    ·rw [←h.2.2]
    ·rw [←h.2.2]
   refine⟨fun h=>by simp [wb,cls] at h,fun _=>hT,fun S2 e1 _=>?_⟩
   have e2:=e1 rfl
   unfold Bc at h ⊢
   simp only [opK,Af,Ij] at h ⊢
   rw [e2]
   split at h
   ·refine⟨h.1,h.2.1,St.eq_of ?_ ?_⟩
    ·rw [←h.2.2];simp [wb,cls,e2]
    ·simp [wt,cls]
   ·refine⟨h.1,h.2.1,St.eq_of ?_ ?_⟩
    ·rw [←h.2.2];simp [wb,cls]
    ·simp [wt,cls]
  | appB e sz bytes=>
   have hT:S'.toks=S.toks:=by
    unfold Bc at h
    simp only [opK,Af] at h
    unfold K4 at h
    split at h
    ·unfold K3 at h
     split at h
     ·split at h
      ·have h:=h.2
       unfold K2 at h
       repeat' split at h
       all_goals first|exact h.elim|rw [←h.2.2]
      ·exact h.elim
     ·exact h.elim
    ·have h:=h.2
     repeat' split at h
     all_goals first|exact h.elim|rw [←h.2.2]
   refine⟨fun h=>by simp [wb,cls] at h,fun _=>hT,fun S2 e1 _=>?_⟩
   have e2:=e1 rfl
   unfold Bc at h ⊢
   simp only [opK,Af,K4] at h ⊢
   have e3:Ks sz (vs.getD 1 .und) S2=Ks sz (vs.getD 1 .und) S:=by
    unfold Ks;rw [e2]
   rw [e3,e2]
   split at h
   ·unfold K3 at h ⊢
    rw [e2]
    split at h
    ·split at h
     ·refine⟨h.1,?_⟩
      have h:=h.2
      unfold K2 at h ⊢
      rw [e2]
      repeat' split at h
      all_goals first|exact h.elim|exact⟨h.1,h.2.1,St.eq_of (by rw [←h.2.2];simp [wb,cls]) (by simp [wt,cls])⟩
     ·exact h.elim
    ·exact h.elim
   ·refine⟨h.1,?_⟩
    have h:=h.2
    repeat' split at h
    all_goals first|exact h.elim|exact⟨h.1,h.2.1,St.eq_of (by rw [←h.2.2];simp [wb,cls]) (by simp [wt,cls])⟩
  | app e sz bytes=>
   have hB:S'.boxes=S.boxes:=by
    unfold Bc at h
    simp only [opK,Af] at h
    unfold T1 at h
    split at h
    ·exact h.elim
    ·unfold Lk at h
     have h:=h.2
     split at h
     ·rw [←h.2.2]
     ·split at h
      ·rw [←h.2]
      ·rw [←h.2.2]
     ·rw [←h.2.2]
     ·exact h.elim
   refine⟨fun _=>hB,fun h=>by simp [wt,cls] at h,fun S2 e1 e2=>?_⟩
   have:S2=S:=St.eq_of (e1 rfl) (e2 rfl)
   subst this
   have:(⟨if wb (cls (.app e sz bytes)) then S'.boxes else S2.boxes,if wt (cls (.app e sz bytes)) then S'.toks else S2.toks⟩:St)=S':=St.eq_of (by simp [wb,cls,hB]) (by simp [wt,cls])
   rw [this]
   exact h
  | appS e=>
   have hB:S'.boxes=S.boxes:=by
    unfold Bc at h
    simp only [opK,Af] at h
    unfold Ll at h
    split at h
    rotate_left
    ·exact h.elim
    ·unfold Lk at h
     have h:=h.2
     split at h
     ·rw [←h.2.2]
     ·split at h
      ·rw [←h.2]
      ·rw [←h.2.2]
     ·rw [←h.2.2]
     ·exact h.elim
   refine⟨fun _=>hB,fun h=>by simp [wt,cls] at h,fun S2 e1 e2=>?_⟩
   have:S2=S:=St.eq_of (e1 rfl) (e2 rfl)
   subst this
   have:(⟨if wb (cls (.appS e)) then S'.boxes else S2.boxes,if wt (cls (.appS e)) then S'.toks else S2.toks⟩:St)=S':=St.eq_of (by simp [wb,cls,hB]) (by simp [wt,cls])
   rw [this]
   exact h
  | _=>exact absurd rfl h0

def Ku (a:Fr) (g:Option (Nat×Bool)):Option Bool:=
 match g with
 | none=>some true
 | some (t,want)=>match a t with
  | .t (.bool b)=>some (b==want)
  | .und=>some false
  | _=>none

def YE (P:Program) (e:EO) (v:V) (S':St) (a:Fr) (S:St):Prop:=
 (Ku a e.g=some true∧Bc P e.k (e.xs.map (opv a)) S v S')∨(Ku a e.g=some false∧v=.und∧S'=S)

theorem I0 (a:Fr) (g:Option (Nat×Bool)) (X Y:Prop):(Ku a g=some true→(Hx a g X Y↔X))∧(Ku a g=some false→(Hx a g X Y↔Y))∧(Ku a g=none→¬Hx a g X Y):=by
 cases g with
 | none=>simp [Ku,Hx]
 | some gw=>
  obtain⟨t,want⟩:=gw
  unfold Ku Hx
  simp only []
  generalize a t=q
  cases q with
  | t x=>
   cases x with
   | bool b=>cases b<;>cases want<;>simp
   | _=>simp
  | _=>simp

theorem eop1_iff {e:EO} {next:Fr→St→Prop} {a:Fr} {S:St} {R:V→Fr→St→Prop} : eop1 P true e next a S R↔∃v S',YE P e v S' a S∧next (Br a e.d v) S':=by
 have hrun:opK P true e.k (e.xs.map (opv a)) S (fun v S'=>next (Br a e.d v) S') (fun v S'=>R v a S')↔∃v S',Bc P e.k (e.xs.map (opv a)) S v S'∧next (Br a e.d v) S':=
  ⟨fun h=>A1i h,fun ⟨v,S',h1,h2⟩=>Tq h1 h2⟩
 have hskip:next (Br a e.d .und) S↔∃v S',(v=V.und∧S'=S)∧next (Br a e.d v) S':=
  ⟨fun hn=>⟨_,_,⟨rfl,rfl⟩,hn⟩,fun ⟨v,S',⟨h1,h2⟩,hn⟩=>by rw [h1,h2] at hn;exact hn⟩
 obtain⟨case1,case2,case3⟩:=I0 a e.g (opK P true e.k (e.xs.map (opv a)) S (fun v S'=>next (Br a e.d v) S') (fun v S'=>R v a S')) (next (Br a e.d .und) S)
 unfold eop1 YE
 cases hr:Ku a e.g with
 | none=>simp only [reduceCtorEq,false_and,or_self,exists_false,iff_false];exact case3 hr
 | some b=>
  cases b
  ·rw [case2 hr,hskip];simp
  ·rw [case1 hr,hrun];simp

theorem Qe {a:Fr} {d:Option Nat} {u:V} {i:Nat} (h : ∀k,d=some k→i≠k):Br a d u i=a i:=by
 cases d with
 | none=>rfl
 | some k=>simp [Br,upd,h k rfl]

theorem Oq {e:EO} {v:V} {S':St} {a:Fr} {S:St} {d:Option Nat} {u:V} (h : ∀k,d=some k→k∉looks e):YE P e v S' (Br a d u) S↔YE P e v S' a S:=by
 have h1:e.xs.map (opv (Br a d u))=e.xs.map (opv a):=by
  apply List.map_congr_left
  intro x hx
  cases x with
  | c v=>rfl
  | tmp t=>
   refine Qe fun k hk heq=>h k hk ?_
   subst heq
   exact List.mem_append_left _ (List.mem_filterMap.2 ⟨.tmp t,hx,rfl⟩)
 have h2:Ku (Br a d u) e.g=Ku a e.g:=by
  unfold Ku
  cases hg:e.g with
  | none=>rfl
  | some gw=>
   obtain⟨t,want⟩:=gw
   simp only []
   rw [Qe fun k hk heq=>h k hk (by subst heq;exact List.mem_append_right _ (by simp [hg]))]
 unfold YE
 rw [h1,h2]

theorem Nq {a:Fr} {x y:Option Nat} {u v:V} (h : ∀d,x=some d→y≠some d):Br (Br a x u) y v=Br (Br a y v) x u:=by
 cases x with
 | none=>rfl
 | some d=>
  cases y with
  | none=>rfl
  | some k=>
   have hne:d≠k:=fun e=>h d rfl (by rw [e])
   funext i
   simp only [Br,upd]
   by_cases h1:i=d
   ·subst h1;simp [hne]
   ·simp [h1]

theorem Tr {x y:EO} (h:Fx x y=true):(∀d,x.d=some d→d∉looks y)∧(∀d,x.d=some d→y.d≠some d)∧(∀d,y.d=some d→d∉looks x)∧
  (wb (cls x.k)=true→tb (cls y.k)=false)∧(wb (cls y.k)=true→tb (cls x.k)=false)∧(wt (cls x.k)=true→tt (cls y.k)=false)∧(wt (cls y.k)=true→tt (cls x.k)=false):=by
 unfold Fx at h
 simp only [Bool.and_eq_true,Bool.not_eq_true',Bool.or_eq_false_iff,Bool.and_eq_false_iff] at h
 obtain⟨⟨h1,h2⟩,⟨⟨h3,h4⟩,h5⟩,h6⟩:=h
 refine⟨fun d hd=>?_,fun d hd=>?_,fun d hd=>?_,fun hc=>?_,fun hc=>?_,fun hc=>?_,fun hc=>?_⟩
 ·rw [hd] at h1;simp at h1;exact h1.1
 ·rw [hd] at h1;simp at h1;exact h1.2
 ·rw [hd] at h2;simpa using h2
 ·rcases h3 with h|h
  ·rw [hc] at h;cases h
  ·exact h
 ·rcases h4 with h|h
  ·rw [hc] at h;cases h
  ·exact h
 ·rcases h5 with h|h
  ·rw [hc] at h;cases h
  ·exact h
 ·rcases h6 with h|h
  ·rw [hc] at h;cases h
  ·exact h

structure LocalE (P:Program) (e:EO) (v:V) (S':St) (a:Fr) (S:St):Prop where
 keepB:wb (cls e.k)=false→S'.boxes=S.boxes
 keepT:wt (cls e.k)=false→S'.toks=S.toks
 look : ∀S2:St,(tb (cls e.k)=true→S2.boxes=S.boxes)→(tt (cls e.k)=true→S2.toks=S.toks)→
  YE P e v ⟨if wb (cls e.k) then S'.boxes else S2.boxes,if wt (cls e.k) then S'.toks else S2.toks⟩ a S2

theorem A3o {c:Nat} (h:wb c=true):tb c=true:=by simp [wb] at h;subst h;rfl
theorem A3p {c:Nat} (h:wt c=true):tt c=true:=by simp [wt] at h;subst h;rfl

theorem YE.local {e:EO} {v:V} {S':St} {a:Fr} {S:St} (h:YE P e v S' a S):LocalE P e v S' a S:=by
 rcases h with ⟨g,h⟩|⟨g,rfl,rfl⟩
 ·obtain⟨h1,h2,h3⟩:=Wu h
  exact⟨h1,h2,fun S2 e1 e2=>.inl ⟨g,h3 S2 e1 e2⟩⟩
 ·refine⟨fun _=>rfl,fun _=>rfl,fun S2 e1 e2=>.inr ⟨g,rfl,St.eq_of ?_ ?_⟩⟩
  ·cases hw:wb (cls e.k)
   ·rfl
   ·exact (e1 (A3o hw)).symm
  ·cases hw:wt (cls e.k)
   ·rfl
   ·exact (e2 (A3p hw)).symm

theorem Qf {ei ej:EO} {vi:V} {Si:St} {a:Fr} {S:St} {K:Fr→St→Prop} (hap:Fx ei ej=true) (hi:YE P ei vi Si a S) {R R':V→Fr→St→Prop} (hj:eop1 P true ej K (Br a ei.d vi) Si R) :
  eop1 P true ej (fun a' S1=>∃Si',YE P ei vi Si' a' S1∧K (Br a' ei.d vi) Si') a S R':=by
 obtain⟨h1,h2,h3,h4,h5,h6,h7⟩:=Tr hap
 obtain⟨u,Sj,hu,hK⟩:=eop1_iff.1 hj
 rw [Oq h1] at hu
 rw [Nq h2] at hK
 have li:=hi.local
 have lj:=hu.local
 have no : ∀{b:Bool},b=false→b=true→False:=fun h k=>by rw [h] at k;cases k
 have kB:tb (cls ej.k)=true→Si.boxes=S.boxes:=fun ht=>li.keepB (by cases hw:wb (cls ei.k);rfl;exact (no (h4 hw) ht).elim)
 have kT:tt (cls ej.k)=true→Si.toks=S.toks:=fun ht=>li.keepT (by cases hw:wt (cls ei.k);rfl;exact (no (h6 hw) ht).elim)
 have hj':=lj.look S (fun h=>(kB h).symm) (fun h=>(kT h).symm)
 refine eop1_iff.2 ⟨u,_,hj',?_⟩
 have hi':=li.look ⟨if wb (cls ej.k) then Sj.boxes else S.boxes,if wt (cls ej.k) then Sj.toks else S.toks⟩
  (fun h=>by cases hw:wb (cls ej.k);simp;exact (no (h5 hw) h).elim) (fun h=>by cases hw:wt (cls ej.k);simp;exact (no (h7 hw) h).elim)
 refine⟨_,(Oq h3).2 hi',?_⟩
 have hfin:(⟨if wb (cls ei.k) then Si.boxes else (if wb (cls ej.k) then Sj.boxes else S.boxes),if wt (cls ei.k) then Si.toks else (if wt (cls ej.k) then Sj.toks else S.toks)⟩:St)=Sj:=by
  refine St.eq_of ?_ ?_
  ·cases wi:wb (cls ei.k)<;>cases wj:wb (cls ej.k)
   ·simp;rw [lj.keepB wj,li.keepB wi]
   ·simp
   ·simp;exact (lj.keepB wj).symm
   ·exact (no (h4 wi) (A3o wj)).elim
  ·cases wi:wt (cls ei.k)<;>cases wj:wt (cls ej.k)
   ·simp;rw [lj.keepT wj,li.keepT wi]
   ·simp
   ·simp;exact (lj.keepT wj).symm
   ·exact (no (h6 wi) (A3p wj)).elim
 rw [hfin]
 exact hK

theorem Yp {k:EK} (hc:cls k=0∨cls k=1∨cls k=2) {vs:List V} {S:St} {v:V} {S':St} (h:Bc P k vs S v S') (B:List Bx):S'=S∧Bc P k vs (S.add B) v (S.add B):=by
 cases k with
 | pan=>exact (by cases h.1)
 | rngS=>simp [cls] at hc
 | nxtS=>simp [cls] at hc
 | call f=>
  obtain⟨r,S2,h1,h2,h3⟩:=Do h
  obtain⟨rfl,rfl⟩:=h3 (.inl rfl)
  obtain⟨e1,e2⟩:=h2 rfl
  exact⟨e1,.inl ⟨r,_,e2 B,fun _=>⟨rfl,fun B'=>by have:=e2 (B++B');simpa [St.add] using this⟩,fun _=>⟨rfl,rfl⟩⟩⟩
 | callv=>
  unfold Bc at h ⊢
  simp only [opK] at h ⊢
  split at h
  ·obtain⟨r,S2,h1,h2,h3⟩:=Do h
   obtain⟨rfl,rfl⟩:=h3 (.inl rfl)
   obtain⟨e1,e2⟩:=h2 rfl
   exact⟨e1,.inl ⟨r,_,e2 B,fun _=>⟨rfl,fun B'=>by have:=e2 (B++B');simpa [St.add] using this⟩,fun _=>⟨rfl,rfl⟩⟩⟩
  ·exact h.elim
 | load n a=>
  unfold Bc at h ⊢
  simp only [opK,Af] at h ⊢
  unfold Ih at h ⊢
  split at h
  ·rename_i b o hv
   simp only [hv]
   split at h
   ·rename_i cs hcs
    obtain⟨h1,rfl,rfl⟩:=h
    have hb:b<S.boxes.length:=by
     rcases Nat.lt_or_ge b S.boxes.length with h|h
     ·exact h
     ·simp [List.getElem?_eq_none h] at hcs
    have h3:(S.add B).boxes[b]?.bind B5=some cs:=by simp only [St.add,List.getElem?_append_left hb,hcs]
    simp only [h3]
    refine⟨trivial,?_⟩
    simp [h1]
   ·exact h.elim
  ·rename_i e o hv
   simp only [hv]
   obtain⟨h1,rfl,rfl⟩:=h
   exact⟨rfl,h1,rfl,trivial⟩
  ·exact h.elim
 | lkp ka ks a ok z=>
  unfold Bc at h ⊢
  simp only [opK,Af] at h ⊢
  have hS:S'=S:=by
   unfold Oj at h
   repeat' split at h
   all_goals first|exact h.2.elim|exact h.2.2.elim|exact h.2.2.2.symm
  refine⟨hS,?_⟩
  subst hS
  unfold Oj at h ⊢
  refine⟨h.1,?_⟩
  have h:=h.2
  split at h
  ·exact h.elim
  ·rename_i kt hkt
   refine⟨h.1,?_⟩
   have h:=h.2
   split at h
   ·exact⟨h.1,rfl⟩
   ·rename_i b hb
    split at h
    ·rename_i es hes
     have hbl:b<S'.boxes.length:=(List.getElem?_eq_some_iff.1 hes).1
     have h3:(S'.add B).boxes[b]?=some (.mp es):=by simp [St.add,List.getElem?_append_left hbl,hes]
     simp only [h3]
     split at h
     ·exact⟨h.1,trivial⟩
     ·exact h.elim
    ·exact h.elim
   ·exact h.elim
 | lenM=>
  unfold Bc at h ⊢
  simp only [opK,Af] at h ⊢
  have hS:S'=S:=by
   unfold Ho at h
   repeat' split at h
   all_goals first|exact h.elim|exact h.2.symm
  refine⟨hS,?_⟩
  subst hS
  unfold Ho at h ⊢
  split at h
  ·exact⟨h.1,rfl⟩
  ·rename_i b hb
   split at h
   ·rename_i es hes
    have hbl:b<S'.boxes.length:=(List.getElem?_eq_some_iff.1 hes).1
    have h3:(S'.add B).boxes[b]?=some (.mp es):=by simp [St.add,List.getElem?_append_left hbl,hes]
    simp only [h3]
    exact⟨h.1,trivial⟩
   ·exact h.elim
  ·exact h.elim
 | mkmap=>simp [cls] at hc
 | mup=>simp [cls] at hc
 | mks=>simp [cls] at hc
 | appB=>simp [cls] at hc
 | bslB=>simp [cls] at hc
 | box=>simp [cls] at hc
 | alloc z=>simp [cls] at hc
 | allocT e z=>simp [cls] at hc
 | store n=>simp [cls] at hc
 | clr z=>simp [cls] at hc
 | cpy=>simp [cls] at hc
 | app e sz bs=>simp [cls] at hc
 | appS e=>simp [cls] at hc
 | _=>
  unfold Bc at h ⊢
  simp only [opK] at h ⊢
  rw [F4 rfl _ S (S.add B)] at h
  obtain⟨v0,S0,_,hv0,hS0⟩:=Hz h
  refine⟨hS0.symm,?_⟩
  refine Eq.mpr (F4 rfl vs (S.add B) (S.add B) (fun v' S''=>v'=v∧S''=S.add B)) ?_
  exact F1 (fun x S1 hx=>⟨hx.1,rfl⟩) h

def Fy (x y:EO):Bool:=
 (match x.d with|some d=>!(looks y).contains d&&y.d != some d|none=>true) &&
 (match y.d with|some d=>!(looks x).contains d|none=>true) &&
 (cls x.k==0||cls x.k==1||cls x.k==2)&&(match y.k with | .alloc _=>true|_=>false)

theorem Qg {x y:EO} (h:Fy x y=true):(∀d,x.d=some d→d∉looks y)∧(∀d,x.d=some d→y.d≠some d)∧(∀d,y.d=some d→d∉looks x)∧
  (cls x.k=0∨cls x.k=1∨cls x.k=2)∧∃z,y.k=.alloc z:=by
 unfold Fy at h
 simp only [Bool.and_eq_true,Bool.or_eq_true,beq_iff_eq] at h
 obtain⟨⟨⟨h1,h2⟩,h3⟩,h4⟩:=h
 refine⟨fun d hd=>?_,fun d hd=>?_,fun d hd=>?_,?_,?_⟩
 ·rw [hd] at h1;simp at h1;exact h1.1
 ·rw [hd] at h1;simp at h1;exact h1.2
 ·rw [hd] at h2;simp at h2;exact h2
 ·rcases h3 with (h|h)|h<;>simp [h]
 ·split at h4
  ·exact⟨_,by assumption⟩
  ·cases h4

theorem YE.add {e:EO} {v:V} {S':St} {a:Fr} {S:St} (hc:cls e.k=0∨cls e.k=1∨cls e.k=2) (h:YE P e v S' a S) (B:List Bx):S'=S∧YE P e v (S.add B) a (S.add B):=by
 rcases h with ⟨g,h⟩|⟨g,rfl,rfl⟩
 ·obtain⟨h1,h2⟩:=Yp hc h B
  exact⟨h1,.inl ⟨g,h2⟩⟩
 ·exact⟨rfl,.inr ⟨g,rfl,rfl⟩⟩

theorem Qh {ei ej:EO} {vi:V} {Si:St} {a:Fr} {S:St} {K:Fr→St→Prop} (hap:Fy ei ej=true) (hi:YE P ei vi Si a S) {R R':V→Fr→St→Prop} (hj:eop1 P true ej K (Br a ei.d vi) Si R) :
  eop1 P true ej (fun a' S1=>∃Si',YE P ei vi Si' a' S1∧K (Br a' ei.d vi) Si') a S R':=by
 obtain⟨h1,h2,h3,h4,z,hz⟩:=Qg hap
 obtain⟨u,Sj,hu,hK⟩:=eop1_iff.1 hj
 rw [Oq h1] at hu
 rw [Nq h2] at hK
 obtain⟨rfl,_⟩:=hi.add h4 []
 have hB : ∃B,Sj=Si.add B:=by
  rcases hu with ⟨_,hu⟩|⟨_,_,rfl⟩
  ·unfold Bc at hu
   rw [hz] at hu
   exact⟨_,hu.2.symm⟩
  ·exact⟨[],by simp [St.add]⟩
 obtain⟨B,rfl⟩:=hB
 exact eop1_iff.2 ⟨u,_,hu,_,(Oq h3).2 (hi.add h4 B).2,hK⟩

def Eg (next:Fr→St→Prop) (Q:Ex→Fr→St→Prop):Ex→Fr→St→Prop
 | .nx,a,S=>next a S
 | e,a,S=>Q e a S

def Hl (P:Program) (D:Nat→Bool) (ops:Array Oper) (es:List EO) (Q:Ex→Fr→St→Prop):Nat→Array Bool→Fr→St→Prop
 | 0,listed,a,S=>Region.ready .any ops listed=[]∧Q .nx a S
 | fuel+1,listed,a,S=>
  (Region.ready .any ops listed=[]→Q .nx a S)∧
  ∀i∈Region.ready .any ops listed,∀e,es[i]?=some e→eop1 P (D i) e (Hl P D ops es Q fuel (listed.setIfInBounds i true)) a S (fun v=>Q (.pn v))

theorem eop1_mono {dr:Bool} {e:EO} {K K':Fr→St→Prop} {R R':V→Fr→St→Prop} (h : ∀a S,K a S→K' a S) {a:Fr} {S:St} (hk:eop1 P true e K a S R):eop1 P true e K' a S R':=by
 obtain⟨v,S',h1,h2⟩:=eop1_iff.1 hk
 exact eop1_iff.2 ⟨v,S',h1,h _ _ h2⟩

theorem I1 {D:Nat→Bool} {ops:Array Oper} {es:List EO} {Q:Ex→Fr→St→Prop} {i:Nat} {ei:EO} {v:V} {B:List Nat} (hi:es[i]?=some ei) (hDi:D i=true) (hD : ∀j,j∉B→D j=true) :
  ∀(fuel:Nat) (listed:Array Bool) (a:Fr) (S S':St),
   (∀j∈B,listed.getD j true=false∧(j=i∨∀oj,ops[j]?=some oj→∃e∈oj.after,Region.binds .any e=true∧e.on∈B))→
   (∀j oj ej,ops[j]?=some oj→es[j]?=some ej→j∉B→listed.getD j true=false→(Fx ei ej||Fy ei ej)=true)→i∈B→
   i∈Region.ready .any ops listed→YE P ei v S' a S→Hl P D ops es Q fuel (listed.setIfInBounds i true) (Br a ei.d v) S'→Hl P D ops es Q (fuel+1) listed a S:=by
 intro fuel
 induction fuel with
 | zero=>
  intro listed a S S' _ _ _ hr hy H
  refine⟨fun h=>(by rw [h] at hr;cases hr),fun j hj e he=>?_⟩
  by_cases hji:j=i
  ·subst hji
   rw [hi] at he;cases he
   rw [hDi];exact eop1_iff.2 ⟨v,S',hy,H⟩
  ·have:=ready_mono hj hji
   rw [H.1] at this
   cases this
 | succ fuel ih=>
  intro listed a S S' hBl hfree hiB hr hy H
  refine⟨fun h=>(by rw [h] at hr;cases hr),fun j hj e he=>?_⟩
  by_cases hji:j=i
  ·subst hji
   rw [hi] at he;cases he
   rw [hDi];exact eop1_iff.2 ⟨v,S',hy,H⟩
  ·have h1:=H.2 j (ready_mono hj hji) e he
   obtain⟨hjun,oj,hoj,hall⟩:=mem_ready.1 hj
   have hnot:j∉B:=fun hjB=>by
    rcases (hBl j hjB).2 with h|h
    ·exact hji h
    ·obtain⟨e,he,hb,hon⟩:=h oj hoj
     have h1:=hall e he hb
     have h0:=(hBl e.on hon).1
     rcases Nat.lt_or_ge e.on listed.size with h'|h'
     ·simp [h'] at h0 h1;rw [h0] at h1;cases h1
     ·simp [Array.getElem?_eq_none h'] at h1
   rw [hD j hnot] at h1 ⊢
   have h2:=(Bool.or_eq_true_iff.1 (hfree j oj e hoj he hnot hjun)).elim (fun hap=>Qf (R':=fun v=>Q (.pn v)) hap hy h1) (fun hap=>Qh hap hy h1)
   have hBl' : ∀k∈B,(listed.setIfInBounds j true).getD k true=false∧(k=i∨∀oj,ops[k]?=some oj→∃e∈oj.after,Region.binds .any e=true∧e.on∈B):=fun k hk=>by
    refine⟨?_,(hBl k hk).2⟩
    have hjk:j≠k:=fun h=>hnot (h▸hk)
    rw [getD_set_ne true hjk];exact (hBl k hk).1
   have hfree' : ∀k ok ek,ops[k]?=some ok→es[k]?=some ek→k∉B→(listed.setIfInBounds j true).getD k true=false→(Fx ei ek||Fy ei ek)=true:=fun k ok ek hk hek hki hun=>by
    refine hfree k ok ek hk hek hki ?_
    by_cases hjk:j=k
    ·subst hjk;exact hjun
    ·rw [getD_set_ne true hjk] at hun;exact hun
   refine eop1_mono (dr:=true) (fun a' S1 h3=>?_) h2
   obtain⟨Si',y1,y2⟩:=h3
   refine ih (listed.setIfInBounds j true) a' S1 Si' hBl' hfree' hiB (ready_mono hr (Ne.symm hji)) y1 ?_
   rw [Array.setIfInBounds_comm _ _ hji]
   exact y2

def Qi (ops:Array Oper) (listed:Array Bool) (i:Nat):List Nat:=
 (List.range ops.size).foldl (fun B j=>if j != i&&listed.getD j true==false&&(match ops[j]? with|some oj=>oj.after.any (fun e=>Region.binds .any e&&B.contains e.on)|none=>false) then j::B else B) [i]

def A3q (ops:Array Oper) (es:List EO) (listed:Array Bool) (i:Nat) (ei:EO) (B:List Nat):Bool:=
 (B.all fun j=>listed.getD j true==false&&(j==i||match ops[j]? with|some oj=>oj.after.any (fun e=>Region.binds .any e&&B.contains e.on)|none=>true))&&B.contains i &&
 (List.range ops.size).all fun j=>B.contains j||listed.getD j true||match es[j]? with
   | some ej=>Fx ei ej||Fy ei ej
   | none=>true

def Ir (ops:Array Oper) (es:List EO) (listed:Array Bool) (i:Nat):Bool:=
 match es[i]? with
 | none=>false
 | some ei=>A3q ops es listed i ei (Qi ops listed i)

theorem Fz {ops:Array Oper} {es:List EO} {i:Nat} {ei:EO} {listed:Array Bool} (hi:es[i]?=some ei) (h:Ir ops es listed i=true) : ∃B:List Nat,B=Qi ops listed i∧
  (∀j∈B,listed.getD j true=false∧(j=i∨∀oj,ops[j]?=some oj→∃e∈oj.after,Region.binds .any e=true∧e.on∈B))∧
  (∀j oj ej,ops[j]?=some oj→es[j]?=some ej→j∉B→listed.getD j true=false→(Fx ei ej||Fy ei ej)=true)∧i∈B:=by
 simp only [Ir,hi,A3q,Bool.and_eq_true,List.all_eq_true,List.mem_range,List.contains_iff_mem] at h
 refine⟨Qi ops listed i,rfl,fun j hj=>?_,fun j oj ej hoj hej hjB hun=>?_,h.1.2⟩
 ·have h1:=h.1.1 j hj
  refine⟨by simpa using h1.1,?_⟩
  have h2:=h1.2
  simp only [Bool.or_eq_true,beq_iff_eq] at h2
  rcases h2 with h2|h2
  ·exact .inl h2
  ·refine .inr fun oj hoj=>?_
   simp only [hoj] at h2
   rw [←Array.any_toList,List.any_eq_true] at h2
   obtain⟨e,he,hb⟩:=h2
   simp only [Bool.and_eq_true,List.contains_iff_mem] at hb
   exact⟨e,by simpa using he,hb.1,hb.2⟩
 ·have h1:=h.2 j (Array.getElem?_eq_some_iff.1 hoj).1
  simp only [hej,Bool.or_eq_true,List.contains_iff_mem,hjB,hun,false_or,Bool.false_eq_true] at h1
  exact Bool.or_eq_true_iff.2 h1

def Ts (ops:Array Oper) (es:List EO):Nat→Nat→Array Bool→Bool
 | 0,_,listed=>(Region.ready .any ops listed).isEmpty
 | fuel+1,k,listed=>(Region.ready .any ops listed).contains k&&Ir ops es listed k&&Ts ops es fuel (k+1) (listed.setIfInBounds k true)

theorem Qj {ops:Array Oper} {es:List EO} {Q:Ex→Fr→St→Prop} : ∀(l:List EO) (k:Nat) (listed:Array Bool) (a:Fr) (S:St),(∀j,l[j]?=es[k+j]?)→Ts ops es l.length k listed=true→Bq P true l Q a S→Hl P (fun _=>true) ops es Q l.length listed a S
 | [],k,listed,a,S,_,hB,h=>⟨by simpa [Ts] using hB,h⟩
 | e::l,k,listed,a,S,hl,hB,h=>by
  have h0:es[k]?=some e:=by simpa using (hl 0).symm
  simp only [List.length_cons,Ts,Bool.and_eq_true] at hB
  obtain⟨⟨hr,hf⟩,hB'⟩:=hB
  obtain⟨v,S',hy,hK⟩:=eop1_iff.1 h
  obtain⟨B,_,b1,b2,b3⟩:=Fz h0 hf
  exact I1 h0 rfl (fun _ _=>rfl) l.length listed a S S' b1 b2 b3 (by simpa using hr) hy
   (Qj l (k+1) _ _ _ (fun j=>by have:=hl (j+1);simpa [Nat.add_assoc,Nat.add_comm 1 j] using this) hB' hK)

def Yq (ops:Array Oper) (es:List EO) (n:Nat):Nat→Nat→Array Bool→Bool
 | 0,_,listed=>(Region.ready .any ops listed==[n])&&(Region.ready .any ops (listed.setIfInBounds n true)).isEmpty
 | fuel+1,k,listed=>(Region.ready .any ops listed).contains k&&Ir ops es listed k&&(Qi ops listed k).contains n&&(k != n)&&Yq ops es n fuel (k+1) (listed.setIfInBounds k true)

theorem Nr {ops:Array Oper} {es:List EO} {Q:Ex→Fr→St→Prop} {n:Nat} {el:EO} : ∀(l:List EO) (k:Nat) (listed:Array Bool) (a:Fr) (S:St),n=k+l.length→(∀j,(l++[el])[j]?=es[k+j]?)→Yq ops es n l.length k listed=true→
  Bq P true l (Eg (Bq P false [el] Q) Q) a S→Hl P (fun i=>i != n) ops es Q (l.length+1) listed a S
 | [],k,listed,a,S,hn,hl,hB,h=>by
  simp only [List.length_nil,Yq,Bool.and_eq_true,beq_iff_eq] at hB
  have h0:es[n]?=some el:=by simpa [hn] using (hl 0).symm
  refine⟨fun hr=>(by rw [hB.1] at hr;cases hr),fun i hi e he=>?_⟩
  rw [hB.1] at hi
  simp only [List.mem_singleton] at hi
  subst hi
  rw [h0] at he
  cases he
  have hD:(fun j=>j != i) i=false:=by simp
  rw [hD]
  have hQ:Hl P (fun j=>j != i) ops es Q 0 (listed.setIfInBounds i true)=Q .nx:=by
   funext a S
   have:Region.ready .any ops (listed.setIfInBounds i true)=[]:=by simpa using hB.2
   simp [Hl,this]
  simp only [List.length_nil]
  rw [hQ]
  exact h
 | e::l,k,listed,a,S,hn,hl,hB,h=>by
  have h0:es[k]?=some e:=by simpa using (hl 0).symm
  simp only [List.length_cons,Yq,Bool.and_eq_true] at hB
  obtain⟨⟨⟨⟨hr,hf⟩,hw⟩,hne⟩,hB'⟩:=hB
  obtain⟨v,S',hy,hK⟩:=eop1_iff.1 h
  obtain⟨B,hBw,b1,b2,b3⟩:=Fz h0 hf
  refine I1 (D:=fun i=>i != n) h0 hne (fun j hj=>?_) (l.length+1) listed a S S' b1 b2 b3 (by simpa using hr) hy
   (Nr l (k+1) _ _ _ (by rw [hn];simp;omega) (fun j=>by have:=hl (j+1);simpa [Nat.add_assoc,Nat.add_comm 1 j] using this) hB' hK)
  have:n∈B:=by rw [hBw];simpa using hw
  simp only [bne_iff_ne,ne_eq]
  exact fun hjn=>hj (hjn▸this)

inductive OT where
 | dn
 | nl
 | st (k:Nat) (t:OT)
 | br (k:Nat) (t r:OT)
def OT.depth:OT→Nat
 | .dn=>0
 | .nl=>0
 | .st _ t=>t.depth+1
 | .br _ t r=>max (t.depth+1) r.depth
def OT.heads:OT→List Nat
 | .br k _ r=>k::r.heads
 | _=>[]
def Is (ops:Array Oper) (es:List EO):Bool→OT→Array Bool→Bool
 | ch,.dn,listed=>!ch&&(Region.ready .any ops listed).isEmpty
 | ch,.nl,_=>ch
 | ch,.st k t,listed=>!ch&&(Region.ready .any ops listed).contains k&&Ir ops es listed k&&Is ops es false t (listed.setIfInBounds k true)
 | ch,.br k t r,listed=>(ch||(!(Region.ready .any ops listed).isEmpty&&(Region.ready .any ops listed).all fun i=>(OT.br k t r).heads.contains i))&&Is ops es false t (listed.setIfInBounds k true)&&Is ops es true r listed
def Qk (P:Program) (e:Option EO) (K:Fr→St→Prop) (a:Fr) (S:St):Prop:=match e with|some e=>eop1 P true e K a S|none=>True
def ewT (P:Program) (es:List EO) (Q:Ex→Fr→St→Prop):OT→Fr→St→Prop
 | .dn,a,S=>Q .nx a S
 | .nl,_,_=>True
 | .st k t,a,S=>Qk P es[k]? (ewT P es Q t) a S
 | .br k t r,a,S=>Qk P es[k]? (ewT P es Q t) a S∧ewT P es Q r a S
theorem H8 {ops:Array Oper} {es:List EO} {Q:Ex→Fr→St→Prop} : ∀(t:OT) (listed:Array Bool) (a:Fr) (S:St) (fuel:Nat),t.depth≤fuel→
  (Is ops es false t listed=true→ewT P es Q t a S→Hl P (fun _=>true) ops es Q fuel listed a S)∧
  (Is ops es true t listed=true→ewT P es Q t a S→∀i∈t.heads,∀f,fuel=f+1→∀e,es[i]?=some e→eop1 P true e (Hl P (fun _=>true) ops es Q f (listed.setIfInBounds i true)) a S (fun v=>Q (.pn v)))
 | .dn,listed,a,S,fuel,hd=>by
  refine⟨fun h hw=>?_,fun h=>by simp [Is] at h⟩
  have h0:Region.ready .any ops listed=[]:=by simpa [Is] using h
  cases fuel with
  | zero=>exact⟨h0,hw⟩
  | succ f=>exact⟨fun _=>hw,fun i hi=>by rw [h0] at hi;cases hi⟩
 | .nl,listed,a,S,fuel,hd=>⟨fun h=>by simp [Is] at h,fun _ _ i hi=>by simp [OT.heads] at hi⟩
 | .st k t,listed,a,S,fuel,hd=>by
  refine⟨fun h hw=>?_,fun h=>by simp [Is] at h⟩
  simp only [Is,Bool.not_false,Bool.true_and,Bool.and_eq_true] at h
  obtain⟨⟨hr,hf⟩,ht⟩:=h
  simp only [OT.depth] at hd
  obtain⟨f,rfl⟩ : ∃f,fuel=f+1:=⟨fuel-1,by omega⟩
  cases h0:es[k]? with
  | none=>simp [Ir,h0] at hf
  | some e=>
   simp only [ewT,Qk,h0] at hw
   obtain⟨v,S',hy,hK⟩:=eop1_iff.1 hw
   obtain⟨B,_,b1,b2,b3⟩:=Fz h0 hf
   exact I1 h0 rfl (fun _ _=>rfl) f listed a S S' b1 b2 b3 (by simpa using hr) hy ((H8 t _ _ _ f (by omega)).1 ht hK)
 | .br k t r,listed,a,S,fuel,hd=>by
  simp only [OT.depth] at hd
  have both : ∀ch,Is ops es ch (.br k t r) listed=true→ewT P es Q (.br k t r) a S→∀i∈(OT.br k t r).heads,∀f,fuel=f+1→∀e,es[i]?=some e→eop1 P true e (Hl P (fun _=>true) ops es Q f (listed.setIfInBounds i true)) a S (fun v=>Q (.pn v)):=by
   intro ch h hw i hi f hf e he
   simp only [Is,Bool.and_eq_true] at h
   obtain⟨⟨_,ht⟩,hr⟩:=h
   simp only [OT.heads,List.mem_cons] at hi
   by_cases hik:i=k
   ·subst hik
    have hw:=hw.1
    simp only [Qk,he] at hw
    exact eop1_mono (dr:=true) (fun a' S1 h3=>(H8 t _ _ _ f (by omega)).1 ht h3) hw
   ·exact (H8 r listed a S fuel (by omega)).2 hr hw.2 i (hi.resolve_left hik) f hf e he
  refine⟨fun h hw=>?_,both true⟩
  have hb:=both false h hw
  simp only [Is,Bool.false_or,Bool.and_eq_true,List.all_eq_true] at h
  obtain⟨f,rfl⟩ : ∃f,fuel=f+1:=⟨fuel-1,by omega⟩
  exact⟨fun h0=>by simp [h0] at h,fun i hi e he=>hb i (by simpa using h.1.1.2 i hi) f rfl e he⟩

def isCallE (e:EO):Bool:=match e.k with | .call _ | .callv=>true|_=>false
def Cy (es:List EO) (i:Nat):Bool:=match es[i]? with|some e=>isCallE e|none=>false
theorem Ql {ops:Array Oper} {es:List EO} {Q:Ex→Fr→St→Prop} {i:Nat} {ei:EO} {v:V} {B:List Nat} (hi:es[i]?=some ei) (hDi:(!Cy es i)=true) :
  ∀(fuel:Nat) (listed:Array Bool) (a:Fr) (S S':St),
   (∀j∈B,listed.getD j true=false∧(j=i∨∀oj,ops[j]?=some oj→∃e∈oj.after,Region.binds .any e=true∧e.on∈B))→
   (∀j oj ej,ops[j]?=some oj→es[j]?=some ej→j∉B→listed.getD j true=false→(Fx ei ej||Fy ei ej)=true)→i∈B→(∀j,j∉B→listed.getD j true=false→(!Cy es j)=true)→
   i∈Region.ready .any ops listed→YE P ei v S' a S→Hl P (fun i=>!Cy es i) ops es Q fuel (listed.setIfInBounds i true) (Br a ei.d v) S'→Hl P (fun i=>!Cy es i) ops es Q (fuel+1) listed a S:=by
 intro fuel
 induction fuel with
 | zero=>
  intro listed a S S' _ _ _ _ hr hy H
  refine⟨fun h=>(by rw [h] at hr;cases hr),fun j hj e he=>?_⟩
  by_cases hji:j=i
  ·subst hji
   rw [hi] at he;cases he
   show eop1 P (!Cy es j) ei _ a S _
   rw [hDi];exact eop1_iff.2 ⟨v,S',hy,H⟩
  ·have:=ready_mono hj hji
   rw [H.1] at this
   cases this
 | succ fuel ih=>
  intro listed a S S' hBl hfree hiB hD hr hy H
  refine⟨fun h=>(by rw [h] at hr;cases hr),fun j hj e he=>?_⟩
  by_cases hji:j=i
  ·subst hji
   rw [hi] at he;cases he
   show eop1 P (!Cy es j) ei _ a S _
   rw [hDi];exact eop1_iff.2 ⟨v,S',hy,H⟩
  ·have h1:=H.2 j (ready_mono hj hji) e he
   obtain⟨hjun,oj,hoj,hall⟩:=mem_ready.1 hj
   have hnot:j∉B:=fun hjB=>by
    rcases (hBl j hjB).2 with h|h
    ·exact hji h
    ·obtain⟨e,he,hb,hon⟩:=h oj hoj
     have h1:=hall e he hb
     have h0:=(hBl e.on hon).1
     rcases Nat.lt_or_ge e.on listed.size with h'|h'
     ·simp [h'] at h0 h1;rw [h0] at h1;cases h1
     ·simp [Array.getElem?_eq_none h'] at h1
   have h1:eop1 P (!Cy es j) e _ _ _ _:=h1
   show eop1 P (!Cy es j) e _ a S _
   rw [hD j hnot hjun] at h1 ⊢
   have h2:=(Bool.or_eq_true_iff.1 (hfree j oj e hoj he hnot hjun)).elim (fun hap=>Qf (R':=fun v=>Q (.pn v)) hap hy h1) (fun hap=>Qh hap hy h1)
   have hBl' : ∀k∈B,(listed.setIfInBounds j true).getD k true=false∧(k=i∨∀oj,ops[k]?=some oj→∃e∈oj.after,Region.binds .any e=true∧e.on∈B):=fun k hk=>by
    refine⟨?_,(hBl k hk).2⟩
    have hjk:j≠k:=fun h=>hnot (h▸hk)
    rw [getD_set_ne true hjk];exact (hBl k hk).1
   have hfree' : ∀k ok ek,ops[k]?=some ok→es[k]?=some ek→k∉B→(listed.setIfInBounds j true).getD k true=false→(Fx ei ek||Fy ei ek)=true:=fun k ok ek hk hek hki hun=>by
    refine hfree k ok ek hk hek hki ?_
    by_cases hjk:j=k
    ·subst hjk;exact hjun
    ·rw [getD_set_ne true hjk] at hun;exact hun
   have hD' : ∀k,k∉B→(listed.setIfInBounds j true).getD k true=false→(!Cy es k)=true:=fun k hki hun=>by
    refine hD k hki ?_
    by_cases hjk:j=k
    ·subst hjk;exact hjun
    ·rw [getD_set_ne true hjk] at hun;exact hun
   refine eop1_mono (dr:=true) (fun a' S1 h3=>?_) h2
   obtain⟨Si',y1,y2⟩:=h3
   refine ih (listed.setIfInBounds j true) a' S1 Si' hBl' hfree' hiB hD' (ready_mono hr (Ne.symm hji)) y1 ?_
   rw [Array.setIfInBounds_comm _ _ hji]
   exact y2

def Yr (ops:Array Oper) (es:List EO) (listed:Array Bool) (i:Nat):Bool:=
 Ir ops es listed i && !Cy es i&&(List.range es.length).all fun j=>(Qi ops listed i).contains j||listed.getD j true || !Cy es j
def F5 (ops:Array Oper) (es:List EO):Bool→OT→Array Bool→Bool
 | ch,.dn,listed=>!ch&&(Region.ready .any ops listed).isEmpty
 | ch,.nl,_=>ch
 | ch,.st k t,listed=>!ch&&(Region.ready .any ops listed).contains k&&Yr ops es listed k&&F5 ops es false t (listed.setIfInBounds k true)
 | ch,.br k t r,listed=>(ch||(!(Region.ready .any ops listed).isEmpty&&(Region.ready .any ops listed).all fun i=>(OT.br k t r).heads.contains i))&&F5 ops es false t (listed.setIfInBounds k true)&&F5 ops es true r listed
def Lu (P:Program) (Q:Ex→Fr→St→Prop) (e:Option EO) (K:Fr→St→Prop) (a:Fr) (S:St):Prop:=match e with|some e=>eop1 P (!isCallE e) e K a S (fun v=>Q (.pn v))|none=>True
def Qm (P:Program) (es:List EO) (Q:Ex→Fr→St→Prop):OT→Fr→St→Prop
 | .dn,a,S=>Q .nx a S
 | .nl,_,_=>True
 | .st k t,a,S=>Lu P Q es[k]? (Qm P es Q t) a S
 | .br k t r,a,S=>Lu P Q es[k]? (Qm P es Q t) a S∧Qm P es Q r a S
theorem Wv {dr:Bool} {k:EK} {vs:List V} {S:St} {K K':V→St→Prop} {R:V→St→Prop} (h : ∀v S,K v S→K' v S) (hk:opK P dr k vs S K R):opK P dr k vs S K' R:=by
 have hc : ∀f vs,Fl P dr f vs S K R→Fl P dr f vs S K' R:=fun f vs h0=>by
  rcases h0 with ⟨r,S',h1,h2,h3⟩|⟨hd,h0|⟨Φ,h1,h2⟩⟩
  ·exact .inl ⟨r,S',h1,h2,fun q=>h _ _ (h3 q)⟩
  ·exact .inr ⟨hd,.inl h0⟩
  ·exact .inr ⟨hd,.inr ⟨Φ,h1,fun r S' q1 q2=>h _ _ (h2 r S' q1 q2)⟩⟩
 cases k with
 | call f=>exact hc _ _ hk
 | callv=>
  simp only [opK] at hk ⊢
  split at hk
  ·exact hc _ _ hk
  ·exact hk
 | pan=>exact hk
 | _=>simp only [opK] at hk ⊢;exact F1 (fun x S1 hx=>h _ _ hx) hk
theorem eop1_monoW {dr:Bool} {e:EO} {K K':Fr→St→Prop} {R:V→Fr→St→Prop} (h : ∀a S,K a S→K' a S) {a:Fr} {S:St} (hk:eop1 P dr e K a S R):eop1 P dr e K' a S R:=by
 unfold eop1 at hk ⊢
 obtain⟨c1,c2,c3⟩:=I0 a e.g (opK P dr e.k (e.xs.map (opv a)) S (fun v S'=>K (Br a e.d v) S') (fun v S'=>R v a S')) (K (Br a e.d .und) S)
 obtain⟨d1,d2,d3⟩:=I0 a e.g (opK P dr e.k (e.xs.map (opv a)) S (fun v S'=>K' (Br a e.d v) S') (fun v S'=>R v a S')) (K' (Br a e.d .und) S)
 cases hr:Ku a e.g with
 | none=>exact absurd hk (c3 hr)
 | some b=>
  cases b
  ·exact (d2 hr).2 (h _ _ ((c2 hr).1 hk))
  ·exact (d1 hr).2 (Wv (fun v S1 hx=>h _ _ hx) ((c1 hr).1 hk))
theorem G0 {ops:Array Oper} {es:List EO} {Q:Ex→Fr→St→Prop} : ∀(t:OT) (listed:Array Bool) (a:Fr) (S:St) (fuel:Nat),t.depth≤fuel→
  (F5 ops es false t listed=true→Qm P es Q t a S→Hl P (fun i=>!Cy es i) ops es Q fuel listed a S)∧
  (F5 ops es true t listed=true→Qm P es Q t a S→∀i∈t.heads,∀f,fuel=f+1→∀e,es[i]?=some e→eop1 P (!Cy es i) e (Hl P (fun i=>!Cy es i) ops es Q f (listed.setIfInBounds i true)) a S (fun v=>Q (.pn v)))
 | .dn,listed,a,S,fuel,hd=>by
  refine⟨fun h hw=>?_,fun h=>by simp [F5] at h⟩
  have h0:Region.ready .any ops listed=[]:=by simpa [F5] using h
  cases fuel with
  | zero=>exact⟨h0,hw⟩
  | succ f=>exact⟨fun _=>hw,fun i hi=>by rw [h0] at hi;cases hi⟩
 | .nl,listed,a,S,fuel,hd=>⟨fun h=>by simp [F5] at h,fun _ _ i hi=>by simp [OT.heads] at hi⟩
 | .st k t,listed,a,S,fuel,hd=>by
  refine⟨fun h hw=>?_,fun h=>by simp [F5] at h⟩
  simp only [F5,Bool.not_false,Bool.true_and,Bool.and_eq_true] at h
  obtain⟨⟨hr,hf⟩,ht⟩:=h
  simp only [OT.depth] at hd
  obtain⟨f,rfl⟩ : ∃f,fuel=f+1:=⟨fuel-1,by omega⟩
  simp only [Yr,Bool.and_eq_true,List.all_eq_true,List.mem_range] at hf
  obtain⟨⟨hfe,hwk⟩,hall⟩:=hf
  cases h0:es[k]? with
  | none=>simp [Ir,h0] at hfe
  | some e=>
   have hwe:isCallE e=false:=by simpa [Cy,h0] using hwk
   simp only [Qm,Lu,h0,hwe,Bool.not_false] at hw
   obtain⟨v,S',hy,hK⟩:=eop1_iff.1 hw
   obtain⟨B,hB,b1,b2,b3⟩:=Fz h0 hfe
   refine Ql h0 hwk f listed a S S' b1 b2 b3 (fun j hjB hun=>?_) (by simpa using hr) hy ((G0 t _ _ _ f (by omega)).1 ht hK)
   rcases Nat.lt_or_ge j es.length with hjs|hjs
   ·have:=hall j hjs
    simp only [Bool.or_eq_true,List.contains_iff_mem] at this
    rcases this with (h1|h1)|h1
    ·exact absurd (hB▸h1) hjB
    ·rw [hun] at h1;cases h1
    ·exact h1
   ·simp [Cy,List.getElem?_eq_none hjs]
 | .br k t r,listed,a,S,fuel,hd=>by
  simp only [OT.depth] at hd
  have both : ∀ch,F5 ops es ch (.br k t r) listed=true→Qm P es Q (.br k t r) a S→∀i∈(OT.br k t r).heads,∀f,fuel=f+1→∀e,es[i]?=some e→eop1 P (!Cy es i) e (Hl P (fun i=>!Cy es i) ops es Q f (listed.setIfInBounds i true)) a S (fun v=>Q (.pn v)):=by
   intro ch h hw i hi f hf e he
   simp only [F5,Bool.and_eq_true] at h
   obtain⟨⟨_,ht⟩,hr⟩:=h
   simp only [OT.heads,List.mem_cons] at hi
   by_cases hik:i=k
   ·subst hik
    have hw:=hw.1
    simp only [Lu,he] at hw
    have hD:(!Cy es i) = !isCallE e:=by simp [Cy,he]
    rw [hD]
    exact eop1_monoW (fun a' S1 h3=>(G0 t _ _ _ f (by omega)).1 ht h3) hw
   ·exact (G0 r listed a S fuel (by omega)).2 hr hw.2 i (hi.resolve_left hik) f hf e he
  refine⟨fun h hw=>?_,both true⟩
  have hb:=both false h hw
  simp only [F5,Bool.false_or,Bool.and_eq_true,List.all_eq_true] at h
  obtain⟨f,rfl⟩ : ∃f,fuel=f+1:=⟨fuel-1,by omega⟩
  exact⟨fun h0=>by simp [h0] at h,fun i hi e he=>hb i (by simpa using h.1.1.2 i hi) f rfl e he⟩

theorem Co {D:Nat→Bool} {N nb nt:Nat} {Df:List Deferred} {ops:Array Oper} {es:List EO} (hd : ∀(i:Nat) (o:Oper),ops[i]?=some o→∀k,o.dst=some k→k<N) {fl:Bool} (hes : ∀(i:Nat) (o:Oper),ops[i]?=some o→∃e,es[i]?=some e∧eopOf P fl ops o=some e) :
  ∀(fuel:Nat) (listed:Array Bool) {g:Gh} {a:Fr} {S:St} {act:Act} {w:World} {Q:Ex→Fr→St→Prop} {Q':Exit→Act→World→Prop},Conc N Df g a S act w→nb≤S.boxes.length→nt≤S.toks.length→Hl P D ops es Q fuel listed a S→
   (∀act' w',Ck N Df nb nt g S w (Q .nx) act' w'→Q' .normal act' w')→(∀v u act' w',On N Df nb nt g S w Q v u act' w'→Q' (.panic [{ v:=u,recovered:=false }]) act' w')→wpAny P .any ops Q' fuel listed act w
 | 0,listed,g,a,S,act,w,Q,Q',hC,hb,ht,h,hQ,hP=>⟨h.1,hQ _ _ (Ck.conc hC hb ht h.2)⟩
 | fuel+1,listed,g,a,S,act,w,Q,Q',hC,hb,ht,h,hQ,hP=>by
  refine⟨fun h0=>hQ _ _ (Ck.conc hC hb ht (h.1 h0)),fun i hi=>?_⟩
  obtain⟨_,o,ho,_⟩:=mem_ready.1 hi
  obtain⟨e,he,hoe⟩:=hes i o ho
  refine wpOp_mono (fun act' w' hbh=>?_) (Qd (nb:=nb) (nt:=nt) ho hoe (hd i o ho) hC hb ht (fun _ v S' g' u w' hr hv hC' hm=>hP v u act w' ⟨a,S',g',hr,hv,hC',hm⟩) (h.2 i hi e he))
  obtain⟨a',S',g',hn,hC',hm⟩:=hbh
  exact Co hd hes fuel _ hC' hm.nb hm.nt hn (fun act'' w'' hb''=>hQ _ _ (Ck.trans hm hb'')) (fun v u act'' w'' hb''=>hP _ _ _ _ (On.trans hm hb''))

end
end E
end Go.Proofs.YtmlpmdccfmmpoaaGreatDoor
end

/- The engine, part 16: forgetting; the code of a function; its soundness. -/
section
set_option linter.unusedSimpArgs false
set_option linter.unusedVariables false
namespace Go.Proofs.YtmlpmdccfmmpoaaGreatDoor
namespace E

def LeL (R:V→V→Prop):List V→List V→Prop
 | [],[]=>True
 | x::xs,y::ys=>R x y∧LeL R xs ys
 | _,_=>False
def leC (v v':V):Prop:=v'=v∨v'=.junk∨∃t,toT v=some t∧v'=.t t
def leA (v v':V):Prop:=leC v v'∨∃cs cs',v=.agg cs∧v'=.agg cs'∧LeL leC cs cs'
def leV (v v':V):Prop:=leA v v'∨∃cs cs',v=.tup cs∧v'=.tup cs'∧LeL leA cs cs'

theorem leC.refl (v:V):leC v v:=.inl rfl
theorem leA.refl (v:V):leA v v:=.inl (.inl rfl)
theorem leV.refl (v:V):leV v v:=.inl (.inl (.inl rfl))

theorem LeL.get {R:V→V→Prop} : ∀{xs ys:List V},LeL R xs ys→xs.length=ys.length∧∀j,j<xs.length→R (xs.getD j .junk) (ys.getD j .junk)
 | [],[],_=>by simp
 | x::xs,y::ys,h=>by
  have ih:=LeL.get h.2
  refine⟨by simp [ih.1],fun j hj=>?_⟩
  cases j with
  | zero=>simpa using h.1
  | succ j=>simpa using ih.2 j (by simpa using hj)
 | [],_::_,h=>h.elim
 | _::_,[],h=>h.elim

theorem Kz {g:Gh} {tk:List Nat} {v v':V} {u:Value} (h:RelV g tk v u) (hl:leC v v'):RelV g tk v' u:=by
 rcases hl with rfl|rfl|⟨t,ht,rfl⟩
 ·exact h
 ·exact .junk _
 ·exact .t _ _ (Ik h ht)

theorem Or {g:Gh} {tk:List Nat} {v v':V} {u:Value} (h:RelV g tk v u) (hl:leA v v'):RelV g tk v' u:=by
 rcases hl with hl|⟨cs,cs',rfl,rfl,hL⟩
 ·exact Kz h hl
 ·obtain⟨h1,h2⟩:=hL.get
  cases h with
  | agg _ vs hl hr=>exact .agg _ _ (by omega) (fun j hj=>Kz (hr j (by omega)) (h2 j (by omega)))

theorem Ot {g:Gh} {tk:List Nat} {v v':V} {u:Value} (h:RelV g tk v u) (hl:leV v v'):RelV g tk v' u:=by
 rcases hl with hl|⟨cs,cs',rfl,rfl,hL⟩
 ·exact Or h hl
 ·obtain⟨h1,h2⟩:=hL.get
  cases h with
  | tup _ vs hl hr=>exact .tup _ _ (by omega) (fun j hj=>Or (hr j (by omega)) (h2 j (by omega)))

mutual
def okN (nb nt:Nat):V→Bool
 | .t _ | .und | .junk | .snil | .full _ | .tp _ _=>true
 | .own k _ _ _=>k<nt
 | .ptr b _ | .mp b | .vw b _ _ | .bw b _=>b<nb
 | .fn _ caps=>okNs nb nt caps
 | .agg cs=>okNs nb nt cs
 | .tup cs=>okNs nb nt cs
def okNs (nb nt:Nat):List V→Bool
 | []=>true
 | v::vs=>okN nb nt v&&okNs nb nt vs
end

theorem Dp {nb nt:Nat} : ∀{vs:List V},okNs nb nt vs=true→∀j,j<vs.length→okN nb nt (vs.getD j .junk)=true
 | [],_,j,hj=>by simp at hj
 | v::vs,h,j,hj=>by
  simp only [okNs,Bool.and_eq_true] at h
  cases j with
  | zero=>simpa using h.1
  | succ j=>simpa using Dp h.2 j (by simpa using hj)

theorem Dq (nb nt:Nat) (l:List T):okNs nb nt (l.map V.t)=true:=by
 induction l with
 | nil=>rfl
 | cons x l ih=>simp [okNs,okN,ih]

def trunc (g:Gh) (nb nt:Nat):Gh:={ g with β:=g.β.take nb,τ:=g.τ.take nt }

theorem RelV.trunc {g:Gh} {tk:List Nat} {nb nt:Nat} {v:V} {u:Value} (h:RelV g tk v u) (ho:okN nb nt v=true):RelV (trunc g nb nt) (tk.take nt) v u:=by
 have hb : ∀{b blk:Nat},g.β[b]?=some blk→b<nb→(E.trunc g nb nt).β[b]?=some blk:=fun h1 h2=>by simp [E.trunc,h2,h1]
 induction h with
 | t x v h=>exact .t x v h
 | und=>exact .und
 | junk v=>exact .junk v
 | snil=>exact .snil
 | full es a h=>exact .full es a h
 | own k e z es v n h hz hn hle hg=>
  have hk:k<nt:=by simpa [okN] using ho
  refine .own k e z es v n h hz (by simp [hk,hn]) hle fun he=>?_
  have:=hg he
  simpa [Oh,E.trunc,hk] using this
 | ptr b o blk h=>exact .ptr b o blk (hb h (by simpa [okN] using ho))
 | tp e o blk off c hI hr=>exact .tp e o blk off c hI hr
 | fn f caps vs hl hr ih=>exact .fn f caps vs hl (fun j hj=>ih j hj (Dp (by simpa [okN] using ho) j hj))
 | agg cs vs hl hr ih=>exact .agg cs vs hl (fun j hj=>ih j hj (Dp (by simpa [okN] using ho) j hj))
 | tup cs vs hl hr ih=>exact .tup cs vs hl (fun j hj=>ih j hj (Dp (by simpa [okN] using ho) j hj))
 | mp b blk h=>exact .mp b blk (hb h (by simpa [okN] using ho))
 | vw b o n blk cap h hc hm=>exact .vw b o n blk cap (hb h (by simpa [okN] using ho)) hc hm
 | bw b n blk cap h hc hk hm=>exact .bw b n blk cap (hb h (by simpa [okN] using ho)) hc hk hm

def leB (nb nt:Nat):Bx→Bx→Prop
 | _,.dead=>True
 | .cells cs,.cells cs'=>LeL leC cs cs'∧okNs nb nt cs'=true
 | .mp es,.mp es'=>es'=es∧okNs nb nt (es.map (·.1))=true∧okNs nb nt (es.map (·.2))=true
 | .buf e z cs,.buf e' z' cs'=>e'=e∧z'=z∧LeL leC cs cs'∧okNs nb nt cs'=true
 | .itr s p,.itr s' p'=>s'=s∧p'=p
 | _,_=>False

def A6 (nb nt:Nat):List Bx→List Bx→Prop
 | _,[]=>True
 | b::bs,c::cs=>leB nb nt b c∧A6 nb nt bs cs
 | [],_::_=>False

def Cv:List Nat→List Nat→Prop
 | _,[]=>True
 | b::bs,c::cs=>b=c∧Cv bs cs
 | [],_::_=>False

def leS (S S':St):Prop:=A6 S'.boxes.length S'.toks.length S.boxes S'.boxes∧Cv S.toks S'.toks

theorem A6.get {nb nt:Nat} : ∀{bs cs:List Bx},A6 nb nt bs cs→cs.length≤bs.length∧∀(i:Nat) (bx:Bx),cs[i]?=some bx→∃b,bs[i]?=some b∧leB nb nt b bx
 | bs,[],_=>by simp
 | b::bs,c::cs,h=>by
  have ih:=A6.get h.2
  refine⟨by simp [ih.1],fun i bx hi=>?_⟩
  cases i with
  | zero=>simp at hi;subst hi;exact⟨b,rfl,h.1⟩
  | succ i=>simpa using ih.2 i bx (by simpa using hi)
 | [],_::_,h=>h.elim

theorem Cv.eq : ∀{bs cs:List Nat},Cv bs cs→cs.length≤bs.length∧cs=bs.take cs.length
 | bs,[],_=>by simp
 | b::bs,c::cs,h=>by
  have ih:=Cv.eq h.2
  exact⟨by simp [ih.1],by simp [h.1,←ih.2]⟩
 | [],_::_,h=>h.elim

theorem Inv.weak {g:Gh} {S S':St} {w:World} (h:Inv g S w) (hs:leS S S'):Inv (trunc g S'.boxes.length S'.toks.length) S' w:=by
 obtain⟨hb,ht⟩:=hs
 obtain⟨b1,b2⟩:=hb.get
 obtain⟨t1,t2⟩:=ht.eq
 have hβ : ∀{i blk:Nat},(trunc g S'.boxes.length S'.toks.length).β[i]?=some blk→g.β[i]?=some blk∧i<S'.boxes.length:=by
  intro i blk hi
  simp only [trunc,List.getElem?_take] at hi
  split at hi
  ·exact⟨hi,by assumption⟩
  ·cases hi
 have hτ : ∀{k:Nat} {x:Option (Nat×TypeId×Nat×Nat)},(trunc g S'.boxes.length S'.toks.length).τ[k]?=some x→g.τ[k]?=some x∧k<S'.toks.length:=by
  intro k x hk
  simp only [trunc,List.getElem?_take] at hk
  split at hk
  ·exact⟨hk,by assumption⟩
  ·cases hk
 have htk : ∀{k n:Nat},S'.toks[k]?=some n→S.toks[k]?=some n:=by
  intro k n hk
  rw [t2,List.getElem?_take] at hk
  split at hk
  ·exact hk
  ·cases hk
 refine⟨h.imm,?_,?_,?_,?_,?_,?_,?_,?_,?_,h.lo,fun i blk hi=>h.bold i blk (hβ hi).1,h.lay,h.lsz⟩
 ·simp [trunc,h.len];omega
 ·intro i j blk hi hj hij
  obtain⟨hi',hil⟩:=hβ hi
  obtain⟨hj',hjl⟩:=hβ hj
  have one : ∀(k:Nat),k<S'.boxes.length→S.boxes[k]?=some .dead→S'.boxes[k]?=some .dead:=by
   intro k hk hd
   obtain⟨b0,h1,h2⟩:=b2 k S'.boxes[k] (by simp [hk])
   rw [hd] at h1
   cases h1
   have:S'.boxes[k]=.dead:=by
    generalize S'.boxes[k]=q at h2
    cases q<;>first|rfl|exact h2.elim
   simp [hk,this]
  exact (h.nodup i j blk hi' hj' hij).imp (one i hil) (one j hjl)
 ·intro i blk bx hi hbx
  obtain⟨bx0,h1,h2⟩:=b2 i bx hbx
  have h3:=h.box i blk bx0 (hβ hi).1 h1
  cases bx with
  | dead=>trivial
  | cells cs'=>
   cases bx0 with
   | cells cs=>
    obtain⟨vs,ty,e1,e2,e3⟩:=h3
    obtain⟨l1,l2⟩:=h2
    obtain⟨m1,m2⟩:=l1.get
    refine⟨vs,ty,e1,by omega,fun j hj=>?_⟩
    have:=(Kz (e3 j (by omega)) (m2 j (by omega))).trunc (Dp l2 j hj)
    rw [←t2] at this
    exact this
   | dead=>exact h2.elim
   | mp es=>exact h2.elim
   | buf e z cs=>exact h2.elim
   | itr s p=>exact h2.elim
  | mp es'=>
   cases bx0 with
   | mp es=>
    obtain⟨rfl,l1,l2⟩:=h2
    obtain⟨ms,cl,e1,e2,e3,e4,e5⟩:=h3
    refine⟨ms,cl,e1,e2,fun j hj=>?_,e4,e5⟩
    obtain⟨m,a,b,c,d⟩:=e3 j hj
    have hok1:=Dp l1 j (by simpa using hj)
    have hok:=Dp l2 j (by simpa using hj)
    have e6:(es'.map (·.2)).getD j .junk=(es'.getD j (.junk,.junk)).2:=by simp [List.getD_eq_getElem?_getD,hj]
    have e7:(es'.map (·.1)).getD j .junk=(es'.getD j (.junk,.junk)).1:=by simp [List.getD_eq_getElem?_getD,hj]
    rw [e6] at hok
    rw [e7] at hok1
    have:=c.trunc hok
    have h9:=b.trunc hok1
    rw [←t2] at this h9
    exact⟨m,a,h9,this,d⟩
   | dead=>exact h2.elim
   | cells cs=>exact h2.elim
   | buf e z cs=>exact h2.elim
   | itr s p=>exact h2.elim
  | buf e' z' cs'=>
   cases bx0 with
   | buf e z cs=>
    obtain⟨rfl,rfl,l1,l2⟩:=h2
    obtain⟨vs,e1,e2,⟨e3,e5⟩,e4⟩:=h3
    obtain⟨m1,m2⟩:=l1.get
    refine⟨vs,e1,e2,⟨by omega,fun h0=>by have:=e5 h0;omega⟩,fun j hj=>?_⟩
    have:=(Kz (e4 j (by omega)) (m2 j (by omega))).trunc (Dp l2 j hj)
    rw [←t2] at this
    exact this
   | dead=>exact h2.elim
   | cells cs=>exact h2.elim
   | mp es=>exact h2.elim
   | itr s p=>exact h2.elim
  | itr s' p'=>
   cases bx0 with
   | itr s p=>obtain⟨rfl,rfl⟩:=h2;exact h3
   | dead=>exact h2.elim
   | cells cs=>exact h2.elim
   | mp es=>exact h2.elim
   | buf e z cs=>exact h2.elim
 ·intro i blk bx hi hbx hd o
  obtain⟨bx0,h1,h2⟩:=b2 i bx hbx
  refine h.sep i blk bx0 (hβ hi).1 h1 ?_ o
  rintro rfl
  cases bx<;>first|exact hd rfl|exact h2.elim
 ·exact fun i blk hi=>h.bwr i blk (hβ hi).1
 ·simp [trunc,h.tlen];omega
 ·intro k n blk e z cap hk hn
  obtain⟨h1,h2,h3,h4⟩:=h.tok k n blk e z cap (hτ hk).1 (htk hn)
  exact⟨h1,h2,fun hm=>h3 (List.mem_of_mem_take hm),h4⟩
 ·exact fun k n hk hn=>h.tnil k n (hτ hk).1 (htk hn)
 ·exact fun k l x y hk hl hxy=>h.tdis k l x y (hτ hk).1 (hτ hl).1 hxy

def ofL (F:List (Nat×V)):Fr:=fun i=>match F.find? (fun p=>p.1==i) with|some p=>p.2|none=>.junk

def LeF (nb nt:Nat) (a:Fr):List (Nat×V)→Prop
 | []=>True
 | (i,v)::F=>(leA (a i) v∧okN nb nt v=true)∧LeF nb nt a F

theorem LeF.get {nb nt:Nat} {a:Fr} : ∀{F:List (Nat×V)},LeF nb nt a F→∀i,leA (a i) (ofL F i)∧okN nb nt (ofL F i)=true
 | [],_,i=>⟨.inl (.inr (.inl rfl)),rfl⟩
 | (k,v)::F,h,i=>by
  unfold ofL
  simp only [List.find?_cons]
  by_cases hk:k=i
  ·subst hk
   simp only [beq_self_eq_true]
   exact h.1
  ·have:(k==i)=false:=by simpa using hk
   simp only [this]
   exact LeF.get h.2 i

def Qn (nb nt:Nat) (a:Fr) (S:St) (F:List (Nat×V)) (S':St):Prop:=
 (nb≤S'.boxes.length∧nt≤S'.toks.length)∧leS S S'∧LeF S'.boxes.length S'.toks.length a F

theorem Conc.weak {N nb nt:Nat} {Df:List Deferred} {g:Gh} {a:Fr} {S:St} {act:Act} {w:World} {F:List (Nat×V)} {S':St} (hC:Conc N Df g a S act w) (h:Qn nb nt a S F S') :
  Conc N Df (trunc g S'.boxes.length S'.toks.length) (ofL F) S' act w∧Mv0 nb nt g S w (trunc g S'.boxes.length S'.toks.length) S' w:=by
 obtain⟨⟨h1,h2⟩,hs,hF⟩:=h
 obtain⟨t1,t2⟩:=hs.2.eq
 refine⟨⟨hC.inv.weak hs,hC.defers,hC.size,fun i=>?_⟩,⟨fun _ _ _ h=>h,fun i x hi hx=>?_,fun k n hk hn=>⟨n,?_,Nat.le_refl _,fun _=>?_⟩,rfl,rfl,fun _ _ _ h=>.inl h,fun _ _ _ _=>rfl,Frm.refl _ _,h1,h2⟩⟩
 ·obtain⟨a1,a2⟩:=hF.get i
  have:=(Or (hC.rel i) a1).trunc a2
  rw [←t2] at this
  exact this
 ·simp only [trunc,List.getElem?_take]
  rw [if_pos (by omega)]
  exact hx
 ·rw [t2,List.getElem?_take,if_pos (by omega)]
  exact hn
 ·simp only [trunc,List.getElem?_take]
  rw [if_pos (by omega)]

inductive GT where
 | slot (i:Nat)
 | cell (b o:Nat)

def Hp:List (GT×TypeId×Nat)→Fr→St→Option (Fr×St)
 | [],a,S=>some (a,S)
 | (.slot i,e,z)::G,a,S=>match a i with
  | .snil=>Hp G (upd a i (.own S.toks.length e z [])) ⟨S.boxes,S.toks++[0]⟩
  | _=>none
 | (.cell b o,e,z)::G,a,S=>match S.boxes[b]? with
  | some (.cells cs)=>match cs[o]? with
   | some .snil=>Hp G a ⟨S.boxes.set b (.cells (cs.set o (.own S.toks.length e z []))),S.toks++[0]⟩
   | _=>none
  | _=>none

theorem Inv.tok0 {g:Gh} {S:St} {w:World} (hI:Inv g S w):Mv g S w { g with τ:=g.τ++[none] } ⟨S.boxes,S.toks++[0]⟩ w:=by
 have hcase : ∀(k:Nat) (v:Option (Nat×TypeId×Nat×Nat)),(g.τ++[none])[k]?=some v→(g.τ[k]?=some v∧k<S.toks.length)∨(k=S.toks.length∧v=none):=by
  intro k v hk
  rcases Nat.lt_or_ge k g.τ.length with h|h
  ·rw [List.getElem?_append_left h] at hk;exact .inl ⟨hk,by rw [←hI.tlen];exact h⟩
  ·rw [List.getElem?_append_right h] at hk
   have hk0:k-g.τ.length=0:=by have:=(List.getElem?_eq_some_iff.1 hk).1;simp at this;omega
   rw [hk0] at hk
   simp at hk
   exact .inr ⟨by have:=hI.tlen;omega,hk.symm⟩
 have hext:Ext g S.toks { g with τ:=g.τ++[none] } (S.toks++[0]):=⟨fun _ _ _ h=>h,fun _ _ h=>h,fun k n hk=>by
  have hkl:=(List.getElem?_eq_some_iff.1 hk).1
  exact⟨n,by rw [List.getElem?_append_left hkl];exact hk,Nat.le_refl _,fun _=>by simp only [];rw [List.getElem?_append_left (by rw [hI.tlen];exact hkl)]⟩,rfl,rfl,fun _ _ _ h=>.inl h,fun _ _ _=>rfl⟩
 refine⟨⟨hI.imm,hI.len,hI.nodup,fun i blk bx h1 h2=>(hI.box i blk bx h1 h2).mono hext h1 rfl,hI.sep,hI.bwr,by simp [hI.tlen],?_,?_,?_,hI.lo,hI.bold,hI.lay,hI.lsz⟩,hext,Frm.refl _ _⟩
 ·intro k n blk e' z' cap' hk hn
  rcases hcase k _ hk with ⟨h1,h2⟩|⟨_,h2⟩
  ·simp only [] at hn;rw [List.getElem?_append_left h2] at hn
   exact hI.tok k n blk e' z' cap' h1 hn
  ·cases h2
 ·intro k n hk hn
  rcases hcase k _ hk with ⟨h1,h2⟩|⟨h1,_⟩
  ·simp only [] at hn;rw [List.getElem?_append_left h2] at hn
   exact hI.tnil k n h1 hn
  ·subst h1;simp at hn;exact hn.symm
 ·intro k l a b hk hl hab
  rcases hcase k _ hk with ⟨h1,_⟩|⟨_,h2⟩
  ·rcases hcase l _ hl with ⟨h3,_⟩|⟨_,h4⟩
   ·exact hI.tdis k l a b h1 h3 hab
   ·cases h4
  ·cases h2

theorem Ux {g:Gh} {S:St} {w:World} (hI:Inv g S w) (e:TypeId) (z:Nat) {u:Value} (h:RelV g S.toks .snil u):RelV { g with τ:=g.τ++[none] } (S.toks++[0]) (.own S.toks.length e z []) u:=by
 cases h
 exact .own _ e z [] _ 0 .slnil (by simp) (by simp) (Nat.le_refl _) (fun _=>.inl ⟨by rw [←hI.tlen];simp,rfl,rfl⟩)

theorem Gs {N nb nt:Nat} {Df:List Deferred} : ∀(G:List (GT×TypeId×Nat)) {g:Gh} {a a':Fr} {S S':St} {act:Act} {w:World},Hp G a S=some (a',S')→Conc N Df g a S act w→nb≤S.boxes.length→nt≤S.toks.length→
  ∃g',Conc N Df g' a' S' act w∧Mv0 nb nt g S w g' S' w
 | [],g,a,a',S,S',act,w,h,hC,hb,ht=>by
  simp [Hp] at h
  obtain⟨rfl,rfl⟩:=h
  exact⟨g,hC,Mv0.refl hb ht⟩
 | (.slot i,e,z)::G,g,a,a',S,S',act,w,h,hC,hb,ht=>by
  simp only [Hp] at h
  split at h
  ·rename_i hi
   have hm:=hC.inv.tok0
   have hC':Conc N Df { g with τ:=g.τ++[none] } (upd a i (.own S.toks.length e z [])) ⟨S.boxes,S.toks++[0]⟩ act w:=by
    refine⟨hm.inv,hC.defers,hC.size,fun j=>?_⟩
    simp only [upd]
    split
    ·rename_i hj;subst hj
     have:=hC.rel j
     rw [hi] at this
     exact Ux hC.inv e z this
    ·exact (hC.rel j).mono hm.ext
   obtain⟨g',h1,h2⟩:=Gs (nb:=nb) (nt:=nt) G h hC' hb (by simp;omega)
   exact⟨g',h1,(hm.toMv0 hC.inv hb ht).trans h2⟩
  ·cases h
 | (.cell b o,e,z)::G,g,a,a',S,S',act,w,h,hC,hb,ht=>by
  simp only [Hp] at h
  split at h
  ·rename_i cs hcs
   split at h
   ·rename_i ho
    have hm:=hC.inv.tok0
    have hI:=hm.inv
    have hbl:b<S.boxes.length:=(List.getElem?_eq_some_iff.1 hcs).1
    have hol:o<cs.length:=(List.getElem?_eq_some_iff.1 ho).1
    have hI':Inv { g with τ:=g.τ++[none] } ⟨S.boxes.set b (.cells (cs.set o (.own S.toks.length e z []))),S.toks++[0]⟩ w:=by
     refine⟨hI.imm,by have:=hI.len;simpa using this,?_,?_,?_,hI.bwr,hI.tlen,hI.tok,hI.tnil,hI.tdis,hI.lo,hI.bold,hI.lay,hI.lsz⟩
     ·intro i j blk hi hj hij
      have one : ∀(k:Nat),S.boxes[k]?=some .dead→(S.boxes.set b (.cells (cs.set o (.own S.toks.length e z []))))[k]?=some .dead:=by
       intro k hk
       by_cases hkb:k=b
       ·subst hkb;rw [hcs] at hk;cases hk
       ·rw [List.getElem?_set_ne (Ne.symm hkb)];exact hk
      exact (hI.nodup i j blk hi hj hij).imp (one i) (one j)
     ·intro i blk bx hi hbx
      by_cases hib:i=b
      ·subst hib
       simp [hbl] at hbx
       subst hbx
       obtain⟨vs,ty,h1,h2,h3⟩:=hI.box i blk (.cells cs) hi hcs
       refine⟨vs,ty,h1,by simpa using h2,fun j hj=>?_⟩
       by_cases hjo:j=o
       ·subst hjo
        obtain⟨vs2,ty2,k1,k2,k3⟩:=hC.inv.box i blk (.cells cs) hi hcs
        rw [h1] at k1
        simp only [Option.some.injEq,Obj.cells.injEq,and_true] at k1
        obtain⟨rfl,_⟩:=k1
        have:=k3 j hol
        rw [List.getD_eq_getElem?_getD,ho] at this
        have h4:(cs.set j (.own S.toks.length e z [])).getD j .junk=.own S.toks.length e z []:=by simp [List.getD_eq_getElem?_getD,hol]
        rw [h4]
        exact Ux hC.inv e z this
       ·have h4:(cs.set o (.own S.toks.length e z [])).getD j .junk=cs.getD j .junk:=by simp [List.getD_eq_getElem?_getD,List.getElem?_set_ne (Ne.symm hjo)]
        rw [h4]
        exact h3 j (by simpa using hj)
      ·rw [List.getElem?_set_ne (Ne.symm hib)] at hbx
       exact hI.box i blk bx hi hbx
     ·intro i blk bx hi hbx hd q
      by_cases hib:i=b
      ·subst hib
       exact hI.sep i blk (.cells cs) hi hcs (fun h=>by cases h) q
      ·rw [List.getElem?_set_ne (Ne.symm hib)] at hbx
       exact hI.sep i blk bx hi hbx hd q
    have hm2:Mv0 nb nt g S w { g with τ:=g.τ++[none] } ⟨S.boxes.set b (.cells (cs.set o (.own S.toks.length e z []))),S.toks++[0]⟩ w:=by
     have h0:=hm.toMv0 hC.inv hb ht
     exact⟨h0.I,h0.β,h0.τ,h0.base,h0.ent,h0.icl,h0.κ,h0.frm,by simpa using hb,h0.nt⟩
    have hC':Conc N Df { g with τ:=g.τ++[none] } a ⟨S.boxes.set b (.cells (cs.set o (.own S.toks.length e z []))),S.toks++[0]⟩ act w:=
     ⟨hI',hC.defers,hC.size,fun j=>(hC.rel j).mono hm.ext⟩
    obtain⟨g',h1,h2⟩:=Gs (nb:=nb) (nt:=nt) G h hC' (by simpa using hb) (by simp;omega)
    exact⟨g',h1,hm2.trans h2⟩
   ·cases h
  ·cases h

inductive EC where
 | skip
 | rg (ops:List EO) (dr:Bool)
 | sq (x y:EC)
 | cd (c:Opd) (x y:EC)
 | bk (id:Nat) (x:EC)
 | lp (x:EC)
 | ex (id:Nat)
 | rt
 | al (x y:EC)

def Lv (P:Program) (fl:Bool) (ops:Array Oper):List Oper→Option (List EO)
 | []=>some []
 | o::os=>match eopOf P fl ops o,Lv P fl ops os with
  | some e,some es=>some (e::es)
  | _,_=>none

def Ns:List EO→Option (List EO×EO)
 | []=>none
 | e::es=>match Ns es with
  | none=>some ([],e)
  | some (l,x)=>some (e::l,x)
theorem Lw : ∀{es l:List EO} {e:EO},Ns es=some (l,e)→es=l++[e]
 | [],l,e,h=>by simp [Ns] at h
 | x::es,l,e,h=>by
  simp only [Ns] at h
  split at h
  ·rename_i h0
   cases h
   cases es with
   | nil=>rfl
   | cons y es=>simp only [Ns] at h0;split at h0<;>cases h0
  ·rename_i l' x' h0
   cases h
   rw [Lw h0];rfl

def A3r (N:Nat) (o:Oper):Bool:=match o.dst with|some d=>d<N|none=>true

def Lx (ops:Array Oper) (es:List EO):Nat→Array Bool→OT
 | 0,_=>.dn
 | f+1,listed=>match Region.ready .any ops listed with
  | []=>.dn
  | i::r=>match (i::r).find? (Ir ops es listed) with
   | some k=>.st k (Lx ops es f (listed.setIfInBounds k true))
   | none=>(i::r).foldr (fun k acc=>.br k (Lx ops es f (listed.setIfInBounds k true)) acc) .nl
def Uy (e:Option EO) (x:EC):EC:=match e with|some e=>.sq (.rg [e] true) x|none=>.skip
def ecT (es:List EO):OT→EC
 | .dn=>.skip
 | .nl=>.skip
 | .st k t=>Uy es[k]? (ecT es t)
 | .br k t .nl=>Uy es[k]? (ecT es t)
 | .br k t r=>.al (Uy es[k]? (ecT es t)) (ecT es r)
def Ou (ops:Array Oper) (es:List EO):Option EC:=
 if Is ops es false (Lx ops es ops.size (Array.replicate ops.size false)) (Array.replicate ops.size false)&&decide ((Lx ops es ops.size (Array.replicate ops.size false)).depth≤ops.size) then
  some (ecT es (Lx ops es ops.size (Array.replicate ops.size false))) else none
def It (ops:Array Oper) (es:List EO):Nat→Array Bool→OT
 | 0,_=>.dn
 | f+1,listed=>match Region.ready .any ops listed with
  | []=>.dn
  | i::r=>match (i::r).find? (Yr ops es listed) with
   | some k=>.st k (It ops es f (listed.setIfInBounds k true))
   | none=>(i::r).foldr (fun k acc=>.br k (It ops es f (listed.setIfInBounds k true)) acc) .nl
def Ov (e:Option EO) (x:EC):EC:=match e with|some e=>.sq (.rg [e] (!isCallE e)) x|none=>.skip
def Ww (es:List EO):OT→EC
 | .dn=>.skip
 | .nl=>.skip
 | .st k t=>Ov es[k]? (Ww es t)
 | .br k t .nl=>Ov es[k]? (Ww es t)
 | .br k t r=>.al (Ov es[k]? (Ww es t)) (Ww es r)
def Ow (ops:Array Oper) (es:List EO):Option EC:=
 if F5 ops es false (It ops es ops.size (Array.replicate ops.size false)) (Array.replicate ops.size false)&&decide ((It ops es ops.size (Array.replicate ops.size false)).depth≤ops.size) then
  some (Ww es (It ops es ops.size (Array.replicate ops.size false))) else none
def D9 (P:Program) (fl wl:Bool) (N:Nat):Code→Option EC
 | .skip=>some .skip
 | .region _ ops draw=>match Lv P fl ops ops.toList with
  | some es=>
   if ops.toList.all (A3r N) then
    match draw with
    | false=>some (.rg es false)
    | true=>if wl&&es.any isCallE then Ow ops es else match Ns es with
     | some (l,e)=>if isCallE e&&Yq ops es l.length l.length 0 (Array.replicate ops.size false) then some (.sq (.rg l true) (.rg [e] false))
       else if Ts ops es ops.size 0 (Array.replicate ops.size false) then some (.rg es true) else Ou ops es
     | none=>if Ts ops es ops.size 0 (Array.replicate ops.size false) then some (.rg es true) else Ou ops es
   else none
  | none=>none
 | .seq a b=>match D9 P fl wl N a,D9 P fl wl N b with
  | some x,some y=>some (.sq x y)
  | _,_=>none
 | .cond c a b=>match opd c,D9 P fl wl N a,D9 P fl wl N b with
  | some d,some x,some y=>some (.cd d x y)
  | _,_,_=>none
 | .block id b=>match D9 P fl wl N b with
  | some x=>some (.bk id x)
  | none=>none
 | .loop b=>match D9 P fl wl N b with
  | some x=>some (.lp x)
  | none=>none
 | .exit id=>some (.ex id)
 | .ret=>some .rt
 | .scope b=>D9 P fl wl N b
 | .label _=>some .skip
 | _=>none

def Qo (v:V) (X Y:Prop):Prop:=
 match v with
 | .t (.bool b)=>if b=true then X else Y
 | _=>False

def L1 (a:Fr):Prop:=∀i es,Ps (a i)=some es→es.length≤maxLen

def Gt (id:Nat) (Q:Ex→Fr→St→Prop):Ex→Fr→St→Prop
 | .ex j,a,S=>if j=id then Q .nx a S else Q (.ex j) a S
 | e,a,S=>Q e a S

def ewp (P:Program) (nb nt:Nat):EC→(Ex→Fr→St→Prop)→Fr→St→Prop
 | .skip,Q,a,S=>Q .nx a S
 | .rg ops dr,Q,a,S=>Bq P dr ops Q a S
 | .sq x y,Q,a,S=>ewp P nb nt x (Eg (ewp P nb nt y Q) Q) a S
 | .cd c x y,Q,a,S=>Qo (opv a c) (ewp P nb nt x Q a S) (ewp P nb nt y Q a S)
 | .bk id x,Q,a,S=>ewp P nb nt x (Gt id Q) a S
 | .lp x,Q,a,S=>∃(G:List (GT×TypeId×Nat)) (X:Type) (I:X→Prop) (F:X→List (Nat×V)) (B:X→St) (μ:X→Nat) (x0:X),I x0∧(match Hp G a S with|some p=>Qn nb nt p.1 p.2 (F x0) (B x0)|none=>False)∧
   ∀z,I z→L1 (ofL (F z))→ewp P nb nt x (Eg (fun a' S'=>∃z',I z'∧μ z'<μ z∧Qn nb nt a' S' (F z') (B z')) Q) (ofL (F z)) (B z)
 | .ex id,Q,a,S=>Q (.ex id) a S
 | .rt,Q,a,S=>Q .rt a S
 | .al x y,Q,a,S=>ewp P nb nt x Q a S∧ewp P nb nt y Q a S

def ExR (g:Gh) (tk:List Nat):Ex→Exit→Prop
 | .nx,e=>e=.normal
 | .ex id,e=>e=.exit id
 | .rt,e=>e=.ret
 | .pn v,e=>∃u,e=.panic [{ v:=u,recovered:=false }]∧RelV g tk v u

def Gb (N:Nat) (Df:List Deferred) (nb nt:Nat) (g:Gh) (S:St) (w:World) (Q:Ex→Fr→St→Prop) (e:Exit) (act':Act) (w':World):Prop:=
 ∃x a' S' g',ExR g' S'.toks x e∧Q x a' S'∧Conc N Df g' a' S' act' w'∧Mv0 nb nt g S w g' S' w'

theorem Gb.trans {N nb nt:Nat} {Df:List Deferred} {g:Gh} {S:St} {w:World} {g1:Gh} {S1:St} {w1:World} {Q:Ex→Fr→St→Prop} {e:Exit} {act':Act} {w':World} (h:Mv0 nb nt g S w g1 S1 w1) (k:Gb N Df nb nt g1 S1 w1 Q e act' w'):Gb N Df nb nt g S w Q e act' w':=by
 obtain⟨x,a',S',g',h1,h2,h3,h4⟩:=k
 exact⟨x,a',S',g',h1,h2,h3,h.trans h4⟩

theorem Kb {P:Program} {fl:Bool} {ops:Array Oper} : ∀{os:List Oper} {es:List EO},Lv P fl ops os=some es→es.length=os.length∧∀(j:Nat) (o:Oper),os[j]?=some o→∃e,es[j]?=some e∧eopOf P fl ops o=some e
 | [],es,h=>by simp [Lv] at h;subst h;simp
 | o::os,es,h=>by
  simp only [Lv] at h
  split at h
  ·rename_i e es' he hes
   simp only [Option.some.injEq] at h
   subst h
   have ih:=Kb hes
   refine⟨by simp [ih.1],fun j o' hj=>?_⟩
   cases j with
   | zero=>simp at hj;subst hj;exact⟨e,rfl,he⟩
   | succ j=>simpa using ih.2 j o' (by simpa using hj)
  ·cases h

theorem Conc.bounded {N:Nat} {Df:List Deferred} {g:Gh} {a:Fr} {S:St} {act:Act} {w:World} (hC:Conc N Df g a S act w):L1 a:=by
 intro i es hi
 have hrel:=Gn (hC.rel i) hi
 generalize act.tmps.getD i undef=u at hrel
 cases hrel with
 | slnil=>simp [maxLen]
 | slz a cap hm=>simp [maxLen]
 | sl _ b off cap z c' hz hcc hm hcell hr=>omega

theorem Dr {P:Program} {nb nt:Nat} {e:Option EO} {x:EC} {Q:Ex→Fr→St→Prop} {K:Fr→St→Prop} {a:Fr} {S:St} (hx : ∀a S,ewp P nb nt x Q a S→K a S) (h:ewp P nb nt (Uy e x) Q a S):Qk P e K a S:=by
 cases e with
 | none=>trivial
 | some e=>
  have h1:eop1 P true e (fun a S=>ewp P nb nt x Q a S) a S (fun v a S=>Q (.pn v) a S):=h
  exact eop1_mono (dr:=true) (R':=fun _ _ _=>False) hx h1
theorem Cj {P:Program} {nb nt:Nat} {es:List EO} {Q:Ex→Fr→St→Prop} : ∀(t:OT) (a:Fr) (S:St),ewp P nb nt (ecT es t) Q a S→ewT P es Q t a S
 | .dn,a,S,h=>h
 | .nl,a,S,h=>trivial
 | .st k t,a,S,h=>Dr (fun a S=>Cj t a S) h
 | .br k t r,a,S,h=>by
  cases r with
  | nl=>exact⟨Dr (fun a S=>Cj t a S) h,trivial⟩
  | dn=>exact⟨Dr (fun a S=>Cj t a S) h.1,Cj .dn a S h.2⟩
  | st k' t'=>exact⟨Dr (fun a S=>Cj t a S) h.1,Cj (.st k' t') a S h.2⟩
  | br k' t' r'=>exact⟨Dr (fun a S=>Cj t a S) h.1,Cj (.br k' t' r') a S h.2⟩

theorem D2 {P:Program} {nb nt:Nat} {e:Option EO} {x:EC} {Q:Ex→Fr→St→Prop} {K:Fr→St→Prop} {a:Fr} {S:St} (hx : ∀a S,ewp P nb nt x Q a S→K a S) (h:ewp P nb nt (Ov e x) Q a S):Lu P Q e K a S:=by
 cases e with
 | none=>trivial
 | some e=>
  have h1:eop1 P (!isCallE e) e (fun a S=>ewp P nb nt x Q a S) a S (fun v a S=>Q (.pn v) a S):=h
  exact eop1_monoW hx h1
theorem C3 {P:Program} {nb nt:Nat} {es:List EO} {Q:Ex→Fr→St→Prop} : ∀(t:OT) (a:Fr) (S:St),ewp P nb nt (Ww es t) Q a S→Qm P es Q t a S
 | .dn,a,S,h=>h
 | .nl,a,S,h=>trivial
 | .st k t,a,S,h=>D2 (fun a S=>C3 t a S) h
 | .br k t r,a,S,h=>by
  cases r with
  | nl=>exact⟨D2 (fun a S=>C3 t a S) h,trivial⟩
  | dn=>exact⟨D2 (fun a S=>C3 t a S) h.1,C3 .dn a S h.2⟩
  | st k' t'=>exact⟨D2 (fun a S=>C3 t a S) h.1,C3 (.st k' t') a S h.2⟩
  | br k' t' r'=>exact⟨D2 (fun a S=>C3 t a S) h.1,C3 (.br k' t' r') a S h.2⟩
theorem Ec {P:Program} {fl wl:Bool} (hmix:P.follows .mixedOrders=true) {N nb nt:Nat} {Df:List Deferred} : ∀(code:Code) (c:EC),D9 P fl wl N code=some c→∀{Q:Ex→Fr→St→Prop} {g:Gh} {a:Fr} {S:St} {act:Act} {w:World},
  Conc N Df g a S act w→nb≤S.boxes.length→nt≤S.toks.length→ewp P nb nt c Q a S→code.wp P (Gb N Df nb nt g S w Q) act w:=by
 intro code
 induction code with
 | skip=>
  intro c hc Q g a S act w hC hb ht h
  simp [D9] at hc;subst hc
  exact wp_skip ⟨.nx,a,S,g,rfl,h,hC,Mv0.refl hb ht⟩
 | exit id=>
  intro c hc Q g a S act w hC hb ht h
  simp [D9] at hc;subst hc
  exact wp_exit ⟨.ex id,a,S,g,rfl,h,hC,Mv0.refl hb ht⟩
 | ret=>
  intro c hc Q g a S act w hC hb ht h
  simp [D9] at hc;subst hc
  exact wp_ret ⟨.rt,a,S,g,rfl,h,hC,Mv0.refl hb ht⟩
 | region id ops draw=>
  intro c hc Q g a S act w hC hb ht h
  simp only [D9] at hc
  split at hc
  ·rename_i es hes
   obtain⟨e1,e2⟩:=Kb hes
   split at hc
   ·rename_i hd
    have hdst : ∀(i:Nat) (o:Oper),ops[i]?=some o→∀k,o.dst=some k→k<N:=by
     intro i o ho k hk
     have:=List.all_eq_true.1 hd o (by simpa using Array.mem_of_getElem? ho)
     simpa [A3r,hk] using this
    have hfin : ∀act' w',Ck N Df nb nt g S w (Q .nx) act' w'→Gb N Df nb nt g S w Q .normal act' w':=by
     rintro act' w' ⟨a',S',g',h1,h2,h3⟩
     exact⟨.nx,a',S',g',rfl,h1,h2,h3⟩
    have hpan : ∀v u act' w',On N Df nb nt g S w Q v u act' w'→Gb N Df nb nt g S w Q (.panic [{ v:=u,recovered:=false }]) act' w':=by
     rintro v u act' w' ⟨a',S',g',h1,h2,h3,h4⟩
     exact⟨.pn v,a',S',g',⟨u,rfl,h2⟩,h1,h3,h4⟩
    have hpand : ∀v u act' w',On N Df nb nt g S w.drew Q v u act' w'→Gb N Df nb nt g S w Q (.panic [{ v:=u,recovered:=false }]) act' w':=by
     rintro v u act' w' ⟨a',S',g',h1,h2,h3,h4⟩
     exact⟨.pn v,a',S',g',⟨u,rfl,h2⟩,h1,h3,((Mv.drew hC.inv).toMv0 hC.inv hb ht).trans h4⟩
    have any:Ts ops es ops.size 0 (Array.replicate ops.size false)=true→Bq P true es Q a S→(Code.region id ops true).wp P (Gb N Df nb nt g S w Q) act w:=by
     intro hlex hops
     refine wp_region_any hmix ?_
     have hany:=Qj (P:=P) (ops:=ops) (es:=es) es 0 (Array.replicate ops.size false) a S (by simp) (by rw [e1];simpa using hlex) hops
     rw [e1,Array.length_toList] at hany
     refine Co (N:=N) (nb:=nb) (nt:=nt) hdst (fun i o ho=>e2 i o (by simpa using ho)) ops.size _ (w:=w.drew) ⟨hC.inv.drew,hC.defers,hC.size,hC.rel⟩ hb ht hany ?_ hpand
     rintro act' w' ⟨a',S',g',h1,h2,h3⟩
     refine⟨.nx,a',S',g',rfl,h1,h2,((Mv.drew hC.inv).toMv0 hC.inv hb ht).trans h3⟩
    have tree : ∀c,Ou ops es=some c→ewp P nb nt c Q a S→(Code.region id ops true).wp P (Gb N Df nb nt g S w Q) act w:=by
     intro c hc hw
     unfold Ou at hc
     split at hc
     ·rename_i hok
      simp only [Bool.and_eq_true,decide_eq_true_eq] at hok
      simp only [Option.some.injEq] at hc
      subst hc
      refine wp_region_any hmix ?_
      have hany:=(H8 (P:=P) (ops:=ops) (es:=es) (Q:=Q) _ (Array.replicate ops.size false) a S ops.size hok.2).1 hok.1 (Cj _ a S hw)
      refine Co (N:=N) (nb:=nb) (nt:=nt) hdst (fun i o ho=>e2 i o (by simpa using ho)) ops.size _ (w:=w.drew) ⟨hC.inv.drew,hC.defers,hC.size,hC.rel⟩ hb ht hany ?_ hpand
      rintro act' w' ⟨a',S',g',h1,h2,h3⟩
      refine⟨.nx,a',S',g',rfl,h1,h2,((Mv.drew hC.inv).toMv0 hC.inv hb ht).trans h3⟩
     ·cases hc
    have treeW : ∀c,Ow ops es=some c→ewp P nb nt c Q a S→(Code.region id ops true).wp P (Gb N Df nb nt g S w Q) act w:=by
     intro c hc hw
     unfold Ow at hc
     split at hc
     ·rename_i hok
      simp only [Bool.and_eq_true,decide_eq_true_eq] at hok
      simp only [Option.some.injEq] at hc
      subst hc
      refine wp_region_any hmix ?_
      have hany:=(G0 (P:=P) (ops:=ops) (es:=es) (Q:=Q) _ (Array.replicate ops.size false) a S ops.size hok.2).1 hok.1 (C3 _ a S hw)
      refine Co (N:=N) (nb:=nb) (nt:=nt) hdst (fun i o ho=>e2 i o (by simpa using ho)) ops.size _ (w:=w.drew) ⟨hC.inv.drew,hC.defers,hC.size,hC.rel⟩ hb ht hany ?_ hpand
      rintro act' w' ⟨a',S',g',h1,h2,h3⟩
      refine⟨.nx,a',S',g',rfl,h1,h2,((Mv.drew hC.inv).toMv0 hC.inv hb ht).trans h3⟩
     ·cases hc
    split at hc
    ·simp only [Option.some.injEq] at hc
     subst hc
     have hops:Bq P false es Q a S:=h
     refine wp_region ?_
     rw [List.range_eq_range']
     refine Nn (fl:=fl) hdst ops.size 0 es (by simp) (by simpa using e1) (fun j hj=>?_) hC hb ht hops hfin hpan
     obtain⟨e,h1,h2⟩:=e2 j ops[j] (by simp [hj])
     exact⟨ops[j],e,by simp [hj],h1,h2⟩
    ·split at hc
     ·exact treeW c hc h
     split at hc
     ·rename_i l e hl
      split at hc
      ·rename_i hcl
       simp only [Option.some.injEq] at hc
       subst hc
       have hes':=Lw hl
       simp only [Bool.and_eq_true] at hcl
       have hops:Bq P true l (Eg (Bq P false [e] Q) Q) a S:=h
       refine wp_region_any hmix ?_
       have hany:=Nr (P:=P) (ops:=ops) (es:=es) (el:=e) l 0 (Array.replicate ops.size false) a S (by simp) (fun j=>by rw [hes'];simp) hcl.2 hops
       have hsz:l.length+1=ops.size:=by
        have:=congrArg List.length hes'
        rw [e1] at this
        simpa using this.symm
       rw [hsz] at hany
       refine Co (N:=N) (nb:=nb) (nt:=nt) hdst (fun i o ho=>e2 i o (by simpa using ho)) ops.size _ (w:=w.drew) ⟨hC.inv.drew,hC.defers,hC.size,hC.rel⟩ hb ht hany ?_ hpand
       rintro act' w' ⟨a',S',g',h1,h2,h3⟩
       refine⟨.nx,a',S',g',rfl,h1,h2,((Mv.drew hC.inv).toMv0 hC.inv hb ht).trans h3⟩
      ·split at hc
       ·rename_i hlex
        simp only [Option.some.injEq] at hc
        subst hc
        exact any hlex h
       ·exact tree c hc h
     ·split at hc
      ·rename_i hlex
       simp only [Option.some.injEq] at hc
       subst hc
       exact any hlex h
      ·exact tree c hc h
   ·cases hc
  ·cases hc
 | seq x y ihx ihy=>
  intro c hc Q g a S act w hC hb ht h
  simp only [D9] at hc
  split at hc
  ·rename_i cx cy hx hy
   simp only [Option.some.injEq] at hc
   subst hc
   refine wp_seq (wp_mono (ihx cx hx hC hb ht h) ?_)
   rintro e act' w' ⟨q,a',S',g',hx,h2,h3,h4⟩
   cases q with
   | nx=>subst hx;exact wp_mono (ihy cy hy h3 h4.nb h4.nt h2) fun e act'' w'' h5=>Gb.trans h4 h5
   | ex id=>subst hx;exact⟨.ex id,a',S',g',rfl,h2,h3,h4⟩
   | rt=>subst hx;exact⟨.rt,a',S',g',rfl,h2,h3,h4⟩
   | pn v=>obtain⟨u,rfl,hu⟩:=hx;exact⟨.pn v,a',S',g',⟨u,rfl,hu⟩,h2,h3,h4⟩
  ·cases hc
 | cond cnd x y ihx ihy=>
  intro c hc Q g a S act w hC hb ht h
  simp only [D9] at hc
  split at hc
  ·rename_i d cx cy hd hx hy
   simp only [Option.some.injEq] at hc
   subst hc
   have hrel:=Uw hC hd
   simp only [ewp,Qo] at h
   split at h
   ·rename_i b hb'
    rw [hb'] at hrel
    have hev:act.eval cnd=.bool b:=by
     generalize act.eval cnd=u at hrel
     cases hrel with
     | t _ _ hh=>cases hh;rfl
    refine wp_cond hev ?_
    cases b
    ·simp at h ⊢;exact ihy cy hy hC hb ht h
    ·simp at h ⊢;exact ihx cx hx hC hb ht h
   ·exact h.elim
  ·cases hc
 | block id b ih=>
  intro c hc Q g a S act w hC hb ht h
  simp only [D9] at hc
  split at hc
  ·rename_i cb hcb
   simp only [Option.some.injEq] at hc
   subst hc
   refine wp_block (wp_mono (ih cb hcb hC hb ht h) ?_)
   rintro e act' w' ⟨q,a',S',g',hx,h2,h3,h4⟩
   cases q with
   | nx=>subst hx;exact⟨.nx,a',S',g',rfl,h2,h3,h4⟩
   | pn v=>obtain⟨u,rfl,hu⟩:=hx;exact⟨.pn v,a',S',g',⟨u,rfl,hu⟩,h2,h3,h4⟩
   | ex j=>
    subst hx
    simp only [Gt] at h2
    simp only [Exit.inBlock]
    split at h2
    ·rename_i hj;rw [if_pos hj];exact⟨.nx,a',S',g',rfl,h2,h3,h4⟩
    ·rename_i hj;rw [if_neg hj];exact⟨.ex j,a',S',g',rfl,h2,h3,h4⟩
   | rt=>subst hx;exact⟨.rt,a',S',g',rfl,h2,h3,h4⟩
  ·cases hc
 | loop b ih=>
  intro c hc Q g a S act w hC hb ht h
  simp only [D9] at hc
  split at hc
  ·rename_i cb hcb
   simp only [Option.some.injEq] at hc
   subst hc
   obtain⟨G,X,I,F,B,μ,x0,hI0,hW0,hround⟩:=h
   split at hW0
   case h_2=>exact hW0.elim
   rename_i pp hpp
   obtain⟨gG,hCG,hmG⟩:=Gs (nb:=nb) (nt:=nt) G hpp hC hb ht
   obtain⟨c0,m0'⟩:=hCG.weak hW0
   have m0:=hmG.trans m0'
   refine wp_loop_ghost (fun n act' w'=>∃z g',μ z=n∧I z∧Conc N Df g' (ofL (F z)) (B z) act' w'∧Mv0 nb nt g S w g' (B z) w') (μ x0) ⟨x0,_,rfl,hI0,c0,m0⟩ ?_
   rintro n act' w' ⟨z,g',rfl,hIz,hCz,hmz⟩
   refine wp_mono (ih cb hcb hCz hmz.nb hmz.nt (hround z hIz hCz.bounded)) ?_
   rintro e act'' w'' ⟨q,a'',S'',g'',hx,h2,h3,h4⟩
   cases q with
   | pn v=>obtain⟨u,rfl,hu⟩:=hx;exact⟨.pn v,a'',S'',g'',⟨u,rfl,hu⟩,h2,h3,hmz.trans h4⟩
   | nx=>
    subst hx
    obtain⟨z',hI',hμ,hW⟩:=h2
    obtain⟨c1,m1⟩:=h3.weak hW
    exact⟨μ z',hμ,z',_,rfl,hI',c1,hmz.trans (h4.trans m1)⟩
   | ex id=>subst hx;exact⟨.ex id,a'',S'',g'',rfl,h2,h3,hmz.trans h4⟩
   | rt=>subst hx;exact⟨.rt,a'',S'',g'',rfl,h2,h3,hmz.trans h4⟩
  ·cases hc
 | rangeFunc f ps as b iha ihb=>intro c hc;simp [D9] at hc
 | scope b ih=>
  intro c hc Q g a S act w hC hb ht h
  simp only [D9] at hc
  refine wp_scope_straight (wp_mono (ih c hc hC hb ht h) ?_)
  rintro e act' w' ⟨q,a',S',g',hx,h2,h3,h4⟩
  cases q with
  | pn v=>obtain⟨u,rfl,hu⟩:=hx;exact⟨.pn v,a',S',g',⟨u,rfl,hu⟩,h2,h3,h4⟩
  | nx=>subst hx;exact⟨.nx,a',S',g',rfl,h2,h3,h4⟩
  | ex id=>subst hx;exact⟨.ex id,a',S',g',rfl,h2,h3,h4⟩
  | rt=>subst hx;exact⟨.rt,a',S',g',rfl,h2,h3,h4⟩
 | label l=>
  intro c hc Q g a S act w hC hb ht h
  simp [D9] at hc;subst hc
  exact wp_label ⟨.nx,a,S,g,rfl,h,hC,Mv0.refl hb ht⟩
 | goto l=>intro c hc;simp [D9] at hc
 | refuse why=>intro c hc;simp [D9] at hc

end E
end Go.Proofs.YtmlpmdccfmmpoaaGreatDoor
end

/- The engine: what lies in boxes that grow becomes a tree when a function hands it back. -/
section
set_option linter.unusedSimpArgs false
set_option linter.unusedVariables false
namespace Go.Proofs.YtmlpmdccfmmpoaaGreatDoor
namespace E

mutual
def Bs:V→St→V×St
 | .bw b n,S=>match S.boxes[b]? with
  | some (.buf _ z cs)=>match Ef z 0 n cs with
   | some es=>(.t (.sl es),{ S with boxes:=S.boxes.set b .dead })
   | none=>(.bw b n,S)
  | _=>(.bw b n,S)
 | .agg vs,S=>(.agg (frzVs vs S).1,(frzVs vs S).2)
 | .tup vs,S=>(.tup (frzVs vs S).1,(frzVs vs S).2)
 | v,S=>(v,S)
def frzVs:List V→St→List V×St
 | [],S=>([],S)
 | v::vs,S=>((Bs v S).1::(frzVs vs (Bs v S).2).1,(frzVs vs (Bs v S).2).2)
end

theorem Inv.freeze {g:Gh} {S:St} {w:World} (h:Inv g S w) {b n blk cap z:Nat} {e:TypeId} {cs:List V} {es:List (List T)} (hβ:g.β[b]?=some blk) (hb:S.boxes[b]?=some (.buf e z cs)) (hes:Ef z 0 n cs=some es)
  (hn:n≤cap) (hm:cap≤maxLen) : ∃g',RelV g' S.toks (.t (.sl es)) (.slice (some ⟨blk,0,none⟩) n cap)∧Mv g S w g' { S with boxes:=S.boxes.set b .dead } w:=by
 obtain⟨vs,h1,h2,h3,h4⟩:=h.box b blk _ hβ hb
 have hsep:=h.sep b blk _ hβ hb (fun h=>by cases h)
 simp only [Ef,List.drop_zero] at hes
 cases hts:Bu (cs.take (n*z)) with
 | none=>simp [hts] at hes
 | some ts=>
 simp only [hts,Option.bind_some,F0] at hes
 split at hes
 ·rename_i hlen
  simp only [Option.some.injEq] at hes
  obtain⟨t1,t2⟩:=Ch hts
  have hle:n*z≤cs.length:=by rw [t1] at hlen;simp at hlen;omega
  have hk:=h.kill b
  have hcell : ∀j,j<n*z→RelT g.I (ts.getD j .nilp) (vs.getD j undef):=by
   intro j hj
   refine Ik (h4 j (by omega)) ?_
   rw [←t2 j (by simp;omega)]
   simp [List.getD_eq_getElem?_getD,List.getElem?_take,hj]
  let g':Gh:={ g with I:=fun b o=>if b=blk∧o<n*z then vs[o]? else g.I b o }
  have hIold : ∀b o c,g.I b o=some c→g'.I b o=some c:=by
   intro b' o c hc
   show (if b'=blk∧o<n*z then vs[o]? else g.I b' o)=some c
   rw [if_neg]
   ·exact hc
   ·rintro ⟨rfl,_⟩;rw [hsep o] at hc;cases hc
  have hext:Ext g S.toks g' S.toks:=by
   refine⟨hIold,fun _ _ h=>h,fun _ n h=>⟨n,h,Nat.le_refl _,fun _=>rfl⟩,rfl,rfl,fun b' o c hc=>?_,fun _ _ _=>rfl⟩
   have hc':(if b'=blk∧o<n*z then vs[o]? else g.I b' o)=some c:=hc
   split at hc'
   ·rename_i hcond
    rw [hcond.1]
    rcases h.bwr b blk hβ with hw|hw
    ·exact .inr (.inl hw)
    ·exact .inr (.inr hw)
   ·exact .inl hc'
  have hbl:b<S.boxes.length:=(List.getElem?_eq_some_iff.1 hb).1
  refine⟨g',.t _ _ ?_,⟨⟨?_,hk.inv.len,hk.inv.nodup,?_,?_,hk.inv.bwr,hk.inv.tlen,?_,hk.inv.tnil,hk.inv.tdis,hk.inv.lo,hk.inv.bold,fun b o c hc=>hext.I _ _ _ (h.lay b o c hc),hk.inv.lsz⟩,hext,Frm.refl _ _⟩⟩
  ·have hel:es.length=n:=by rw [←hes];simp
   have hget : ∀i j,i<n→j<z→(es.getD i []).getD j .nilp=ts.getD (i*z+j) .nilp∧i*z+j<n*z:=by
    intro i j hi hj
    have hlt:i*z+j<n*z:=by
     have:(i+1)*z≤n*z:=Nat.mul_le_mul_right _ hi
     rw [Nat.add_mul] at this;omega
    refine⟨?_,hlt⟩
    rw [←hes]
    simp [List.getD_eq_getElem?_getD,hi,List.getElem?_take,hj]
   have hrel:RelT g'.I (.sl es) (.slice (some ⟨blk,0,none⟩) es.length cap):=by
    refine .sl es blk 0 cap z (fun i j=>vs.getD (i*z+j) undef) (fun i hi=>?_) (by omega) hm (fun i j hi hj=>?_) (fun i j hi hj=>?_)
    ·have hin:i<n:=by omega
     have hlz:z≤ts.length-i*z:=by
      have:(i+1)*z≤n*z:=Nat.mul_le_mul_right _ hin
      rw [Nat.add_mul] at this;omega
     rw [←hes]
     simp [List.getD_eq_getElem?_getD,hin]
     omega
    ·obtain⟨_,e2⟩:=hget i j (by omega) hj
     show (if blk=blk∧0+i*z+j<n*z then vs[0+i*z+j]? else g.I blk (0+i*z+j))=_
     rw [Nat.zero_add,if_pos ⟨rfl,e2⟩]
     have:i*z+j<vs.size:=by omega
     simp [this]
    ·obtain⟨e1,e2⟩:=hget i j (by omega) hj
     rw [e1]
     exact (hcell _ e2).mono hIold
   rw [hel] at hrel
   exact hrel
  ·intro b' o c hc
   have hc':(if b'=blk∧o<n*z then vs[o]? else g.I b' o)=some c:=hc
   split at hc'
   ·rename_i hcond
    rw [hcond.1,cell_of_row w blk o vs e _ h1]
    exact hc'
   ·exact h.imm b' o c hc'
  ·intro i k bx hi hbx
   have hbx':=hk.inv.box i k bx hi hbx
   exact hbx'.mono hext hi rfl
  ·intro i k bx hi hbx hd o
   show (if k=blk∧o<n*z then vs[o]? else g.I k o)=none
   have h5:=hk.inv.sep i k bx hi hbx hd o
   rw [if_neg]
   ·exact h5
   ·rintro ⟨rfl,_⟩
    by_cases hib:i=b
    ·subst hib;simp [hbl] at hbx;exact hd hbx.symm
    ·rcases h.nodup i b k hi hβ hib with h6|h6
     ·simp only [] at hbx
      rw [List.getElem?_set_ne (Ne.symm hib),h6] at hbx
      cases hbx;exact hd rfl
     ·rw [hb] at h6;cases h6
  ·intro k m blk' e' z' cap' hkk hmm
   obtain⟨u1,u2,u3,u4⟩:=hk.inv.tok k m blk' e' z' cap' hkk hmm
   refine⟨u1,fun o ho=>?_,u3,u4⟩
   show (if blk'=blk∧o<n*z then vs[o]? else g.I blk' o)=none
   rw [if_neg]
   ·exact u2 o ho
   ·rintro ⟨rfl,_⟩;exact u3 (List.mem_of_getElem? hβ)
 ·cases hes

mutual
theorem Ly : ∀(v:V) {g:Gh} {S:St} {w:World} {u:Value},Inv g S w→RelV g S.toks v u→(Bs v S).2.toks=S.toks∧(Bs v S).2.boxes.length=S.boxes.length∧∃g',Mv g S w g' (Bs v S).2 w∧RelV g' S.toks (Bs v S).1 u
 | .bw b n,g,S,w,u,hI,hv=>by
  simp only [Bs]
  split
  ·rename_i e z cs hb
   split
   ·rename_i es hes
    cases hv with
    | bw _ _ blk cap hβ hc hk hm=>
    obtain⟨g',h1,h2⟩:=hI.freeze hβ hb hes hc hm
    exact⟨rfl,by simp,g',h2,h1⟩
   ·exact⟨rfl,rfl,g,Mv.refl hI,hv⟩
  ·exact⟨rfl,rfl,g,Mv.refl hI,hv⟩
 | .agg vs,g,S,w,u,hI,hv=>by
  cases hv with
  | agg _ us hl hr=>
  obtain⟨h1,h0,g',h2,h3,h4⟩:=frzVs_sound vs (fun j=>us.getD j undef) hI hr
  exact⟨by simpa [Bs] using h1,by simpa [Bs] using h0,g',by simpa [Bs] using h2,by simpa [Bs] using RelV.agg _ us (by rw [hl,h3]) (by rw [h3];exact h4)⟩
 | .tup vs,g,S,w,u,hI,hv=>by
  cases hv with
  | tup _ us hl hr=>
  obtain⟨h1,h0,g',h2,h3,h4⟩:=frzVs_sound vs (fun j=>us.getD j undef) hI hr
  exact⟨by simpa [Bs] using h1,by simpa [Bs] using h0,g',by simpa [Bs] using h2,by simpa [Bs] using RelV.tup _ us (by rw [hl,h3]) (by rw [h3];exact h4)⟩
 | .t x,g,S,w,u,hI,hv=>⟨rfl,rfl,g,Mv.refl hI,hv⟩
 | .und,g,S,w,u,hI,hv=>⟨rfl,rfl,g,Mv.refl hI,hv⟩
 | .junk,g,S,w,u,hI,hv=>⟨rfl,rfl,g,Mv.refl hI,hv⟩
 | .snil,g,S,w,u,hI,hv=>⟨rfl,rfl,g,Mv.refl hI,hv⟩
 | .full es,g,S,w,u,hI,hv=>⟨rfl,rfl,g,Mv.refl hI,hv⟩
 | .own k e z es,g,S,w,u,hI,hv=>⟨rfl,rfl,g,Mv.refl hI,hv⟩
 | .ptr b o,g,S,w,u,hI,hv=>⟨rfl,rfl,g,Mv.refl hI,hv⟩
 | .tp e o,g,S,w,u,hI,hv=>⟨rfl,rfl,g,Mv.refl hI,hv⟩
 | .fn f c,g,S,w,u,hI,hv=>⟨rfl,rfl,g,Mv.refl hI,hv⟩
 | .mp b,g,S,w,u,hI,hv=>⟨rfl,rfl,g,Mv.refl hI,hv⟩
 | .vw b o n,g,S,w,u,hI,hv=>⟨rfl,rfl,g,Mv.refl hI,hv⟩
theorem frzVs_sound : ∀(vs:List V) (us:Nat→Value) {g:Gh} {S:St} {w:World},Inv g S w→(∀j,j<vs.length→RelV g S.toks (vs.getD j .junk) (us j))→
  (frzVs vs S).2.toks=S.toks∧(frzVs vs S).2.boxes.length=S.boxes.length∧∃g',Mv g S w g' (frzVs vs S).2 w∧(frzVs vs S).1.length=vs.length∧∀j,j<vs.length→RelV g' S.toks ((frzVs vs S).1.getD j .junk) (us j)
 | [],us,g,S,w,hI,hv=>⟨rfl,rfl,g,Mv.refl hI,rfl,fun j hj=>by simp at hj⟩
 | v::vs,us,g,S,w,hI,hv=>by
  obtain⟨h1,h0,g1,h2,h3⟩:=Ly v hI (by simpa using hv 0 (by simp))
  obtain⟨k1,k0,g2,k2,k3,k4⟩:=frzVs_sound vs (fun j=>us (j+1)) h2.inv (fun j hj=>by
   have:=(hv (j+1) (by simpa using hj)).mono h2.ext
   rw [h1] at this ⊢
   simpa using this)
  refine⟨by simpa [frzVs,h1] using k1,by simpa [frzVs,h0] using k0,g2,by simpa [frzVs] using h2.trans k2,by simp [frzVs,k3],fun j hj=>?_⟩
  cases j with
  | zero=>
   have:=(h1▸h3:RelV g1 (Bs v S).2.toks (Bs v S).1 (us 0)).mono k2.ext
   rw [k1,h1] at this
   simpa [frzVs] using this
  | succ j=>
   have:=k4 j (by simpa using hj)
   rw [h1] at this
   simpa [frzVs] using this
end

end E
end Go.Proofs.YtmlpmdccfmmpoaaGreatDoor
end

/- The engine, part 17: contracts of functions out of their code; pure contracts. -/
section
set_option linter.unusedSimpArgs false
set_option linter.unusedVariables false
namespace Go.Proofs.YtmlpmdccfmmpoaaGreatDoor
namespace E

inductive RV where
 | tm (t:Nat)
 | ce (t n:Nat) (a:Bool)

def A1j (P:Program):ResultVar→Option RV
 | .tmp t=>some (.tm t)
 | .cell t ty=>match shapeOf P ty with
  | some (n,a)=>some (.ce t n a)
  | none=>none

def Gc (P:Program):List ResultVar→Option (List RV)
 | []=>some []
 | r::rs=>match A1j P r,Gc P rs with
  | some x,some xs=>some (x::xs)
  | _,_=>none

def rvV (a:Fr) (S:St):RV→Option V
 | .tm t=>some (a t)
 | .ce t n ag=>match a t with
  | .ptr b o=>match S.boxes[b]?.bind B5 with
   | some cs=>if o+n≤cs.length then some (ldv ag n (cs.drop o)) else none
   | none=>none
  | _=>none

def Qp (a:Fr) (S:St):List RV→Option (List V)
 | []=>some []
 | r::rs=>match rvV a S r,Qp a S rs with
  | some x,some xs=>some (x::xs)
  | _,_=>none

def Kc:List V→V
 | [v]=>v
 | vs=>.tup vs

def I2 (rvs:List RV) (nb nt:Nat) (r:V) (S':St) (e:Ex) (a:Fr) (S1:St):Prop:=
 (match e with | .ex _=>False | .pn _=>False|_=>True)∧(nb≤S'.boxes.length∧nt≤S'.toks.length)∧
 match Qp a S1 rvs with
 | some vs=>leS (Bs (Kc vs) S1).2 S'∧leV (Bs (Kc vs) S1).1 r∧okN S'.boxes.length S'.toks.length r=true
 | none=>False

def Ys (nb nt:Nat) (r:V) (S':St) (e:Ex) (S1:St):Prop:=
 match e with
 | .pn v=>(nb≤S'.boxes.length∧nt≤S'.toks.length)∧leS S1 S'∧leV v r∧okN S'.boxes.length S'.toks.length r=true
 | _=>False

def fr0 (vs:List V):Fr:=fun i=>vs.getD i .und

def Uz (tmps:Array Value):ResultVar→Sem Value
 | .tmp t=>pure (tmps.getD t undef)
 | .cell t ty=>do loadVar ty (←asAddr (tmps.getD t undef))

theorem Lz (fn:Func) (tmps:Array Value):results fn tmps=(do let vs ←fn.results.mapM (Uz tmps);pure (if h:vs.size=1 then vs[0] else .tuple vs)):=by
 unfold results
 congr 1

theorem A48 {P:Program} {N:Nat} {Df:List Deferred} {g:Gh} {a:Fr} {S:St} {act:Act} {w:World} (hC:Conc N Df g a S act w) {rv:ResultVar} {r:RV} (hr:A1j P rv=some r) {v:V} (hv:rvV a S r=some v) :
  ∃u,(Uz act.tmps rv).run P w=.ok u w∧RelV g S.toks v u:=by
 cases rv with
 | tmp t=>
  simp [A1j] at hr;subst hr
  simp [rvV] at hv;subst hv
  exact⟨_,rfl,hC.rel t⟩
 | cell t ty=>
  simp only [A1j] at hr
  split at hr
  ·rename_i n ag hs
   simp only [Option.some.injEq] at hr
   subst hr
   obtain⟨i,d,hi,hd,hn,ha,hor⟩:=Ax hs
   simp only [rvV] at hv
   split at hv
   ·rename_i b o hb
    split at hv
    ·rename_i cs hcs
     split at hv
     ·rename_i hle
      simp only [Option.some.injEq] at hv
      subst hv
      have hrel:=hC.rel t
      rw [hb] at hrel
      generalize hq:act.tmps.getD t undef=u at hrel
      cases hrel with
      | ptr _ _ blk hβ=>
      have hu:(asAddr (act.tmps.getD t undef)).run P w=.ok ⟨blk,o,none⟩ w:=by rw [hq];rfl
      obtain⟨bx,hbx,hcx,vs,ty',hh,hsz,hr⟩:=Fk hC.inv hβ hcs
      have hcell : ∀j,j<n→w.cell? ⟨blk,o+j,none⟩=some (vs.getD (o+j) undef):=by
       intro j hj
       rw [cell_of_row w blk (o+j) vs ty' _ hh]
       have:o+j<vs.size:=by omega
       simp [this]
      refine⟨_,?_,Il hor (by simp;omega) (f:=fun j=>vs.getD (o+j) undef) (fun j hj=>?_)⟩
      ·show ((asAddr (act.tmps.getD t undef)) >>= fun a=>loadVar ty a).run P w=_
       rw [Sem.run_bind,hu]
       show (loadVar ty ⟨blk,o,none⟩).run P w=_
       exact Gq hs blk o (fun j=>vs.getD (o+j) undef) hcell
      ·have:=hr (o+j) (by omega)
       simpa [List.getD_eq_getElem?_getD,List.getElem?_drop] using this
     ·cases hv
    ·cases hv
   ·cases hv
  ·cases hr

theorem V0 {P:Program} {N:Nat} {Df:List Deferred} {g:Gh} {a:Fr} {S:St} {act:Act} {w:World} (hC:Conc N Df g a S act w) : ∀{rvs:List ResultVar} {rs:List RV} {vs:List V},Gc P rvs=some rs→Qp a S rs=some vs→
  ∃us:List Value,(rvs.mapM (Uz act.tmps)).run P w=.ok us w∧us.length=vs.length∧∀j,j<vs.length→RelV g S.toks (vs.getD j .junk) (us.getD j undef)
 | [],rs,vs,hr,hv=>by
  simp [Gc] at hr;subst hr
  simp [Qp] at hv;subst hv
  exact⟨[],by simp,rfl,by simp⟩
 | rv::rvs,rs,vs,hr,hv=>by
  simp only [Gc] at hr
  split at hr
  ·rename_i x xs hx hxs
   simp only [Option.some.injEq] at hr
   subst hr
   simp only [Qp] at hv
   split at hv
   ·rename_i y ys hy hys
    simp only [Option.some.injEq] at hv
    subst hv
    obtain⟨u,h1,h2⟩:=A48 (P:=P) hC hx hy
    obtain⟨us,h3,h4,h5⟩:=V0 (P:=P) hC hxs hys
    refine⟨u::us,?_,by simp [h4],fun j hj=>?_⟩
    ·rw [List.mapM_cons]
     simp only [Sem.run_bind,h1,Result.andThen_ok,h3,Sem.run_pure]
    ·cases j with
     | zero=>simpa using h2
     | succ j=>simpa using h5 j (by simpa using hj)
   ·cases hv
  ·cases hr

theorem Kd {P:Program} {N:Nat} {Df:List Deferred} {g:Gh} {a:Fr} {S:St} {act:Act} {w:World} (hC:Conc N Df g a S act w) {fn:Func} {rs:List RV} {vs:List V} (hr:Gc P fn.results.toList=some rs) (hv:Qp a S rs=some vs) :
  ∃u,(results fn act.tmps).run P w=.ok u w∧RelV g S.toks (Kc vs) u:=by
 obtain⟨us,h1,h2,h3⟩:=V0 (P:=P) hC hr hv
 have hm:(fn.results.mapM (Uz act.tmps)).run P w=.ok us.toArray w:=by
  rw [Array.mapM_eq_mapM_toList,Sem.run_map,h1]
  rfl
 by_cases h:us.length=1
 ·obtain⟨u,rfl⟩ : ∃u,us=[u]:=by
   match us,h with
   | [u],_=>exact⟨u,rfl⟩
  obtain⟨v,rfl⟩ : ∃v,vs=[v]:=by
   match vs,h2 with
   | [v],_=>exact⟨v,rfl⟩
  refine⟨u,?_,by simpa [Kc] using h3 0 (by simp)⟩
  rw [Lz]
  simp only [Sem.run_bind]
  rw [hm]
  simp
 ·refine⟨.tuple us.toArray,?_,?_⟩
  ·rw [Lz]
   simp only [Sem.run_bind]
   rw [hm]
   simp [h]
  ·have:Kc vs=.tup vs:=by
    match vs,h2 with
    | [],_=>rfl
    | [v],h2=>exact absurd h2 h
    | _::_::_,_=>rfl
   rw [this]
   exact .tup _ _ (by simpa using h2) (fun j hj=>by simpa using h3 j hj)

theorem Conc.start {fn:Func} {g:Gh} {S:St} {w:World} {us:Array Value} {vs:List V} (hI:Inv g S w) (hus:us.size=vs.length) (hrel : ∀j,j<vs.length→RelV g S.toks (vs.getD j .und) (us.getD j undef)) (hlen:vs.length≤fn.ntmps) :
  Conc fn.ntmps [] g (fr0 vs) S { tmps:=us++Array.replicate (fn.ntmps-us.size) undef,defers:=[] } w:=by
 refine⟨hI,rfl,by simp;omega,fun i=>?_⟩
 simp only [fr0]
 rcases Nat.lt_or_ge i us.size with hi|hi
 ·have:=hrel i (by omega)
  simp only [Array.getD_eq_getD_getElem?] at this ⊢
  rw [Array.getElem?_append_left hi]
  exact this
 ·have h1:vs.getD i .und=.und:=by simp [List.getD_eq_getElem?_getD,List.getElem?_eq_none (by omega:vs.length≤i)]
  have h2:(us++Array.replicate (fn.ntmps-us.size) undef).getD i undef=undef:=by
   simp only [Array.getD_eq_getD_getElem?]
   rw [Array.getElem?_append_right hi]
   by_cases hh:i-us.size<fn.ntmps-us.size
   ·simp [hh]
   ·simp [hh]
  rw [h1,h2]
  exact .und

theorem Mv0.mv {g:Gh} {S S1 S':St} {w w':World} {g1:Gh} (hI:Inv g S w) (hm:Mv0 S.boxes.length S.toks.length g S w g1 S1 w') (hI1:Inv g1 S1 w') (hle:leS S1 S') (hcnt:S.boxes.length≤S'.boxes.length∧S.toks.length≤S'.toks.length):Mv g S w (trunc g1 S'.boxes.length S'.toks.length) S' w':=by
 refine⟨hI1.weak hle,⟨hm.I,fun i z hz=>?_,fun k n hk=>?_,hm.base,hm.ent,hm.icl,fun i x hx=>hm.κ i x (by rw [←hI.len];exact (List.getElem?_eq_some_iff.1 hx).1) hx⟩,hm.frm⟩
 ·have hi:i<S.boxes.length:=by rw [←hI.len];exact (List.getElem?_eq_some_iff.1 hz).1
  simp only [trunc,List.getElem?_take]
  rw [if_pos (by omega)]
  exact hm.β i z hi hz
 ·have hk':k<S.toks.length:=(List.getElem?_eq_some_iff.1 hk).1
  obtain⟨n',h1,h2,h3⟩:=hm.τ k n hk' hk
  refine⟨n',?_,h2,fun he=>?_⟩
  ·rw [hle.2.eq.2,List.getElem?_take,if_pos (by omega)];exact h1
  ·simp only [trunc,List.getElem?_take];rw [if_pos (by omega)];exact h3 he

theorem L2 {P:Program} {fn:Func} {rs:List RV} {g g0:Gh} {S S1 S':St} {w w':World} {a':Fr} {act':Act} {N:Nat} {Df:List Deferred} {x:Ex} {r:V} (hI:Inv g S w) (hr:Gc P fn.results.toList=some rs)
  (hfinK:I2 rs S.boxes.length S.toks.length r S' x a' S1) (hC':Conc N Df g0 a' S1 act' w') (hm0:Mv0 S.boxes.length S.toks.length g S w g0 S1 w') :
  ∃v,(results fn act'.tmps).run P w'=.ok v w'∧∃u g',Ending.returned v=.returned u∧RelV g' S'.toks r u∧Mv g S w g' S' w':=by
 obtain⟨hx,hcnt,hfin⟩:=hfinK
 split at hfin
 ·rename_i rvals hrv
  obtain⟨hle,hl,hok⟩:=hfin
  obtain⟨u,hu,hur0⟩:=Kd (P:=P) (fn:=fn) hC' hr hrv
  obtain⟨htk,hbl,g',hm1,hur⟩:=Ly (Kc rvals) hC'.inv hur0
  have hm:=hm0.trans (hm1.toMv0 hC'.inv hm0.nb hm0.nt)
  refine⟨u,hu,u,trunc g' S'.boxes.length S'.toks.length,rfl,?_,hm.mv hI hm1.inv hle hcnt⟩
  rw [←htk] at hur
  have:=(Ot hur hl).trunc hok
  rw [←hle.2.eq.2] at this
  exact this
 ·exact hfin.elim

theorem A1k {g g0:Gh} {S S1 S':St} {w w':World} {a':Fr} {act':Act} {N:Nat} {Df:List Deferred} {v r:V} {u:Value} (hI:Inv g S w) (hu:RelV g0 S1.toks v u)
  (hfin:Ys S.boxes.length S.toks.length r S' (.pn v) S1) (hC':Conc N Df g0 a' S1 act' w') (hm0:Mv0 S.boxes.length S.toks.length g S w g0 S1 w') :
  ∃g',RelV g' S'.toks r u∧Mv g S w g' S' w':=by
 obtain⟨hcnt,hle,hl,hok⟩:=hfin
 refine⟨trunc g0 S'.boxes.length S'.toks.length,?_,hm0.mv hI hC'.inv hle hcnt⟩
 have:=(Ot hu hl).trunc hok
 rw [←hle.2.eq.2] at this
 exact this

theorem FnS.of_ewp {P:Program} {fl wl:Bool} (hmix:P.follows .mixedOrders=true) {f:Nat} {fn:Func} {code:Code} {c:EC} {rs:List RV} {vs:List V} {S S':St} {r:V} (hE:B4 P f) (hf:P.funcs[f]?=some fn) (hb:fn.body=some code)
  {N:Nat} (hN:fn.ntmps=N) (hc:D9 P fl wl N code=some c) (hr:Gc P fn.results.toList=some rs) (hlen:vs.length≤N)
  (h:ewp P S.boxes.length S.toks.length c (I2 rs S.boxes.length S.toks.length r S') (fr0 vs) S):FnS P f vs S r S':=by
 refine⟨hE,fun g w us hI hus hrel=>?_⟩
 subst hN
 refine calls_of_wp hf hb ?_
 refine wp_mono (Ec hmix code c hc (Conc.start hI hus hrel hlen) (Nat.le_refl _) (Nat.le_refl _) h) ?_
 rintro e act' w' ⟨x,a',S1,g0,hex,hfin,hC',hm0⟩
 have hres:=L2 (P:=P) (fn:=fn) hI hr hfin hC' hm0
 cases x with
 | nx=>subst hex;exact⟨hC'.defers,hres⟩
 | rt=>subst hex;exact⟨hC'.defers,hres⟩
 | ex id=>exact hfin.1.elim
 | pn v=>exact hfin.1.elim

theorem FnP.of_ewp {P:Program} {fl wl:Bool} (hmix:P.follows .mixedOrders=true) {f:Nat} {fn:Func} {code:Code} {c:EC} {vs:List V} {S S':St} {r:V} (hE:B4 P f) (hf:P.funcs[f]?=some fn) (hb:fn.body=some code)
  {N:Nat} (hN:fn.ntmps=N) (hc:D9 P fl wl N code=some c) (hlen:vs.length≤N)
  (h:ewp P S.boxes.length S.toks.length c (fun e _ S1=>Ys S.boxes.length S.toks.length r S' e S1) (fr0 vs) S):FnP P f vs S r S':=by
 refine⟨hE,fun g w us hI hus hrel=>?_⟩
 subst hN
 refine calls_of_wp hf hb ?_
 refine wp_mono (Ec hmix code c hc (Conc.start hI hus hrel hlen) (Nat.le_refl _) (Nat.le_refl _) h) ?_
 rintro e act' w' ⟨x,a',S1,g0,hex,hfin,hC',hm0⟩
 cases x with
 | nx=>exact hfin.elim
 | rt=>exact hfin.elim
 | ex id=>exact hfin.elim
 | pn v=>
  obtain⟨u,rfl,hu⟩:=hex
  obtain⟨g',h1,h2⟩:=A1k hI hu hfin hC' hm0
  exact⟨hC'.defers,u,g',rfl,h1,h2⟩

mutual
def era:V→V
 | .t x=>.t x
 | .und=>.und
 | .junk=>.junk
 | .snil=>.t (.sl [])
 | .full es=>.t (.sl es)
 | .own _ _ _ es=>.t (.sl es)
 | .ptr _ _=>.junk
 | .tp e o=>.tp e o
 | .mp _=>.junk
 | .vw _ _ _=>.junk
 | .bw _ _=>.junk
 | .fn f caps=>.fn f (eras caps)
 | .agg cs=>.agg (eras cs)
 | .tup cs=>.tup (eras cs)
def eras:List V→List V
 | []=>[]
 | v::vs=>era v::eras vs
end

theorem Iu (vs:List V):eras vs=vs.map era:=by
 induction vs with
 | nil=>rfl
 | cons v vs ih=>simp [eras,ih]

theorem A1 (l:List T):eras (l.map V.t)=l.map V.t:=by
 induction l with
 | nil=>rfl
 | cons x l ih=>simp [eras,era,ih]

def bare (g:Gh) (n:Nat):Gh:={ I:=g.I,β:=[],τ:=[],base:=n,ent:=[],κ:=g.κ }

theorem RelV.era {g:Gh} {tk:List Nat} {n:Nat} {v:V} {u:Value} (h:RelV g tk v u):RelV (bare g n) [] (E.era v) u:=by
 induction h with
 | t x v h=>exact .t x v h
 | und=>exact .und
 | junk v=>exact .junk v
 | snil=>exact .t _ _ .slnil
 | full es a h=>exact .t _ _ h
 | own k e z es v n h hz hn hle hg=>exact .t _ _ h
 | ptr b o blk h=>exact .junk _
 | tp e o blk off c hI hr=>exact .tp e o blk off c hI hr
 | fn f caps vs hl hr ih=>
  simp only [E.era,Iu]
  refine .fn f _ vs (by simpa using hl) (fun j hj=>?_)
  have hj':j<caps.length:=by simpa using hj
  have:=ih j hj'
  simpa [List.getD_eq_getElem?_getD,hj'] using this
 | agg cs vs hl hr ih=>
  simp only [E.era,Iu]
  refine .agg _ vs (by simpa using hl) (fun j hj=>?_)
  have hj':j<cs.length:=by simpa using hj
  have:=ih j hj'
  simpa [List.getD_eq_getElem?_getD,hj'] using this
 | tup cs vs hl hr ih=>
  simp only [E.era,Iu]
  refine .tup _ vs (by simpa using hl) (fun j hj=>?_)
  have hj':j<cs.length:=by simpa using hj
  have:=ih j hj'
  simpa [List.getD_eq_getElem?_getD,hj'] using this
 | mp b blk h=>exact .junk _
 | vw b o n blk cap h hc hm=>exact .junk _
 | bw b n blk cap h hc hk hm=>exact .junk _

theorem RelV.mono' {g g':Gh} {tk tk':List Nat} (hI:g'.I=g.I) (hβ : ∀(i x:Nat),g.β[i]?=some x→g'.β[i]?=some x) (hτ : ∀(k n:Nat),tk[k]?=some n→tk'[k]?=some n∧g'.τ[k]?=g.τ[k]?) (hκ : ∀(i x:Nat),g.β[i]?=some x→g'.κ x=g.κ x) {x:V} {v:Value} (h:RelV g tk x v):RelV g' tk' x v:=by
 have h0:RelV { g' with base:=g.base,ent:=g.ent } tk' x v:=h.mono (g':={ g' with base:=g.base,ent:=g.ent }) ⟨fun b o c hc=>by rw [hI];exact hc,hβ,fun k n hk=>⟨n,(hτ k n hk).1,Nat.le_refl _,fun _=>(hτ k n hk).2⟩,rfl,rfl,fun b o c hc=>.inl (by simp only [hI] at hc;exact hc),hκ⟩
 clear h
 induction h0 with
 | t x v h=>exact .t x v h
 | und=>exact .und
 | junk v=>exact .junk v
 | snil=>exact .snil
 | full es a h=>exact .full es a h
 | own k e z es v n h hz hn hle hg=>exact .own k e z es v n h hz hn hle hg
 | ptr b o blk h=>exact .ptr b o blk h
 | tp e o blk off c hI hr=>exact .tp e o blk off c hI hr
 | fn f caps vs hl hr ih=>exact .fn f caps vs hl ih
 | agg cs vs hl hr ih=>exact .agg cs vs hl ih
 | tup cs vs hl hr ih=>exact .tup cs vs hl ih
 | mp b blk h=>exact .mp b blk h
 | vw b o n blk cap h hc hm=>exact .vw b o n blk cap h hc hm
 | bw b n blk cap h hc hk hm=>exact .bw b n blk cap h hc hk hm

def St0:St:=⟨[],[]⟩

def A8 (P:Program) (f:Nat) (vs:List V) (r:V):Prop:=FnS P f vs St0 r St0

theorem Nt {P:Program} {f:Nat} {vs:List V} {r:V} {S:St} {E:Value→Ending} (h : ∀(g:Gh) (w:World) (us:Array Value),Inv g St0 w→us.size=(eras vs).length→(∀j,j<(eras vs).length→RelV g St0.toks ((eras vs).getD j .und) (us.getD j undef))→
  Calls P f us w fun e w'=>∃u g',e=E u∧RelV g' St0.toks r u∧Mv g St0 w g' St0 w') : ∀(g:Gh) (w:World) (us:Array Value),Inv g S w→us.size=vs.length→(∀j,j<vs.length→RelV g S.toks (vs.getD j .und) (us.getD j undef))→
  Calls P f us w fun e w'=>∃u g',e=E u∧RelV g' S.toks r u∧Mv g S w g' S w':=by
 intro g w us hI hus hrel
 have hI0:Inv (bare g w.heap.size) St0 w:=
  ⟨hI.imm,rfl,fun i j blk hi=>by simp [bare] at hi,fun i blk bx hi=>by simp [bare] at hi,fun i blk bx hi=>by simp [bare] at hi,fun i blk hi=>by simp [bare] at hi,rfl,fun k n blk e z cap hk=>by simp [bare] at hk,fun k n hk=>by simp [bare] at hk,fun k l x y hk=>by simp [bare] at hk,
   Nat.le_refl _,fun i blk hi=>by simp [bare] at hi,hI.lay,hI.lsz⟩
 refine (h (bare g w.heap.size) w us hI0 (by rw [Iu];simpa using hus) (fun j hj=>?_)).mono fun e w' he=>?_
 ·rw [Iu] at hj ⊢
  have hj':j<vs.length:=by simpa using hj
  have:=(hrel j hj').era (n:=w.heap.size)
  simpa [List.getD_eq_getElem?_getD,hj',St0] using this
 ·obtain⟨u,g',rfl,hr,hm⟩:=he
  have hblk : ∀k,k<w.heap.size→w'.heap[k]?=w.heap[k]?:=fun k hk=>hm.frm.block k hk (by simp [bare])
  have hI' : ∀{b o:Nat} {c:Value},g'.I b o=some c→g.I b o=some c∨w.heap.size≤b:=by
   intro b o c hc
   rcases hm.ext.icl b o c hc with h1|h1|h1
   ·exact .inl h1
   ·exact .inr h1
   ·simp [bare] at h1
  have hold : ∀{b:Nat},b<w.heap.size→∀o,g.I b o=none→g'.I b o=none:=by
   intro b hb o hn
   cases hc:g'.I b o with
   | none=>rfl
   | some c=>
    rcases hI' hc with h1|h1
    ·rw [hn] at h1;cases h1
    ·omega
  have hext:Ext g S.toks { g with I:=g'.I } S.toks:=by
   refine⟨hm.ext.I,fun _ _ h=>h,fun k n hk=>⟨n,hk,Nat.le_refl _,fun _=>rfl⟩,rfl,rfl,fun b o c hc=>?_,fun _ _ _=>rfl⟩
   rcases hI' hc with h1|h1
   ·exact .inl h1
   ·right;left;have:=hI.lo;omega
  refine⟨u,{ g with I:=g'.I },rfl,?_,⟨hm.inv.imm,hI.len,hI.nodup,fun i blk bx hi hbx=>?_,fun i blk bx hi hbx hd o=>?_,hI.bwr,hI.tlen,fun k n blk e z cap hk hn=>?_,hI.tnil,hI.tdis,Nat.le_trans hI.lo hm.frm.size,fun i blk hi=>Nat.lt_of_lt_of_le (hI.bold i blk hi) hm.frm.size,hm.inv.lay,hm.inv.lsz⟩,hext,
   ⟨hm.frm.os,hm.frm.tape,hm.frm.output,hm.frm.size,fun k hk _=>hblk k (Nat.lt_of_lt_of_le hk hI.lo)⟩⟩
  ·have h1:g'.β.length=0:=hm.inv.len
   have h2:g'.β=[]:=List.eq_nil_of_length_eq_zero h1
   have h3 : ∀(q:Gh),q.I=g'.I→RelV q S.toks r u:=fun q hq=>RelV.mono' (g:=g') (g':=q) (tk:=St0.toks) (tk':=S.toks) hq (fun i x hx=>by rw [h2] at hx;simp at hx) (fun k n hk=>by simp [St0] at hk) (fun i x hx=>by rw [h2] at hx;simp at hx) hr
   exact h3 _ rfl
  ·exact (hI.box i blk bx hi hbx).mono hext hi (hblk blk (hI.bold i blk hi))
  ·exact hold (hI.bold i blk hi) o (hI.sep i blk bx hi hbx hd o)
  ·obtain⟨h1,h3,h4,h5,hlt⟩:=hI.tok k n blk e z cap hk hn
   exact⟨h1.imp id fun ⟨cur,a,r⟩=>⟨cur,by rw [hblk blk hlt];exact a,r⟩,fun o ho=>hold hlt o (h3 o ho),h4,h5,Nat.lt_of_lt_of_le hlt hm.frm.size⟩

theorem A8.call {P:Program} {f:Nat} {vs:List V} {r:V} (h:A8 P f (eras vs) r) (S:St):FnS P f vs S r S:=
 ⟨h.1,Nt (E:=fun u=>.returned u) h.2⟩

def V1 (P:Program) (f:Nat) (vs:List V) (v:V):Prop:=FnP P f vs St0 v St0
theorem V1.call {P:Program} {f:Nat} {vs:List V} {r:V} (h:V1 P f (eras vs) r) (S:St):FnP P f vs S r S:=by
 refine⟨h.1,fun g w us hI hus hrel=>?_⟩
 have key:=Nt (P:=P) (f:=f) (vs:=vs) (r:=r) (S:=S) (E:=fun u=>.panicked [{ v:=u,recovered:=false }]) h.2
 exact key g w us hI hus hrel

def ecG (fl wl:Bool) (P:Program) (f:Nat):Option (Nat×EC×List RV):=
 match P.funcs[f]? with
 | some fn=>match fn.body with
  | some code=>match D9 P fl wl fn.ntmps code,Gc P fn.results.toList with
   | some c,some rs=>some (fn.ntmps,c,rs)
   | _,_=>none
  | none=>none
 | none=>none

def ecF (P:Program) (f:Nat):Option (Nat×EC×List RV):=ecG false false P f
def ecB (P:Program) (f:Nat):Option (Nat×EC×List RV):=ecG true false P f
theorem FnS.of_bd {P:Program} {f:Nat} {vs:List V} {S S':St} {r:V} (hE:B4 P f) (h:bdVs vs→FnS P f vs S r S'):FnS P f vs S r S':=by
 refine⟨hE,fun g w us hI hus hrel=>?_⟩
 exact (h (H7 fun j hj=>by
  have:=(hrel j hj).bd
  simpa [List.getD_eq_getElem?_getD,hj] using this)).2 g w us hI hus hrel

theorem FnP.of_bd {P:Program} {f:Nat} {vs:List V} {S S':St} {r:V} (hE:B4 P f) (h:bdVs vs→FnP P f vs S r S'):FnP P f vs S r S':=by
 refine⟨hE,fun g w us hI hus hrel=>?_⟩
 exact (h (H7 fun j hj=>by
  have:=(hrel j hj).bd
  simpa [List.getD_eq_getElem?_getD,hj] using this)).2 g w us hI hus hrel
theorem FnP.of_code {P:Program} (hmix:P.follows .mixedOrders=true) {f N:Nat} {c:EC} {rs:List RV} {vs:List V} {S S':St} {r:V} (hE:B4 P f) (hc:ecF P f=some (N,c,rs)) (hlen:vs.length≤N)
  (h:bdVs vs→ewp P S.boxes.length S.toks.length c (fun e _ S1=>Ys S.boxes.length S.toks.length r S' e S1) (fr0 vs) S):FnP P f vs S r S':=FnP.of_bd hE fun hbd=>by
 unfold ecF ecG at hc
 split at hc
 ·rename_i fn hf
  split at hc
  ·rename_i code hb
   split at hc
   ·rename_i c' rs' h1 h2
    simp only [Option.some.injEq,Prod.mk.injEq] at hc
    obtain⟨rfl,rfl,rfl⟩:=hc
    exact FnP.of_ewp hmix hE hf hb rfl h1 hlen (h hbd)
   ·cases hc
  ·cases hc
 ·cases hc
theorem V1.of_code {P:Program} (hmix:P.follows .mixedOrders=true) {f N:Nat} {c:EC} {rs:List RV} {vs:List V} {r:V} (hE:B4 P f) (hc:ecF P f=some (N,c,rs)) (hlen:vs.length≤N)
  (h:bdVs vs→ewp P 0 0 c (fun e _ S1=>Ys 0 0 r St0 e S1) (fr0 vs) St0):V1 P f vs r:=FnP.of_code hmix hE hc hlen h

theorem FnS.of_codeG {P:Program} (hmix:P.follows .mixedOrders=true) {f N:Nat} {c:EC} {rs:List RV} {vs:List V} {S S':St} {r:V} {fl wl:Bool} (hE:B4 P f) (hc:ecG fl wl P f=some (N,c,rs)) (hlen:vs.length≤N)
  (h:ewp P S.boxes.length S.toks.length c (I2 rs S.boxes.length S.toks.length r S') (fr0 vs) S):FnS P f vs S r S':=by
 unfold ecG at hc
 split at hc
 ·rename_i fn hf
  split at hc
  ·rename_i code hb
   split at hc
   ·rename_i c' rs' h1 h2
    simp only [Option.some.injEq,Prod.mk.injEq] at hc
    obtain⟨rfl,rfl,rfl⟩:=hc
    exact FnS.of_ewp hmix hE hf hb rfl h1 h2 hlen h
   ·cases hc
  ·cases hc
 ·cases hc

theorem FnS.of_code {P:Program} (hmix:P.follows .mixedOrders=true) {f N:Nat} {c:EC} {rs:List RV} {vs:List V} {S S':St} {r:V} (hE:B4 P f) (hc:ecF P f=some (N,c,rs)) (hlen:vs.length≤N)
  (h:bdVs vs→ewp P S.boxes.length S.toks.length c (I2 rs S.boxes.length S.toks.length r S') (fr0 vs) S):FnS P f vs S r S':=FnS.of_bd hE fun hb=>FnS.of_codeG hmix hE hc hlen (h hb)
theorem FnS.of_codeB {P:Program} (hmix:P.follows .mixedOrders=true) {f N:Nat} {c:EC} {rs:List RV} {vs:List V} {S S':St} {r:V} (hE:B4 P f) (hc:ecB P f=some (N,c,rs)) (hlen:vs.length≤N)
  (h:bdVs vs→ewp P S.boxes.length S.toks.length c (I2 rs S.boxes.length S.toks.length r S') (fr0 vs) S):FnS P f vs S r S':=FnS.of_bd hE fun hb=>FnS.of_codeG hmix hE hc hlen (h hb)

theorem A8.of_codeB {P:Program} (hmix:P.follows .mixedOrders=true) {f N:Nat} {c:EC} {rs:List RV} {vs:List V} {r:V} (hE:B4 P f) (hc:ecB P f=some (N,c,rs)) (hlen:vs.length≤N)
  (h:bdVs vs→ewp P 0 0 c (I2 rs 0 0 r St0) (fr0 vs) St0):A8 P f vs r:=FnS.of_codeB hmix hE hc hlen h
theorem A8.of_code {P:Program} (hmix:P.follows .mixedOrders=true) {f N:Nat} {c:EC} {rs:List RV} {vs:List V} {r:V} (hE:B4 P f) (hc:ecF P f=some (N,c,rs)) (hlen:vs.length≤N)
  (h:bdVs vs→ewp P 0 0 c (I2 rs 0 0 r St0) (fr0 vs) St0):A8 P f vs r:=FnS.of_code hmix hE hc hlen h

end E
end Go.Proofs.YtmlpmdccfmmpoaaGreatDoor
end

/- The engine, part 18: the rules by which simp evaluates. -/
section
set_option linter.unusedSimpArgs false
set_option linter.unusedVariables false
namespace Go.Proofs.YtmlpmdccfmmpoaaGreatDoor
namespace E

attribute [simp] Pv Pw Lk Ll Ii T3 Yh T4 T5 Px K5 A6r Ys
attribute [simp] opK Af Sp Ih Gl Ht Sr Ss Su Sv Sw Vy Vz W0 unK Sx Sy Sz Lh Li Lj Ks Ef F0 T1 K4 K3 K2 mmK mmI Oj Oi T2 Ho Pu W2 W1 A45 A46 Ez Gk eqK loI opv Br cellsV cellB isAggV okV toT Bu Ps ldv C2 Lf eqC
def Am (s:List UInt8) (j:Int):Int:=((s.getD j.toNat 0).toNat:Int)
@[simp] theorem A6t {s:List UInt8} {ik:IntKind} {j:Int} {S:St} {K:V→St→Prop} :
  Pt (.t (.str s)) (.t (.int ik j)) S K=((0≤j∧j<s.length)∧K (.t (.int .u8 (Am s j))) S):=by rw [Pt,Am]
attribute [simp] bdT bdC bdV bdVs
attribute [simp] Bs frzVs
@[simp] theorem A6c (l:List T) (S:St):frzVs (l.map V.t) S=(l.map V.t,S):=by
 induction l with
 | nil=>rfl
 | cons x l ih=>simp [frzVs,Bs,ih]
attribute [simp] I2 leS Qn rvV Qp Kc leC.refl leA.refl leV.refl okN okNs Dq era eras A1 A6 leB Cv LeF LeL St0


namespace Z
abbrev t (n:Nat):Opd:=.tmp n
abbrev i (n:Int):Opd:=.c (.t (.int .i64 n))
abbrev b (x:Bool):Opd:=.c (.t (.bool x))
abbrev c (v:V):Opd:=.c v
abbrev m (d x:Nat):EO:=⟨some d,none,.mv,[.tmp x]⟩
abbrev o (d:Nat) (k:EK) (xs:List Opd):EO:=⟨some d,none,k,xs⟩
abbrev u (k:EK) (xs:List Opd):EO:=⟨none,none,k,xs⟩
abbrev y (d g:Nat) (k:EK) (xs:List Opd):EO:=⟨some d,some (g,true),k,xs⟩
abbrev n (d g:Nat) (k:EK) (xs:List Opd):EO:=⟨some d,some (g,false),k,xs⟩
end Z

@[simp] theorem A6u {K Q a S} : Eg K Q .nx a S=K a S:=rfl
@[simp] theorem A6v {K Q i a S} : Eg K Q (.ex i) a S=Q (.ex i) a S:=rfl
@[simp] theorem A6w {K Q a S} : Eg K Q .rt a S=Q .rt a S:=rfl
@[simp] theorem A6x {K Q v a S} : Eg K Q (.pn v) a S=Q (.pn v) a S:=rfl
@[simp] theorem A6d {i Q v a S} : Gt i Q (.pn v) a S=Q (.pn v) a S:=rfl
@[simp] theorem A6e {i Q a S} : Gt i Q .nx a S=Q .nx a S:=rfl
@[simp] theorem A6f {i j Q a S} : Gt i Q (.ex j) a S=if j=i then Q .nx a S else Q (.ex j) a S:=rfl
@[simp] theorem A6g {i Q a S} : Gt i Q .rt a S=Q .rt a S:=rfl

structure NxtI where
 f:(P:Program)→(dr:Bool)→(es:List EO)→(Q:Ex→Fr→St→Prop)→(a:Fr)→(d:Option Nat)→V→St→Prop
 h : ∀P dr es Q a d v S,f P dr es Q a d v S=Bq P dr es Q (Br a d v) S
instance:Inhabited NxtI:=⟨⟨fun P dr es Q a d v S=>Bq P dr es Q (Br a d v) S,fun _ _ _ _ _ _ _ _=>rfl⟩⟩
noncomputable def nxtI:NxtI:=Classical.choice ⟨default⟩
def pnx (Q:Ex→Fr→St→Prop) (a:Fr):V→St→Prop:=fun v S=>Q (.pn v) a S
@[simp] theorem A6h {Q:Ex→Fr→St→Prop} {a:Fr} {v:V} {S:St} : pnx Q a v S=Q (.pn v) a S:=rfl
def nxt (P:Program) (dr:Bool) (es:List EO) (Q:Ex→Fr→St→Prop) (a:Fr) (d:Option Nat):V→St→Prop:=nxtI.f P dr es Q a d
def gdK (v:V) (w:Bool) (P:Program) (dr:Bool) (d:Option Nat) (k:EK) (xs:List Opd) (es:List EO) (Q:Ex→Fr→St→Prop) (a:Fr) (S:St):Prop:=
 match v with
 | .t (.bool b)=>if b=w then opK P dr k (xs.map (opv a)) S (nxt P dr es Q a d) (pnx Q a) else nxt P dr es Q a d .und S
 | .und=>nxt P dr es Q a d .und S
 | _=>False
def cdK (v:V) (P:Program) (nb nt:Nat) (x y:EC) (Q:Ex→Fr→St→Prop) (a:Fr) (S:St):Prop:=Qo v (ewp P nb nt x Q a S) (ewp P nb nt y Q a S)

section
variable {P:Program} {dr:Bool} {d:Option Nat} {k:EK} {xs:List Opd} {es:List EO} {Q:Ex→Fr→St→Prop} {a:Fr} {S:St}
@[simp] theorem Wx {v:V} : nxt P dr es Q a d v S=Bq P dr es Q (Br a d v) S:=nxtI.h _ _ _ _ _ _ _ _
theorem Yt:nxt P dr es Q a d=fun v S=>Bq P dr es Q (Br a d v) S:=by funext v S;exact Wx
@[simp] theorem A49:Bq P dr [] Q a S=Q .nx a S:=rfl
@[simp] theorem A3s:Bq P dr (⟨d,none,k,xs⟩::es) Q a S=opK P dr k (xs.map (opv a)) S (nxt P dr es Q a d) (pnx Q a):=by rw [Yt];rfl
@[simp] theorem A3t {t:Nat} {w:Bool} : Bq P dr (⟨d,some (t,w),k,xs⟩::es) Q a S=gdK (a t) w P dr d k xs es Q a S:=by rw [gdK.eq_def,Yt];rfl
@[simp] theorem A7z:gdK (.t (.bool true)) true P dr d k xs es Q a S=opK P dr k (xs.map (opv a)) S (nxt P dr es Q a d) (pnx Q a):=by simp [gdK]
@[simp] theorem A80:gdK (.t (.bool false)) false P dr d k xs es Q a S=opK P dr k (xs.map (opv a)) S (nxt P dr es Q a d) (pnx Q a):=by simp [gdK]
@[simp] theorem A81:gdK (.t (.bool true)) false P dr d k xs es Q a S=Bq P dr es Q (Br a d .und) S:=by simp [gdK]
@[simp] theorem A82:gdK (.t (.bool false)) true P dr d k xs es Q a S=Bq P dr es Q (Br a d .und) S:=by simp [gdK]
@[simp] theorem A7t {w:Bool} : gdK .und w P dr d k xs es Q a S=Bq P dr es Q (Br a d .und) S:=by simp [gdK]
end
section
variable {P:Program} {nb nt:Nat} {x y:EC} {Q:Ex→Fr→St→Prop} {a:Fr} {S:St}
@[simp] theorem A83 (c:Opd):ewp P nb nt (.cd c x y) Q a S=cdK (opv a c) P nb nt x y Q a S:=rfl
@[simp] theorem A6y:cdK (.t (.bool true)) P nb nt x y Q a S=ewp P nb nt x Q a S:=by simp [cdK,Qo]
@[simp] theorem A6i:cdK (.t (.bool false)) P nb nt x y Q a S=ewp P nb nt y Q a S:=by simp [cdK,Qo]
end
@[simp] theorem A4a {a b:V} {S:St} {K:V→St→Prop} : Fj (.t (.bool true)) a b S K=K a S:=by simp [Fj]
@[simp] theorem A3u {a b:V} {S:St} {K:V→St→Prop} : Fj (.t (.bool false)) a b S K=K b S:=by simp [Fj]

def Yu (x:Option (List T)) (y:Option (List (List T))):Option (List (List T)):=
 match x,y with
 | some x,some y=>some (x::y)
 | _,_=>none
@[simp] theorem A4b (x:List T) (y:List (List T)):Yu (some x) (some y)=some (x::y):=rfl
def E7:List V→Option (List (List T))
 | []=>some []
 | v::vs=>Yu (Bu (cellsV v)) (E7 vs)
attribute [simp] E7
theorem M0 (vs:List V):vs.mapM (fun v=>Bu (cellsV v))=E7 vs:=by
 induction vs with
 | nil=>rfl
 | cons v vs ih=>
  rw [List.mapM_cons,ih,E7]
  cases h:Bu (cellsV v) with
  | none=>rfl
  | some x=>cases h2:E7 vs with
   | none=>rfl
   | some y=>rfl
def A4c (sz:Nat) (es:Option (List (List T))) (S:St) (K:V→St→Prop):Prop:=
 match es with
 | some es=>(es.all fun e=>e.length==sz)=true∧K (.full es) S
 | none=>False
@[simp] theorem A6j {sz:Nat} {es:List (List T)} {S:St} {K:V→St→Prop} : A4c sz (some es) S K=((es.all fun e=>e.length==sz)=true∧K (.full es) S):=rfl
def V2 (e:TypeId) (sz:Nat) (vs:List V) (es:Option (List (List T))) (S:St) (K:V→St→Prop):Prop:=
 match es with
 | some es=>(es.all fun e=>e.length==sz)=true∧K (.full es) S
 | none=>(∀v∈vs,(cellsV v).length=sz∧(isAggV v=true∨cellB v=true))∧K (.bw S.boxes.length vs.length) { S with boxes:=S.boxes++[.buf e sz (vs.flatMap cellsV)] }
@[simp] theorem A4d {e:TypeId} {sz:Nat} {vs:List V} {es:List (List T)} {S:St} {K:V→St→Prop} : V2 e sz vs (some es) S K=((es.all fun e=>e.length==sz)=true∧K (.full es) S):=rfl
@[simp] theorem A4e {e:TypeId} {sz:Nat} {vs:List V} {S:St} {K:V→St→Prop} : V2 e sz vs none S K=((∀v∈vs,(cellsV v).length=sz∧(isAggV v=true∨cellB v=true))∧K (.bw S.boxes.length vs.length) { S with boxes:=S.boxes++[.buf e sz (vs.flatMap cellsV)] }):=rfl
@[simp] theorem A6z {e:TypeId} {sz:Nat} {vs:List V} {S:St} {K:V→St→Prop} : Ij e sz vs S K=V2 e sz vs (E7 vs) S K:=by
 rw [Ij,M0]
 cases h:E7 vs with
 | none=>rfl
 | some es=>simp [V2]
@[simp] theorem A4f {x:Option (List T)} {y:Option (List (List T))} (h:x=none):Yu x y=none:=by subst h;rfl
@[simp] theorem A7u {sz:Nat} {vs:List V} {S:St} {K:V→St→Prop} : Kt sz vs S K=A4c sz (E7 vs) S K:=by
 rw [Kt,M0]
 cases h:E7 vs with
 | none=>rfl
 | some es=>simp [A4c]

section
variable {P:Program} {nb nt:Nat} {Q:Ex→Fr→St→Prop} {a:Fr} {S:St}
@[simp] theorem A70:ewp P nb nt .skip Q a S=Q .nx a S:=rfl
@[simp] theorem A84 (ops:List EO) (dr:Bool):ewp P nb nt (.rg ops dr) Q a S=Bq P dr ops Q a S:=rfl
@[simp] theorem A85 (x y:EC):ewp P nb nt (.sq x y) Q a S=ewp P nb nt x (Eg (ewp P nb nt y Q) Q) a S:=rfl
@[simp] theorem A86 (id:Nat) (x:EC):ewp P nb nt (.bk id x) Q a S=ewp P nb nt x (Gt id Q) a S:=rfl
@[simp] theorem A87 (id:Nat):ewp P nb nt (.ex id) Q a S=Q (.ex id) a S:=rfl
@[simp] theorem A88:ewp P nb nt .rt Q a S=Q .rt a S:=rfl

theorem A0 {dr:Bool} {f:Nat} {vs:List V} {K R:V→St→Prop} {r:V} (h:A8 P f (eras vs) r) (k:K r S):Fl P dr f vs S K R:=.inl ⟨r,S,h.call S,fun _=>⟨rfl,fun B=>h.call _⟩,fun _=>k⟩
theorem L3 {dr:Bool} {f:Nat} {vs vs':List V} {K R:V→St→Prop} {r:V} (h:A8 P f vs' r) (e:eras vs=vs') (k:K r S):Fl P dr f vs S K R:=A0 (by rw [e];exact h) k
theorem Qq {dr:Bool} {f:Nat} {vs:List V} {K R:V→St→Prop} {r:V} {S':St} (h:FnS P f vs S r S') (hd:dr=true→S'=S∧∀B,FnS P f vs (S.add B) r (S.add B)) (k:K r S'):Fl P dr f vs S K R:=.inl ⟨r,S',h,hd,fun _=>k⟩
theorem Ab {f:Nat} {vs:List V} {K R:V→St→Prop} {r:V} {S S':St} (h:FnS P f vs S r S') (k:K r S'):Fl P false f vs S K R:=Qq h (fun hd=>by cases hd) k
theorem Be {f:Nat} {vs:List V} {K R:V→St→Prop} {v:V} {S':St} (h:FnP P f vs S v S') (k:R v S'):Fl P false f vs S K R:=.inr ⟨rfl,.inl ⟨v,S',h,k⟩⟩
theorem Ke {f:Nat} {vs:List V} {K R:V→St→Prop} {S:St} {Φ:V→St→Prop} (h:FnE P f vs S Φ) (k : ∀r S',Φ r S'→K r S'):Fl P false f vs S K R:=.inr ⟨rfl,.inr ⟨Φ,h,fun r S' q _=>k r S' q⟩⟩
end

@[simp] theorem A7v (a:Fr) (d:Nat) (v:V) (i:Nat):upd a d v i=if i=d then v else a i:=rfl
@[simp] theorem A7w (vs:List V) (i:Nat):fr0 vs i=vs.getD i .und:=rfl
@[simp] theorem A71 (k:Nat) (v:V) (F:List (Nat×V)) (i:Nat):ofL ((k,v)::F) i=if i=k then v else ofL F i:=by
 unfold ofL
 simp only [List.find?_cons]
 by_cases h:i=k
 ·subst h;simp
 ·have:(k==i)=false:=by simpa using fun e=>h e.symm
  simp [this,h]
@[simp] theorem A7x (i:Nat):ofL [] i=.junk:=rfl

@[simp] theorem A4g {α:Type} (l:List α) (n:Nat) (d:α):(l.drop n).headD d=l.getD n d:=by
 simp [List.getD_eq_getElem?_getD,List.headD_eq_head?_getD,List.head?_drop]
@[simp] theorem A1l (l:List T):(l.map V.t).length=l.length:=by simp

theorem I3 (k:Nat) (e:TypeId) (z:Nat) (es:List (List T)):leC (.own k e z es) (.t (.sl es)):=.inr (.inr ⟨_,rfl,rfl⟩)
theorem Kf (es:List (List T)):leC (.full es) (.t (.sl es)):=.inr (.inr ⟨_,rfl,rfl⟩)
theorem M1:leC .snil (.t (.sl [])):=.inr (.inr ⟨_,rfl,rfl⟩)
@[simp] theorem A1m (k:Nat) (e:TypeId) (z:Nat) (es:List (List T)):leA (.own k e z es) (.t (.sl es)):=.inl (I3 ..)
@[simp] theorem Yv (es:List (List T)):leA (.full es) (.t (.sl es)):=.inl (Kf ..)
@[simp] theorem Yw:leA .snil (.t (.sl [])):=.inl M1
@[simp] theorem A7y (k:Nat) (e:TypeId) (z:Nat) (es:List (List T)):leV (.own k e z es) (.t (.sl es)):=.inl (A1m ..)
@[simp] theorem A72 (es:List (List T)):leV (.full es) (.t (.sl es)):=.inl (Yv ..)
@[simp] theorem A73:leV .snil (.t (.sl [])):=.inl Yw
attribute [simp] I3 Kf M1
@[simp] theorem A74 (v:V):leA v .junk:=.inl (.inr (.inl rfl))
@[simp] theorem A75 (v:V):leC v .junk:=.inr (.inl rfl)
theorem A1n {cs cs':List V} (h:LeL leC cs cs'):leV (.agg cs) (.agg cs'):=.inl (.inr ⟨_,_,rfl,rfl,h⟩)
theorem A1o {cs cs':List V} (h:LeL leC cs cs'):leA (.agg cs) (.agg cs'):=.inr ⟨_,_,rfl,rfl,h⟩
theorem A1p {cs cs':List V} (h:LeL leA cs cs'):leV (.tup cs) (.tup cs'):=.inr ⟨_,_,rfl,rfl,h⟩
@[simp] theorem A3 (l:List V):LeL leC l l:=by
 induction l with
 | nil=>trivial
 | cons x l ih=>exact⟨.inl rfl,ih⟩
@[simp] theorem Wy (l:List V):LeL leA l l:=by
 induction l with
 | nil=>trivial
 | cons x l ih=>exact⟨leA.refl x,ih⟩
@[simp] theorem A4h (nb nt:Nat) (l:List T):leB nb nt (.cells (l.map V.t)) (.cells (l.map V.t)):=⟨A3 _,Dq _ _ _⟩

@[simp] theorem A4i (x y:T):leC (.t x) (.t y)↔y=x:=by
 constructor
 ·rintro (h|h|⟨t,ht,h⟩)
  ·simpa using h
  ·cases h
  ·simp at ht h;rw [h,ht]
 ·rintro rfl;exact .inl rfl
@[simp] theorem A4j (x y:T):leA (.t x) (.t y)↔y=x:=by
 constructor
 ·rintro (h|⟨cs,cs',h,_⟩)
  ·exact (A4i x y).1 h
  ·cases h
 ·rintro rfl;exact leA.refl _
@[simp] theorem A89 (x y:T):leV (.t x) (.t y)↔y=x:=by
 constructor
 ·rintro (h|⟨cs,cs',h,_⟩)
  ·exact (A4j x y).1 h
  ·cases h
 ·rintro rfl;exact leV.refl _
@[simp] theorem A4k (x y:List V):leA (.agg x) (.agg y)↔LeL leC x y:=by
 constructor
 ·rintro ((h|h|⟨t,ht,h⟩)|⟨cs,cs',h,h',hl⟩)
  ·simp at h;subst h;exact A3 _
  ·cases h
  ·cases h
  ·cases h;cases h';exact hl
 ·exact A1o
@[simp] theorem A8a (x y:List V):leV (.agg x) (.agg y)↔LeL leC x y:=by
 constructor
 ·rintro (h|⟨cs,cs',h,_⟩)
  ·exact (A4k x y).1 h
  ·cases h
 ·exact A1n
@[simp] theorem A8b (x y:List V):leV (.tup x) (.tup y)↔LeL leA x y:=by
 constructor
 ·rintro (((h|h|⟨t,ht,h⟩)|⟨cs,cs',h,_⟩)|⟨cs,cs',h,h',hl⟩)
  ·simp at h;subst h;exact Wy _
  ·cases h
  ·cases h
  ·cases h
  ·cases h;cases h';exact hl
 ·exact A1p

abbrev Rg (x:EC) (l:List EO) (d:Bool):Prop:=∀(P:Program) (nb nt:Nat) (Q:Ex→Fr→St→Prop) (a:Fr) (S:St),ewp P nb nt x Q a S=Bq P d l Q a S
abbrev Sq (x y z:EC):Prop:=∀(P:Program) (nb nt:Nat) (Q:Ex→Fr→St→Prop) (a:Fr) (S:St),ewp P nb nt x Q a S=ewp P nb nt y (Eg (ewp P nb nt z Q) Q) a S
abbrev Cd (x:EC) (o:Opd) (y z:EC):Prop:=∀(P:Program) (nb nt:Nat) (Q:Ex→Fr→St→Prop) (a:Fr) (S:St),ewp P nb nt x Q a S=cdK (opv a o) P nb nt y z Q a S
abbrev Bk (x:EC) (id:Nat) (y:EC):Prop:=∀(P:Program) (nb nt:Nat) (Q:Ex→Fr→St→Prop) (a:Fr) (S:St),ewp P nb nt x Q a S=ewp P nb nt y (Gt id Q) a S
abbrev Al (x y z:EC):Prop:=∀(P:Program) (nb nt:Nat) (Q:Ex→Fr→St→Prop) (a:Fr) (S:St),ewp P nb nt x Q a S=(ewp P nb nt y Q a S∧ewp P nb nt z Q a S)
theorem alE (y z:EC):Al (.al y z) y z:=fun _ _ _ _ _ _=>rfl
theorem rgE (l:List EO) (d:Bool):Rg (.rg l d) l d:=fun _ _ _ _ _ _=>rfl
theorem sqE (y z:EC):Sq (.sq y z) y z:=fun _ _ _ _ _ _=>rfl
theorem cdE (o:Opd) (y z:EC):Cd (.cd o y z) o y z:=fun _ _ _ _ _ _=>rfl
theorem bkE (id:Nat) (y:EC):Bk (.bk id y) id y:=fun _ _ _ _ _ _=>rfl
theorem alF {y z:EC} (x:EC) (h:x=.al y z):Al x y z:=by subst h;exact alE y z
theorem rgF {l:List EO} {d:Bool} (x:EC) (h:x=.rg l d):Rg x l d:=by subst h;exact rgE l d
theorem cdF {o:Opd} {y z:EC} (x:EC) (h:x=.cd o y z):Cd x o y z:=by subst h;exact cdE o y z
theorem bkF {id:Nat} {y:EC} (x:EC) (h:x=.bk id y):Bk x id y:=by subst h;exact bkE id y
def Iv:List EC→EC
 | []=>.skip
 | [x]=>x
 | x::y::l=>.sq x (Iv (y::l))
@[simp] theorem A6k {x:EC} {P:Program} {nb nt:Nat} {Q:Ex→Fr→St→Prop} {a:Fr} {S:St} : ewp P nb nt (Iv [x]) Q a S=ewp P nb nt x Q a S:=rfl
@[simp] theorem A6l {x y:EC} {l:List EC} {P:Program} {nb nt:Nat} {Q:Ex→Fr→St→Prop} {a:Fr} {S:St} : ewp P nb nt (Iv (x::y::l)) Q a S=ewp P nb nt x (Eg (ewp P nb nt (Iv (y::l)) Q) Q) a S:=rfl

theorem A7 {P:Program} {nb nt:Nat} {x:EC} {Q:Ex→Fr→St→Prop} {a:Fr} {S:St} {X:Type} (I:X→Prop) (F:X→List (Nat×V)) (B:X→St) (μ:X→Nat) (x0:X) (h0:I x0) (hw:Qn nb nt a S (F x0) (B x0))
  (h : ∀z,I z→L1 (ofL (F z))→ewp P nb nt x (Eg (fun a' S'=>∃z',I z'∧μ z'<μ z∧Qn nb nt a' S' (F z') (B z')) Q) (ofL (F z)) (B z)):ewp P nb nt (.lp x) Q a S:=
 ⟨[],X,I,F,B,μ,x0,h0,hw,h⟩

def Iw (G:List (GT×TypeId×Nat)) (a:Fr) (S:St) (K:Fr→St→Prop):Prop:=match Hp G a S with|some p=>K p.1 p.2|none=>False
@[simp] theorem A6m {a:Fr} {S:St} {K:Fr→St→Prop} : Iw [] a S K=K a S:=rfl
@[simp] theorem A4l {i:Nat} {e:TypeId} {z:Nat} {G:List (GT×TypeId×Nat)} {a:Fr} {S:St} {K:Fr→St→Prop} :
  Iw ((.slot i,e,z)::G) a S K=match a i with | .snil=>Iw G (upd a i (.own S.toks.length e z [])) ⟨S.boxes,S.toks++[0]⟩ K|_=>False:=by
 unfold Iw;simp only [Hp];cases a i<;>rfl
@[simp] theorem A4m {b o:Nat} {e:TypeId} {z:Nat} {G:List (GT×TypeId×Nat)} {a:Fr} {S:St} {K:Fr→St→Prop} :
  Iw ((.cell b o,e,z)::G) a S K=match S.boxes[b]? with|some (.cells cs)=>(match cs[o]? with|some .snil=>Iw G a ⟨S.boxes.set b (.cells (cs.set o (.own S.toks.length e z []))),S.toks++[0]⟩ K|_=>False)|_=>False:=by
 unfold Iw;simp only [Hp]
 cases S.boxes[b]? with
 | none=>rfl
 | some bx=>
  cases bx with
  | cells cs=>
   simp only []
   cases cs[o]? with
   | none=>rfl
   | some v=>cases v<;>rfl
  | _=>rfl
theorem Bm (G:List (GT×TypeId×Nat)) {P:Program} {nb nt:Nat} {x:EC} {Q:Ex→Fr→St→Prop} {a:Fr} {S:St} {X:Type} (I:X→Prop) (F:X→List (Nat×V)) (B:X→St) (μ:X→Nat) (x0:X) (h0:I x0) (hw:Iw G a S fun a' S'=>Qn nb nt a' S' (F x0) (B x0))
  (h : ∀z,I z→L1 (ofL (F z))→ewp P nb nt x (Eg (fun a' S'=>∃z',I z'∧μ z'<μ z∧Qn nb nt a' S' (F z') (B z')) Q) (ofL (F z)) (B z)):ewp P nb nt (.lp x) Q a S:=by
 refine⟨G,X,I,F,B,μ,x0,h0,?_,h⟩
 unfold Iw at hw
 split at hw
 ·rename_i p hp;first|(rw [hp];exact hw)|exact hw
 ·exact hw.elim

theorem Ac {P:Program} {dr:Bool} {d:Option Nat} {k:EK} {xs:List Opd} {es:List EO} {Q:Ex→Fr→St→Prop} {a:Fr} {S:St} {w b:Bool} (h1:b=true→gdK (.t (.bool true)) w P dr d k xs es Q a S) (h2:b=false→gdK (.t (.bool false)) w P dr d k xs es Q a S) :
  gdK (.t (.bool b)) w P dr d k xs es Q a S:=by cases b;exact h2 rfl;exact h1 rfl
theorem Ad {P:Program} {nb nt:Nat} {x y:EC} {Q:Ex→Fr→St→Prop} {a:Fr} {S:St} {b:Bool} (h1:b=true→cdK (.t (.bool true)) P nb nt x y Q a S) (h2:b=false→cdK (.t (.bool false)) P nb nt x y Q a S) :
  cdK (.t (.bool b)) P nb nt x y Q a S:=by cases b;exact h2 rfl;exact h1 rfl
theorem A5 {x y:V} {S:St} {K:V→St→Prop} {b:Bool} (h1:b=true→K x S) (h2:b=false→K y S):Fj (.t (.bool b)) x y S K:=by cases b;simpa [Fj] using h2 rfl;simpa [Fj] using h1 rfl

@[simp] theorem wrap64 {x:Int} (h1 : -9223372036854775808≤x) (h2:x≤9223372036854775807):IntKind.i64.wrap x=x:=IntWalk.i64_in _ ⟨h1,h2⟩

end E
end Go.Proofs.YtmlpmdccfmmpoaaGreatDoor
end
