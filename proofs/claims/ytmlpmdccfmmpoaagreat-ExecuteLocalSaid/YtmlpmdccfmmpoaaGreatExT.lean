/- Chapter 35: a contract about a record and its map alone holds wherever they lie. -/
import Derived.Test.YtmlpmdccfmmpoaaGreatExQ
set_option linter.unusedSimpArgs false
set_option linter.unusedVariables false
set_option maxHeartbeats 1000000
namespace Go.Proofs.YtmlpmdccfmmpoaaGreat
namespace E
mutual
def ren (b c:Nat):V→V
 | .t x=>.t x
 | .und=>.und
 | .junk=>.junk
 | .snil=>.snil
 | .full es=>.t (.sl es)
 | .own _ _ _ es=>.t (.sl es)
 | .ptr i o=>if i=b then .ptr 0 o else if i=c then .ptr 1 o else .junk
 | .tp e o=>.tp e o
 | .mp i=>if i=b then .mp 0 else if i=c then .mp 1 else .junk
 | .vw _ _ _=>.junk
 | .bw _ _=>.junk
 | .fn f caps=>.fn f (rens b c caps)
 | .agg cs=>.agg (rens b c cs)
 | .tup cs=>.tup (rens b c cs)
def rens (b c:Nat):List V→List V
 | []=>[]
 | v::vs=>ren b c v::rens b c vs
end
theorem Hu (b c:Nat) (vs:List V):rens b c vs=vs.map (ren b c):=by
 induction vs with
 | nil=>rfl
 | cons v vs ih=>simp [rens,ih]
def gh2 (g:Gh) (x y n:Nat):Gh:={ I:=g.I,β:=[x,y],τ:=[],base:=n,ent:=[x,y],κ:=g.κ }
theorem RelV.ren {g:Gh} {tk:List Nat} {b c x y n:Nat} (hb:g.β[b]?=some x) (hc:g.β[c]?=some y) {v:V} {u:Value} (h:RelV g tk v u):RelV (gh2 g x y n) [] (E.ren b c v) u:=by
 induction h with
 | t x v h=>exact .t x v h
 | und=>exact .und
 | junk v=>exact .junk v
 | snil=>exact .snil
 | full es a h=>exact .t _ _ h
 | own k e z es v n h hz hn hle hg=>exact .t _ _ h
 | ptr i o blk h=>
  simp only [E.ren]
  by_cases h1:i=b
  ·rw [if_pos h1];subst h1;rw [hb] at h;cases h;exact .ptr 0 o _ rfl
  ·rw [if_neg h1]
   by_cases h2:i=c
   ·rw [if_pos h2];subst h2;rw [hc] at h;cases h;exact .ptr 1 o _ rfl
   ·rw [if_neg h2];exact .junk _
 | tp e o blk off c hI hr=>exact .tp e o blk off c hI hr
 | fn f caps vs hl hr ih=>
  simp only [E.ren,Hu]
  refine .fn f _ vs (by simpa using hl) (fun j hj=>?_)
  have hj':j<caps.length:=by simpa using hj
  have:=ih j hj'
  simpa [List.getD_eq_getElem?_getD,hj'] using this
 | agg cs vs hl hr ih=>
  simp only [E.ren,Hu]
  refine .agg _ vs (by simpa using hl) (fun j hj=>?_)
  have hj':j<cs.length:=by simpa using hj
  have:=ih j hj'
  simpa [List.getD_eq_getElem?_getD,hj'] using this
 | tup cs vs hl hr ih=>
  simp only [E.ren,Hu]
  refine .tup _ vs (by simpa using hl) (fun j hj=>?_)
  have hj':j<cs.length:=by simpa using hj
  have:=ih j hj'
  simpa [List.getD_eq_getElem?_getD,hj'] using this
 | mp i blk h=>
  simp only [E.ren]
  by_cases h1:i=b
  ·rw [if_pos h1];subst h1;rw [hb] at h;cases h;exact .mp 0 _ rfl
  ·rw [if_neg h1]
   by_cases h2:i=c
   ·rw [if_pos h2];subst h2;rw [hc] at h;cases h;exact .mp 1 _ rfl
   ·rw [if_neg h2];exact .junk _
 | vw b o n blk cap h hc hm=>exact .junk _
 | bw b n blk cap h hc hk hm=>exact .junk _
theorem FnS.lift2 {P:Program} {f:Nat} {vs cs:List V} {es:List (V×V)} {r:V} {S:St} {b c:Nat} (hr0:era r=r) (hb:S.boxes[b]?=some (.cells cs)) (hc:S.boxes[c]?=some (.mp es))
  (h:FnS P f (vs.map (ren b c)) ⟨[.cells (cs.map (ren b c)),.mp (es.map fun p=>(ren b c p.1,ren b c p.2))],[]⟩ r ⟨[.dead,.dead],[]⟩) :
  FnS P f vs S r { S with boxes:=(S.boxes.set c .dead).set b .dead }:=by
 refine⟨h.1,fun g w us hI hus hrel=>?_⟩
 have hne:b≠c:=fun e=>by rw [e,hc] at hb;cases hb
 have hbl:=(List.getElem?_eq_some_iff.1 hb).1
 have hcl:=(List.getElem?_eq_some_iff.1 hc).1
 obtain⟨x,hx⟩ : ∃x,g.β[b]?=some x:=⟨_,List.getElem?_eq_getElem (by rw [hI.len];exact hbl)⟩
 obtain⟨y,hy⟩ : ∃y,g.β[c]?=some y:=⟨_,List.getElem?_eq_getElem (by rw [hI.len];exact hcl)⟩
 have hxy:x≠y:=fun e=>by
  subst e
  rcases hI.nodup b c x hx hy hne with h1|h1
  ·rw [hb] at h1;cases h1
  ·rw [hc] at h1;cases h1
 have hrn : ∀{v:V} {u:Value},RelV g S.toks v u→RelV (gh2 g x y w.heap.size) [] (ren b c v) u:=fun hv=>hv.ren hx hy
 have hI2:Inv (gh2 g x y w.heap.size) ⟨[.cells (cs.map (ren b c)),.mp (es.map fun p=>(ren b c p.1,ren b c p.2))],[]⟩ w:=by
  refine⟨hI.imm,rfl,fun i j blk hi hj hij=>?_,fun i blk bx hi hbx=>?_,fun i blk bx hi hbx hd=>?_,fun i blk hi=>?_,rfl,fun k n blk e z cap hk=>by simp [gh2] at hk,fun k n hk=>by simp [gh2] at hk,fun k l x y hk=>by simp [gh2] at hk,Nat.le_refl _,fun i blk hi=>?_,hI.lay,hI.lsz⟩
  ·match i,j with
   | 0,0=>exact absurd rfl hij
   | 1,1=>exact absurd rfl hij
   | 0,1=>simp [gh2] at hi hj;omega
   | 1,0=>simp [gh2] at hi hj;omega
   | i+2,_=>simp [gh2] at hi
   | 0,j+2=>simp [gh2] at hj
   | 1,j+2=>simp [gh2] at hj
  ·match i with
   | 0=>
    simp [gh2] at hi hbx
    subst hi hbx
    obtain⟨cv,ty,h1,h2,h3⟩:=hI.box b x _ hx hb
    refine⟨cv,ty,h1,by simpa using h2,fun j hj=>?_⟩
    have hj':j<cs.length:=by simpa using hj
    have:=hrn (h3 j hj')
    simpa [List.getD_eq_getElem?_getD,hj'] using this
   | 1=>
    simp [gh2] at hi hbx
    subst hi hbx
    obtain⟨ms,clock,h1,h2,h3,h4,h5⟩:=hI.box c y _ hy hc
    refine⟨ms,clock,h1,by simpa using h2,fun j hj=>?_,h4,h5⟩
    have hj':j<es.length:=by simpa using hj
    obtain⟨m,q1,q2,q3,q4⟩:=h3 j hj'
    refine⟨m,q1,?_,?_,q4⟩
    ·have:=hrn q2;simpa [List.getD_eq_getElem?_getD,hj'] using this
    ·have:=hrn q3;simpa [List.getD_eq_getElem?_getD,hj'] using this
   | i+2=>simp [gh2] at hi
  ·match i with
   | 0=>simp [gh2] at hi;subst hi;exact hI.sep b x _ hx hb (fun h=>by cases h)
   | 1=>simp [gh2] at hi;subst hi;exact hI.sep c y _ hy hc (fun h=>by cases h)
   | i+2=>simp [gh2] at hi
  ·match i with
   | 0=>simp [gh2] at hi;subst hi;exact .inr (by simp [gh2])
   | 1=>simp [gh2] at hi;subst hi;exact .inr (by simp [gh2])
   | i+2=>simp [gh2] at hi
  ·match i with
   | 0=>simp [gh2] at hi;subst hi;exact hI.bold b x hx
   | 1=>simp [gh2] at hi;subst hi;exact hI.bold c y hy
   | i+2=>simp [gh2] at hi
 refine (h.2 (gh2 g x y w.heap.size) w us hI2 (by simpa using hus) (fun j hj=>?_)).mono ?_
 ·have hj':j<vs.length:=by simpa using hj
  have:=hrn (hrel j hj')
  simpa [List.getD_eq_getElem?_getD,hj'] using this
 ·rintro e w' ⟨u,g',rfl,hr,hm⟩
  have hblk : ∀k,k<w.heap.size→k≠x→k≠y→w'.heap[k]?=w.heap[k]?:=fun k hk h1 h2=>hm.frm.block k hk (by simp [gh2,h1,h2])
  have hI' : ∀{i o:Nat} {z:Value},g'.I i o=some z→g.I i o=some z∨w.heap.size≤i∨i=x∨i=y:=by
   intro i o z hz
   rcases hm.ext.icl i o z hz with h1|h1|h1
   ·exact .inl h1
   ·exact .inr (.inl h1)
   ·simp [gh2] at h1;exact .inr (.inr h1)
  have hold : ∀{i:Nat},i<w.heap.size→i≠x→i≠y→∀o,g.I i o=none→g'.I i o=none:=by
   intro i hi h1 h2 o hn
   cases hz:g'.I i o with
   | none=>rfl
   | some z=>
    rcases hI' hz with h3|h3|h3|h3
    ·rw [hn] at h3;cases h3
    ·omega
    ·exact absurd h3 h1
    ·exact absurd h3 h2
  have hWx:=hI.bwr b x hx
  have hWy:=hI.bwr c y hy
  have hext:Ext g S.toks { g with I:=g'.I } S.toks:=by
   refine⟨hm.ext.I,fun _ _ h=>h,fun k n hk=>⟨n,hk,Nat.le_refl _,fun _=>rfl⟩,rfl,rfl,fun i o z hz=>?_,fun _ _ _=>rfl⟩
   rcases hI' hz with h1|h1|h1|h1
   ·exact .inl h1
   ·right;left;have:=hI.lo;omega
   ·subst h1;exact .inr hWx
   ·subst h1;exact .inr hWy
  have hset : ∀(i:Nat) (bx:Bx),((S.boxes.set c .dead).set b .dead)[i]?=some bx→bx=.dead∨(i≠b∧i≠c∧S.boxes[i]?=some bx):=fun i bx h=>by
   by_cases h1:b=i
   ·subst h1;rw [List.getElem?_set_self (by simpa using hbl)] at h;exact .inl (Option.some.inj h).symm
   ·rw [List.getElem?_set_ne h1] at h
    by_cases h2:c=i
    ·subst h2;rw [List.getElem?_set_self hcl] at h;exact .inl (Option.some.inj h).symm
    ·rw [List.getElem?_set_ne h2] at h;exact .inr ⟨Ne.symm h1,Ne.symm h2,h⟩
  have hdd : ∀i,S.boxes[i]?=some Bx.dead→((S.boxes.set c .dead).set b .dead)[i]?=some Bx.dead:=fun i h=>by
   have hil:=(List.getElem?_eq_some_iff.1 h).1
   by_cases h1:b=i
   ·subst h1;rw [List.getElem?_set_self (by simpa using hbl)]
   ·rw [List.getElem?_set_ne h1]
    by_cases h2:c=i
    ·subst h2;rw [List.getElem?_set_self hcl]
    ·rw [List.getElem?_set_ne h2];exact h
  have hoth : ∀i blk bx,g.β[i]?=some blk→S.boxes[i]?=some bx→i≠b→i≠c→bx≠.dead→blk≠x∧blk≠y:=fun i blk bx hi hbx h1 h2 h3=>by
   constructor
   ·intro e;subst e
    rcases hI.nodup i b blk hi hx h1 with h4|h4
    ·rw [hbx] at h4;exact h3 (Option.some.inj h4)
    ·rw [hb] at h4;cases h4
   ·intro e;subst e
    rcases hI.nodup i c blk hi hy h2 with h4|h4
    ·rw [hbx] at h4;exact h3 (Option.some.inj h4)
    ·rw [hc] at h4;cases h4
  refine⟨u,{ g with I:=g'.I },rfl,?_,⟨hm.inv.imm,by simpa using hI.len,fun i j blk hi hj hij=>?_,fun i blk bx hi hbx=>?_,fun i blk bx hi hbx hd o=>?_,hI.bwr,hI.tlen,fun k n blk e z cap hk hn=>?_,hI.tnil,hI.tdis,Nat.le_trans hI.lo hm.frm.size,fun i blk hi=>Nat.lt_of_lt_of_le (hI.bold i blk hi) hm.frm.size,fun i o z hz=>hext.I _ _ _ (hI.lay i o z hz),hm.inv.lsz⟩,hext,
   ⟨hm.frm.os,hm.frm.tape,hm.frm.output,hm.frm.size,fun k hk hke=>hblk k (Nat.lt_of_lt_of_le hk hI.lo) (fun e=>?_) (fun e=>?_)⟩⟩
  ·have h1:=hr.era (n:=0)
   rw [hr0] at h1
   exact RelV.mono' (g:=F9 g' 0) (g':={ g with I:=g'.I }) (tk:=[]) (tk':=S.toks) rfl (fun i z hz=>by simp [F9] at hz) (fun k n hk=>by simp at hk) (fun i z hz=>by simp [F9] at hz) h1
  ·rcases hI.nodup i j blk hi hj hij with h1|h1
   ·exact .inl (hdd i h1)
   ·exact .inr (hdd j h1)
  ·rcases hset i bx hbx with h1|⟨h1,h2,h3⟩
   ·subst h1;trivial
   ·by_cases hd:bx=.dead
    ·subst hd;trivial
    ·obtain⟨q1,q2⟩:=hoth i blk bx hi h3 h1 h2 hd
     exact (hI.box i blk bx hi h3).mono hext hi (hblk blk (hI.bold i blk hi) q1 q2)
  ·rcases hset i bx hbx with h1|⟨h1,h2,h3⟩
   ·exact absurd h1 hd
   ·obtain⟨q1,q2⟩:=hoth i blk bx hi h3 h1 h2 hd
    exact hold (hI.bold i blk hi) q1 q2 o (hI.sep i blk bx hi h3 hd o)
  ·obtain⟨h1,h3,h4,h5,hlt⟩:=hI.tok k n blk e z cap hk hn
   have q1:blk≠x:=fun e=>h4 (e▸List.mem_of_getElem? hx)
   have q2:blk≠y:=fun e=>h4 (e▸List.mem_of_getElem? hy)
   exact⟨h1.imp id fun ⟨cur,a,r⟩=>⟨cur,by rw [hblk blk hlt q1 q2];exact a,r⟩,fun o ho=>hold hlt q1 q2 o (h3 o ho),h4,h5,Nat.lt_of_lt_of_le hlt hm.frm.size⟩
  ·subst e;rcases hWx with h1|h1
   ·omega
   ·exact hke h1
  ·subst e;rcases hWy with h1|h1
   ·omega
   ·exact hke h1
end E
end Go.Proofs.YtmlpmdccfmmpoaaGreat
