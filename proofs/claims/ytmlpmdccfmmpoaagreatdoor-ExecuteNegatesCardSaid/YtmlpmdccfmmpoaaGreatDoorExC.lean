/- Chapter 35: all instances of some rules. -/
import Derived.Test.YtmlpmdccfmmpoaaGreatDoorExQ
import Derived.Test.YtmlpmdccfmmpoaaGreatDoorFds
set_option linter.unusedSimpArgs false
set_option linter.unusedVariables false
set_option maxHeartbeats 4000000
set_option maxRecDepth 8000
section
set_option linter.unusedSimpArgs false
set_option linter.unusedVariables false
set_option maxHeartbeats 1000000
namespace Go.Proofs.YtmlpmdccfmmpoaaGreatDoor
namespace E
mutual
def ren (b c:Nat):V→V
 | .t x=>.t x
 | .und=>.und
 | .junk=>.junk
 | .snil=>.snil
 | .full es=>.t (.sl es)
 | .own _ _ _ es=>.t (.sl es)
 | .ptr i o=>if i=b then .ptr 0 o else if i=c then .ptr 1 o else .junk
 | .tp e o=>.tp e o
 | .mp i=>if i=b then .mp 0 else if i=c then .mp 1 else .junk
 | .vw _ _ _=>.junk
 | .bw _ _=>.junk
 | .fn f caps=>.fn f (rens b c caps)
 | .agg cs=>.agg (rens b c cs)
 | .tup cs=>.tup (rens b c cs)
def rens (b c:Nat):List V→List V
 | []=>[]
 | v::vs=>ren b c v::rens b c vs
end
theorem J6 (b c:Nat) (vs:List V):rens b c vs=vs.map (ren b c):=by
 induction vs with
 | nil=>rfl
 | cons v vs ih=>simp [rens,ih]
def gh2 (g:Gh) (x y n:Nat):Gh:={ I:=g.I,β:=[x,y],τ:=[],base:=n,ent:=[x,y],κ:=g.κ }
theorem RelV.ren {g:Gh} {tk:List Nat} {b c x y n:Nat} (hb:g.β[b]?=some x) (hc:g.β[c]?=some y) {v:V} {u:Value} (h:RelV g tk v u):RelV (gh2 g x y n) [] (E.ren b c v) u:=by
 induction h with
 | t x v h=>exact .t x v h
 | und=>exact .und
 | junk v=>exact .junk v
 | snil=>exact .snil
 | full es a h=>exact .t _ _ h
 | own k e z es v n h hz hn hle hg=>exact .t _ _ h
 | ptr i o blk h=>
  simp only [E.ren]
  by_cases h1:i=b
  ·rw [if_pos h1];subst h1;rw [hb] at h;cases h;exact .ptr 0 o _ rfl
  ·rw [if_neg h1]
   by_cases h2:i=c
   ·rw [if_pos h2];subst h2;rw [hc] at h;cases h;exact .ptr 1 o _ rfl
   ·rw [if_neg h2];exact .junk _
 | tp e o blk off c hI hr=>exact .tp e o blk off c hI hr
 | fn f caps vs hl hr ih=>
  simp only [E.ren,J6]
  refine .fn f _ vs (by simpa using hl) (fun j hj=>?_)
  have hj':j<caps.length:=by simpa using hj
  have:=ih j hj'
  simpa [List.getD_eq_getElem?_getD,hj'] using this
 | agg cs vs hl hr ih=>
  simp only [E.ren,J6]
  refine .agg _ vs (by simpa using hl) (fun j hj=>?_)
  have hj':j<cs.length:=by simpa using hj
  have:=ih j hj'
  simpa [List.getD_eq_getElem?_getD,hj'] using this
 | tup cs vs hl hr ih=>
  simp only [E.ren,J6]
  refine .tup _ vs (by simpa using hl) (fun j hj=>?_)
  have hj':j<cs.length:=by simpa using hj
  have:=ih j hj'
  simpa [List.getD_eq_getElem?_getD,hj'] using this
 | mp i blk h=>
  simp only [E.ren]
  by_cases h1:i=b
  ·rw [if_pos h1];subst h1;rw [hb] at h;cases h;exact .mp 0 _ rfl
  ·rw [if_neg h1]
   by_cases h2:i=c
   ·rw [if_pos h2];subst h2;rw [hc] at h;cases h;exact .mp 1 _ rfl
   ·rw [if_neg h2];exact .junk _
 | vw b o n blk cap h hc hm=>exact .junk _
 | bw b n blk cap h hc hk hm=>exact .junk _
theorem FnS.lift2 {P:Program} {f:Nat} {vs cs:List V} {es:List (V×V)} {r:V} {S:St} {b c:Nat} (hr0:era r=r) (hb:S.boxes[b]?=some (.cells cs)) (hc:S.boxes[c]?=some (.mp es))
  (h:FnS P f (vs.map (ren b c)) ⟨[.cells (cs.map (ren b c)),.mp (es.map fun p=>(ren b c p.1,ren b c p.2))],[]⟩ r ⟨[.dead,.dead],[]⟩) :
  FnS P f vs S r { S with boxes:=(S.boxes.set c .dead).set b .dead }:=by
 refine⟨h.1,fun g w us hI hus hrel=>?_⟩
 have hne:b≠c:=fun e=>by rw [e,hc] at hb;cases hb
 have hbl:=(List.getElem?_eq_some_iff.1 hb).1
 have hcl:=(List.getElem?_eq_some_iff.1 hc).1
 obtain⟨x,hx⟩ : ∃x,g.β[b]?=some x:=⟨_,List.getElem?_eq_getElem (by rw [hI.len];exact hbl)⟩
 obtain⟨y,hy⟩ : ∃y,g.β[c]?=some y:=⟨_,List.getElem?_eq_getElem (by rw [hI.len];exact hcl)⟩
 have hxy:x≠y:=fun e=>by
  subst e
  rcases hI.nodup b c x hx hy hne with h1|h1
  ·rw [hb] at h1;cases h1
  ·rw [hc] at h1;cases h1
 have hrn : ∀{v:V} {u:Value},RelV g S.toks v u→RelV (gh2 g x y w.heap.size) [] (ren b c v) u:=fun hv=>hv.ren hx hy
 have hI2:Inv (gh2 g x y w.heap.size) ⟨[.cells (cs.map (ren b c)),.mp (es.map fun p=>(ren b c p.1,ren b c p.2))],[]⟩ w:=by
  refine⟨hI.imm,rfl,fun i j blk hi hj hij=>?_,fun i blk bx hi hbx=>?_,fun i blk bx hi hbx hd=>?_,fun i blk hi=>?_,rfl,fun k n blk e z cap hk=>by simp [gh2] at hk,fun k n hk=>by simp [gh2] at hk,fun k l x y hk=>by simp [gh2] at hk,Nat.le_refl _,fun i blk hi=>?_,hI.lay,hI.lsz⟩
  ·match i,j with
   | 0,0=>exact absurd rfl hij
   | 1,1=>exact absurd rfl hij
   | 0,1=>simp [gh2] at hi hj;omega
   | 1,0=>simp [gh2] at hi hj;omega
   | i+2,_=>simp [gh2] at hi
   | 0,j+2=>simp [gh2] at hj
   | 1,j+2=>simp [gh2] at hj
  ·match i with
   | 0=>
    simp [gh2] at hi hbx
    subst hi hbx
    obtain⟨cv,ty,h1,h2,h3⟩:=hI.box b x _ hx hb
    refine⟨cv,ty,h1,by simpa using h2,fun j hj=>?_⟩
    have hj':j<cs.length:=by simpa using hj
    have:=hrn (h3 j hj')
    simpa [List.getD_eq_getElem?_getD,hj'] using this
   | 1=>
    simp [gh2] at hi hbx
    subst hi hbx
    obtain⟨ms,clock,h1,h2,h3,h4,h5⟩:=hI.box c y _ hy hc
    refine⟨ms,clock,h1,by simpa using h2,fun j hj=>?_,h4,h5⟩
    have hj':j<es.length:=by simpa using hj
    obtain⟨m,q1,q2,q3,q4⟩:=h3 j hj'
    refine⟨m,q1,?_,?_,q4⟩
    ·have:=hrn q2;simpa [List.getD_eq_getElem?_getD,hj'] using this
    ·have:=hrn q3;simpa [List.getD_eq_getElem?_getD,hj'] using this
   | i+2=>simp [gh2] at hi
  ·match i with
   | 0=>simp [gh2] at hi;subst hi;exact hI.sep b x _ hx hb (fun h=>by cases h)
   | 1=>simp [gh2] at hi;subst hi;exact hI.sep c y _ hy hc (fun h=>by cases h)
   | i+2=>simp [gh2] at hi
  ·match i with
   | 0=>simp [gh2] at hi;subst hi;exact .inr (by simp [gh2])
   | 1=>simp [gh2] at hi;subst hi;exact .inr (by simp [gh2])
   | i+2=>simp [gh2] at hi
  ·match i with
   | 0=>simp [gh2] at hi;subst hi;exact hI.bold b x hx
   | 1=>simp [gh2] at hi;subst hi;exact hI.bold c y hy
   | i+2=>simp [gh2] at hi
 refine (h.2 (gh2 g x y w.heap.size) w us hI2 (by simpa using hus) (fun j hj=>?_)).mono ?_
 ·have hj':j<vs.length:=by simpa using hj
  have:=hrn (hrel j hj')
  simpa [List.getD_eq_getElem?_getD,hj'] using this
 ·rintro e w' ⟨u,g',rfl,hr,hm⟩
  have hblk : ∀k,k<w.heap.size→k≠x→k≠y→w'.heap[k]?=w.heap[k]?:=fun k hk h1 h2=>hm.frm.block k hk (by simp [gh2,h1,h2])
  have hI' : ∀{i o:Nat} {z:Value},g'.I i o=some z→g.I i o=some z∨w.heap.size≤i∨i=x∨i=y:=by
   intro i o z hz
   rcases hm.ext.icl i o z hz with h1|h1|h1
   ·exact .inl h1
   ·exact .inr (.inl h1)
   ·simp [gh2] at h1;exact .inr (.inr h1)
  have hold : ∀{i:Nat},i<w.heap.size→i≠x→i≠y→∀o,g.I i o=none→g'.I i o=none:=by
   intro i hi h1 h2 o hn
   cases hz:g'.I i o with
   | none=>rfl
   | some z=>
    rcases hI' hz with h3|h3|h3|h3
    ·rw [hn] at h3;cases h3
    ·omega
    ·exact absurd h3 h1
    ·exact absurd h3 h2
  have hWx:=hI.bwr b x hx
  have hWy:=hI.bwr c y hy
  have hext:Ext g S.toks { g with I:=g'.I } S.toks:=by
   refine⟨hm.ext.I,fun _ _ h=>h,fun k n hk=>⟨n,hk,Nat.le_refl _,fun _=>rfl⟩,rfl,rfl,fun i o z hz=>?_,fun _ _ _=>rfl⟩
   rcases hI' hz with h1|h1|h1|h1
   ·exact .inl h1
   ·right;left;have:=hI.lo;omega
   ·subst h1;exact .inr hWx
   ·subst h1;exact .inr hWy
  have hset : ∀(i:Nat) (bx:Bx),((S.boxes.set c .dead).set b .dead)[i]?=some bx→bx=.dead∨(i≠b∧i≠c∧S.boxes[i]?=some bx):=fun i bx h=>by
   by_cases h1:b=i
   ·subst h1;rw [List.getElem?_set_self (by simpa using hbl)] at h;exact .inl (Option.some.inj h).symm
   ·rw [List.getElem?_set_ne h1] at h
    by_cases h2:c=i
    ·subst h2;rw [List.getElem?_set_self hcl] at h;exact .inl (Option.some.inj h).symm
    ·rw [List.getElem?_set_ne h2] at h;exact .inr ⟨Ne.symm h1,Ne.symm h2,h⟩
  have hdd : ∀i,S.boxes[i]?=some Bx.dead→((S.boxes.set c .dead).set b .dead)[i]?=some Bx.dead:=fun i h=>by
   have hil:=(List.getElem?_eq_some_iff.1 h).1
   by_cases h1:b=i
   ·subst h1;rw [List.getElem?_set_self (by simpa using hbl)]
   ·rw [List.getElem?_set_ne h1]
    by_cases h2:c=i
    ·subst h2;rw [List.getElem?_set_self hcl]
    ·rw [List.getElem?_set_ne h2];exact h
  have hoth : ∀i blk bx,g.β[i]?=some blk→S.boxes[i]?=some bx→i≠b→i≠c→bx≠.dead→blk≠x∧blk≠y:=fun i blk bx hi hbx h1 h2 h3=>by
   constructor
   ·intro e;subst e
    rcases hI.nodup i b blk hi hx h1 with h4|h4
    ·rw [hbx] at h4;exact h3 (Option.some.inj h4)
    ·rw [hb] at h4;cases h4
   ·intro e;subst e
    rcases hI.nodup i c blk hi hy h2 with h4|h4
    ·rw [hbx] at h4;exact h3 (Option.some.inj h4)
    ·rw [hc] at h4;cases h4
  refine⟨u,{ g with I:=g'.I },rfl,?_,⟨hm.inv.imm,by simpa using hI.len,fun i j blk hi hj hij=>?_,fun i blk bx hi hbx=>?_,fun i blk bx hi hbx hd o=>?_,hI.bwr,hI.tlen,fun k n blk e z cap hk hn=>?_,hI.tnil,hI.tdis,Nat.le_trans hI.lo hm.frm.size,fun i blk hi=>Nat.lt_of_lt_of_le (hI.bold i blk hi) hm.frm.size,fun i o z hz=>hext.I _ _ _ (hI.lay i o z hz),hm.inv.lsz⟩,hext,
   ⟨hm.frm.os,hm.frm.tape,hm.frm.output,hm.frm.size,fun k hk hke=>hblk k (Nat.lt_of_lt_of_le hk hI.lo) (fun e=>?_) (fun e=>?_)⟩⟩
  ·have h1:=hr.era (n:=0)
   rw [hr0] at h1
   exact RelV.mono' (g:=bare g' 0) (g':={ g with I:=g'.I }) (tk:=[]) (tk':=S.toks) rfl (fun i z hz=>by simp [bare] at hz) (fun k n hk=>by simp at hk) (fun i z hz=>by simp [bare] at hz) h1
  ·rcases hI.nodup i j blk hi hj hij with h1|h1
   ·exact .inl (hdd i h1)
   ·exact .inr (hdd j h1)
  ·rcases hset i bx hbx with h1|⟨h1,h2,h3⟩
   ·subst h1;trivial
   ·by_cases hd:bx=.dead
    ·subst hd;trivial
    ·obtain⟨q1,q2⟩:=hoth i blk bx hi h3 h1 h2 hd
     exact (hI.box i blk bx hi h3).mono hext hi (hblk blk (hI.bold i blk hi) q1 q2)
  ·rcases hset i bx hbx with h1|⟨h1,h2,h3⟩
   ·exact absurd h1 hd
   ·obtain⟨q1,q2⟩:=hoth i blk bx hi h3 h1 h2 hd
    exact hold (hI.bold i blk hi) q1 q2 o (hI.sep i blk bx hi h3 hd o)
  ·obtain⟨h1,h3,h4,h5,hlt⟩:=hI.tok k n blk e z cap hk hn
   have q1:blk≠x:=fun e=>h4 (e▸List.mem_of_getElem? hx)
   have q2:blk≠y:=fun e=>h4 (e▸List.mem_of_getElem? hy)
   exact⟨h1.imp id fun ⟨cur,a,r⟩=>⟨cur,by rw [hblk blk hlt q1 q2];exact a,r⟩,fun o ho=>hold hlt q1 q2 o (h3 o ho),h4,h5,Nat.lt_of_lt_of_le hlt hm.frm.size⟩
  ·subst e;rcases hWx with h1|h1
   ·omega
   ·exact hke h1
  ·subst e;rcases hWy with h1|h1
   ·omega
   ·exact hke h1
end E
end Go.Proofs.YtmlpmdccfmmpoaaGreatDoor
end
namespace Go.Proofs.YtmlpmdccfmmpoaaGreatDoor
open E
theorem A40 (b c:Nat) (l:List T):(l.map V.t).map (ren b c)=l.map V.t:=by
 induction l with
 | nil=>rfl
 | cons x l ih=>simp only [List.map_cons,ih];rfl
theorem A5o (b mb:Nat) (c:Code) (rule:Int) (S:St) (s:Src) (oth:Int) (hs:s.Ok) (hb:S.boxes[b]?=some (.cells (mC s oth .snil mb 0))) (hmb:S.boxes[mb]?=some (.mp [])) (hval:(D7 c).2=true) (hlen:c.ins.length≤8000) (hpair:c.pair=true→0≤oth) :
  FnS Tryz.prog 57 [.ptr b 0,c.v,vI rule] S (peV (Bn s oth rule (Aw s oth c.ins [] [] []))) { S with boxes:=(S.boxes.set mb .dead).set b .dead }:=by
 have hne:mb≠b:=fun e=>by rw [e,hb] at hmb;cases hmb
 refine FnS.lift2 (by simp [peV,pV,era,eras]) hb hmb ?_
 have e1:(mC s oth .snil mb 0).map (ren b mb)=mC s oth .snil 1 0:=by
  unfold mC
  simp [ren,hne]
 have e2:[V.ptr b 0,c.v,vI rule].map (ren b mb)=[.ptr 0 0,c.v,vI rule]:=by
  have:ren b mb c.v=c.v:=by
   show ren b mb (.agg (c.c.map .t))=_
   simp only [ren,J6,A40]
  simp only [List.map_cons,List.map_nil,this]
  simp [ren]
 rw [e1,e2]
 have:=A5n 0 1 c rule [.cells (mC s oth .snil 1 0),.mp []] (fun n m hn=>⟨⟨A3 _,by unfold mC;simp [okNs,okN];simp at hn;omega⟩,Ea [],trivial⟩) s oth hs rfl rfl hval hlen hpair
 exact this
def OkT (S:St):Prop:=∀n m,S.boxes.length≤n→S.toks.length≤m→A6 n m S.boxes S.boxes
theorem Cv.reflU : ∀(K:List Nat),Cv K K
 | []=>trivial
 | _::K=>⟨rfl,Cv.reflU K⟩
theorem OkT.S {S:St} (h:OkT S):OkS S:=⟨h _ _ (Nat.le_refl _) (Nat.le_refl _),Cv.reflU _⟩
def Dv (r:Option Posting):Posting×Int:=match r with
 | none=>(Bb,2)
 | some p=>(p,0)
theorem Xg (c:Code) (s:Src) (oth rule:Int):Bn s oth rule (Aw s oth c.ins [] [] [])=Dv (Ce c s oth rule):=by
 unfold Bn Ce Dv
 cases Aw s oth c.ins [] [] []<;>rfl
theorem A5p (cb b mb i:Nat) (cs:List Code) (c:Code) (S:St) (hS:OkT S) (s:Src) (oth:Int) (hs:s.Ok) (hcb:S.boxes[cb]?=some (.cells [Code.l cs])) (hc:cs[i]?=some c) (hb:S.boxes[b]?=some (.cells (mC s oth .snil mb 0))) (hmb:S.boxes[mb]?=some (.mp [])) (hval:(D7 c).2=true) (hlen:c.ins.length≤8000) (hpair:c.pair=true→0≤oth) :
  FnS Tryz.prog 56 [.ptr b 0,vI i,.ptr cb 0] S (peV (Dv (Ce c s oth i))) { S with boxes:=(S.boxes.set mb .dead).set b .dead }:=by
 rw [←Xg]
 obtain⟨L,tk⟩:=S
 simp only [] at hcb hb hmb
 have hbl:=A4 hb
 have hml:=A4 hmb
 have hci:=A4 hc
 have hrun:=fun (x:Bx)=>A5o b mb c i ⟨L++[x],tk⟩ s oth hs (Ae hb _) (Ae hmb _) hval hlen hpair
 have hset : ∀l:List Bx,((L++l).set mb .dead).set b .dead=(L.set mb .dead).set b .dead++l:=fun l=>by
  rw [List.set_append_left _ _ hml,List.set_append_left _ _ (by simpa using hbl)]
 simp only [hset] at hrun
 obtain⟨Z,hZ⟩ : ∃Z,Z=(L.set mb .dead).set b .dead:=⟨_,rfl⟩
 have hZl:Z.length=L.length:=by rw [hZ];simp
 have hZle : ∀l:List Bx,A6 L.length tk.length (Z++l) Z:=fun l=>by
  rw [hZ]
  exact A6.ext l (A6.set (show E.leB _ _ .dead .dead from trivial) b (A6.set (show E.leB _ _ .dead .dead from trivial) mb (hS _ _ (Nat.le_refl _) (Nat.le_refl _))))
 simp only [←hZ] at hrun ⊢
 have hcE : ∀l:List Bx,(L++l)[cb]?=some (.cells [Code.l cs]):=fun l=>Ae hcb l
 have hcc:(cs.map Code.c)[i]?=some c.c:=by simp [hc]
 have hcc' : ∀h,(cs.map Code.c)[i]'h=c.c:=fun h=>by rw [List.getElem?_eq_getElem h] at hcc;exact Option.some.inj hcc
 have z0 : ∀(l:List Bx),(Z++l)[L.length]?=l[0]?:=fun l=>by rw [List.getElem?_append_right (by omega)];congr 1;omega
 have z1 : ∀(l:List Bx) (v:Bx),(Z++l).set L.length v=Z++l.set 0 v:=fun l v=>by rw [List.set_append_right _ _ (by omega)];congr 2;omega
 obtain⟨r,hr⟩ : ∃r,r=Bn s oth i (Aw s oth c.ins [] [] []):=⟨_,rfl⟩
 rw [←hr] at hrun ⊢
 obtain⟨⟨p1,p2,p3,p4,p5⟩,p6⟩:=r
 unfold peV pV at hrun ⊢
 obtain⟨cn,cp,ins⟩:=c
 (refine FnS.of_code mix Tryz.call56 k_56 (by simp) (fun hB=>?_);(try simp at hB);(try simp -implicitDefEqProofs))
 (try simp -implicitDefEqProofs [hcE,hcc,hcc',Code.l,Code.c,hci])
 refine Ab (hrun _) ?_
 (try simp -implicitDefEqProofs [z0,z1])
 refine⟨by omega,?_⟩
 rw [hZl]
 exact⟨hZle _,Cv.reflU _⟩
theorem A6.split {n m:Nat} : ∀{A X:List Bx},A6 n m (A++X) (A++X)→A6 n m A A∧A6 n m X X
 | [],_,h=>⟨trivial,h⟩
 | a::A,X,h=>by
  have:=A6.split (A:=A) (X:=X) h.2
  exact⟨⟨h.1,this.1⟩,this.2⟩
def Av:List Posting→List (Option Posting)→List Posting×Int
 | outs,[]=>(outs,0)
 | outs,none::_=>(outs,2)
 | outs,some p::l=>Av (if p.parts=[] then outs else outs++[p]) l
def Ew (outs:List Posting):V:=.own 0 75 5 (outs.map Posting.c)
theorem A5q (rf:Nat) (rcaps:List V) (rule:Int) (A C:List Bx) (outs:List Posting) (b mb:Nat) (r:Option Posting) (hU : ∀n m,(A++.cells [.fn (.func rf) rcaps]::.cells [Ew outs]::.cells [vI rule]::C).length≤n→1≤m→A6 n m (A++.cells [.fn (.func rf) rcaps]::.cells [Ew outs]::.cells [vI rule]::C) (A++.cells [.fn (.func rf) rcaps]::.cells [Ew outs]::.cells [vI rule]::C))
  (ho:outs.length≤1000000)
  (hb:A.length+3≤b) (hbl:b<A.length+3+C.length) (hm:A.length+3≤mb) (hml:mb<A.length+3+C.length)
  (hrun:FnS Tryz.prog rf ([.ptr b 0,vI rule]++rcaps) ⟨A++.cells [.fn (.func rf) rcaps]::.cells [Ew outs]::.cells [vI rule]::C,[outs.length]⟩ (peV (Dv r)) ⟨((A++.cells [.fn (.func rf) rcaps]::.cells [Ew outs]::.cells [vI rule]::C).set mb .dead).set b .dead,[outs.length]⟩) :
  FnS Tryz.prog 85 [.ptr b 0,.ptr A.length 0,.ptr (A.length+2) 0,.ptr (A.length+1) 0] ⟨A++.cells [.fn (.func rf) rcaps]::.cells [Ew outs]::.cells [vI rule]::C,[outs.length]⟩ (vI (Av outs [r]).2)
   ⟨A++.cells [.fn (.func rf) rcaps]::.cells [Ew (Av outs [r]).1]::.cells [vI rule]::(C.set (mb-(A.length+3)) .dead).set (b-(A.length+3)) .dead,[(Av outs [r]).1.length]⟩:=by
 obtain⟨j,rfl⟩ : ∃j,b=A.length+(j+3):=⟨b-(A.length+3),by omega⟩
 obtain⟨j',rfl⟩ : ∃j',mb=A.length+(j'+3):=⟨mb-(A.length+3),by omega⟩
 have e1:A.length+(j+3)-(A.length+3)=j:=by omega
 have e2:A.length+(j'+3)-(A.length+3)=j':=by omega
 rw [e1,e2]
 have a0 : ∀l:List Bx,(A++l)[A.length]?=l[0]?:=fun l=>by rw [List.getElem?_append_right (by omega)];congr 1;omega
 have a1 : ∀(l:List Bx) (j:Nat),(A++l)[A.length+j]?=l[j]?:=fun l j=>by rw [List.getElem?_append_right (by omega)];congr 1;omega
 have s1 : ∀(l:List Bx) (j:Nat) (v:Bx),(A++l).set (A.length+j) v=A++l.set j v:=fun l j v=>by rw [List.set_append_right _ _ (by omega)];congr 2;omega
 have c0 : ∀(l:List Bx),(C++l)[C.length]?=l[0]?:=fun l=>by rw [List.getElem?_append_right (by omega)];congr 1;omega
 rw [s1,s1] at hrun
 simp only [List.set_cons_succ] at hrun
 obtain⟨C',hC'⟩ : ∃C',C'=(C.set j' .dead).set j .dead:=⟨_,rfl⟩
 have hCl:C'.length=C.length:=by rw [hC'];simp
 rw [←hC'] at hrun ⊢
 have c2 : ∀(l:List Bx),(C'++l)[C.length]?=l[0]?:=fun l=>by rw [List.getElem?_append_right (by omega)];congr 1;omega
 have c3 : ∀(l:List Bx) (v:Bx),(C'++l).set C.length v=C'++l.set 0 v:=fun l v=>by rw [List.set_append_right _ _ (by omega)];congr 2;omega
 have hle : ∀(v:V) (l:List Bx) n m,A.length+3+C.length≤n→1≤m→okN n m v=true→A6 n m (A++.cells [.fn (.func rf) rcaps]::.cells [v]::.cells [vI rule]::(C'++l)) (A++.cells [.fn (.func rf) rcaps]::.cells [v]::.cells [vI rule]::C'):=fun v l n m hn hm hv=>by
  obtain⟨q1,q2,q3,q4,q5⟩:=A6.split (hU n m (by simp;omega) hm)
  refine (A6.appU q1).2 ⟨q2,⟨A3 _,by simp [okNs,hv]⟩,q4,?_⟩
  rw [hC']
  exact A6.ext l (A6.set (show E.leB _ _ .dead .dead from trivial) j (A6.set (show E.leB _ _ .dead .dead from trivial) j' q5))
 cases r with
 | none=>
  have hg:Av outs [none]=(outs,2):=rfl
  rw [hg]
  simp only [Dv,peV,pV,Bb] at hrun
  (refine FnS.of_code mix Tryz.call85 k_85 (by simp) (fun hB=>?_);(try simp at hB);(try simp -implicitDefEqProofs))
  (try simp -implicitDefEqProofs [a0,a1,s1])
  refine Ab hrun ?_
  (try simp -implicitDefEqProofs [a0,a1,s1,c0,c2,c3])
  exact⟨by omega,hle _ _ _ _ (by omega) (by omega) (by simp [Ew,okN])⟩
 | some p=>
  obtain⟨p1,p2,p3,p4,p5⟩:=p
  simp only [Dv,peV,pV] at hrun
  by_cases h5:p5=[]
  ·subst h5
   have hg:Av outs [some ⟨p1,p2,p3,p4,[]⟩]=(outs,0):=rfl
   rw [hg]
   (refine FnS.of_code mix Tryz.call85 k_85 (by simp) (fun hB=>?_);(try simp at hB);(try simp -implicitDefEqProofs))
   (try simp -implicitDefEqProofs [a0,a1,s1])
   refine Ab hrun ?_
   (try simp -implicitDefEqProofs [a0,a1,s1,c0,c2,c3])
   exact⟨by omega,hle _ _ _ _ (by omega) (by omega) (by simp [Ew,okN])⟩
  ·have hg:Av outs [some ⟨p1,p2,p3,p4,p5⟩]=(outs++[⟨p1,p2,p3,p4,p5⟩],0):=by simp only [Av];rw [if_neg h5]
   have h6:0<p5.length:=List.length_pos_iff.2 h5
   rw [hg]
   (refine FnS.of_code mix Tryz.call85 k_85 (by simp) (fun hB=>?_);(try simp at hB);(try simp -implicitDefEqProofs))
   (try simp -implicitDefEqProofs [a0,a1,s1])
   refine Ab hrun ?_
   (try simp -implicitDefEqProofs [a0,a1,s1,c0,c2,c3,h6,Ew,Posting.c])
   exact⟨⟨by unfold maxLen;omega,by omega⟩,by omega,hle _ _ _ _ (by omega) (by omega) (by simp [okN])⟩
end Go.Proofs.YtmlpmdccfmmpoaaGreatDoor
