/- The engine, part 1: abstract values (trees), their relation to the model's values, and the invariant that ties an abstract state to a world. -/
import Derived.WalkKit
import Derived.Laws.AppendOwn
import Derived.Laws.OwnMore
import Derived.Laws.Rows
import Derived.Laws.Cells
import Derived.Laws.StructEq
import Derived.Laws.Slices
import Derived.Laws.Strings
import Derived.Orders
import Derived.Still
import Derived.MapKept
import Derived.WideKeyRuns
import Derived.Lib.AppendStr
section
set_option linter.unusedSimpArgs false
set_option linter.unusedVariables false
namespace Go.Proofs.YtmlpmdccfmmpoaaGreatDoor
namespace E

inductive T where
 | int (k:IntKind) (n:Int)
 | bool (b:Bool)
 | str (s:List UInt8)
 | nilp
 | nilm
 | nilf
 | nili
 | sl (es:List (List T))
 | ifc (t:TypeId) (a:Bool) (cs:List T)

inductive V where
 | t (x:T)
 | und
 | junk
 | snil
 | full (es:List (List T))
 | own (k:Nat) (e:TypeId) (z:Nat) (es:List (List T))
 | ptr (b o:Nat)
 | tp (e:List T) (o:Nat)
 | fn (f:Fn) (caps:List V)
 | agg (cs:List V)
 | tup (vs:List V)
 | mp (b:Nat)
 | vw (b o n:Nat)
 | bw (b n:Nat)

inductive Bx where
 | dead
 | cells (cs:List V)
 | mp (es:List (V×V))
 | buf (e:TypeId) (z:Nat) (cs:List V)
 | itr (s:List UInt8) (p:Nat)

structure St where
 boxes:List Bx
 toks:List Nat

structure Gh where
 I:Nat→Nat→Option Value
 β:List Nat
 τ:List (Option (Nat×TypeId×Nat×Nat))
 base:Nat
 ent:List Nat
 κ:Nat→Nat

def Ut:List (Nat×List Value):=[]
  ++ [(0,(List.range 256).map fun i=>Value.int .u8 (if i=9∨i=10∨i=11∨i=12∨i=13∨i=32 then 1 else 0))]
def A42:Value→Option T
 | .int k n=>some (.int k n)
 | _=>none
def Pq:List Value→Option (List T)
 | []=>some []
 | v::vs=>match A42 v,Pq vs with
  | some x,some xs=>some (x::xs)
  | _,_=>none
def Pr (b:Nat):Option (List T):=((Ut.find? fun p=>p.1==b).map (·.2)).bind Pq
def Gj (b o:Nat):Option Value:=((Ut.find? fun p=>p.1==b).map (·.2)).bind (·[o]?)
def Uu (b:Nat):Nat:=(((Ut.find? fun p=>p.1==b).map (·.2.length)).getD 0)

inductive RelT (I:Nat→Nat→Option Value):T→Value→Prop where
 | int (k:IntKind) (n:Int):RelT I (.int k n) (.int k n)
 | bool (b:Bool):RelT I (.bool b) (.bool b)
 | str (s:List UInt8):RelT I (.str s) (.string ⟨s.toArray⟩)
 | nilp:RelT I .nilp (.pointer none)
 | nilm:RelT I .nilm (.map none)
 | nilf:RelT I .nilf .nilFunc
 | nili:RelT I .nili .nilIface
 | slnil:RelT I (.sl []) (.slice none 0 0)
 | slz (a:Addr) (cap:Nat) (hm:cap≤maxLen):RelT I (.sl []) (.slice (some a) 0 cap)
 | sl (es:List (List T)) (b off cap z:Nat) (c:Nat→Nat→Value) (hz : ∀i,i<es.length→(es.getD i []).length=z)
   (hc:es.length≤cap) (hm:cap≤maxLen)
   (hI : ∀i j,i<es.length→j<z→I b (off+i*z+j)=some (c i j))
   (hr : ∀i j,i<es.length→j<z→RelT I ((es.getD i []).getD j .nilp) (c i j)) :
   RelT I (.sl es) (.slice (some ⟨b,off,none⟩) es.length cap)
 | ifc1 (t:TypeId) (x:T) (v:Value) (h:RelT I x v):RelT I (.ifc t false [x]) (.iface t v)
 | ifca (t:TypeId) (cs:List T) (vs:Array Value) (hl:vs.size=cs.length)
   (hr : ∀j,j<cs.length→RelT I (cs.getD j .nilp) (vs.getD j undef)):RelT I (.ifc t true cs) (.iface t (.agg vs))

def Oh (g:Gh) (k:Nat) (e:TypeId) (z:Nat) (es:List (List T)) (v:Value):Prop:=
 (g.τ[k]?=some none∧es=[]∧v=.slice none 0 0)∨
 (∃blk cap,g.τ[k]?=some (some (blk,e,z,cap))∧v=.slice (some ⟨blk,0,none⟩) es.length cap)

inductive RelV (g:Gh) (tk:List Nat):V→Value→Prop where
 | t (x:T) (v:Value) (h:RelT g.I x v):RelV g tk (.t x) v
 | und:RelV g tk .und undef
 | junk (v:Value):RelV g tk .junk v
 | snil:RelV g tk .snil (.slice none 0 0)
 | full (es:List (List T)) (a:Option Addr) (h:RelT g.I (.sl es) (.slice a es.length es.length)):RelV g tk (.full es) (.slice a es.length es.length)
 | own (k:Nat) (e:TypeId) (z:Nat) (es:List (List T)) (v:Value) (n:Nat) (h:RelT g.I (.sl es) v) (hz : ∀x∈es,x.length=z)
   (hn:tk[k]?=some n) (hle:es.length≤n) (hg:es.length=n→Oh g k e z es v):RelV g tk (.own k e z es) v
 | ptr (b o blk:Nat) (h:g.β[b]?=some blk):RelV g tk (.ptr b o) (.pointer (some ⟨blk,o,none⟩))
 | tp (e:List T) (o blk off:Nat) (c:Nat→Value) (hI : ∀j,j<e.length→g.I blk (off+j)=some (c j))
   (hr : ∀j,j<e.length→RelT g.I (e.getD j .nilp) (c j)):RelV g tk (.tp e o) (.pointer (some ⟨blk,off+o,none⟩))
 | fn (f:Fn) (caps:List V) (vs:Array Value) (hl:vs.size=caps.length)
   (hr : ∀j,j<caps.length→RelV g tk (caps.getD j .junk) (vs.getD j undef)):RelV g tk (.fn f caps) (.func f #[] vs)
 | agg (cs:List V) (vs:Array Value) (hl:vs.size=cs.length)
   (hr : ∀j,j<cs.length→RelV g tk (cs.getD j .junk) (vs.getD j undef)):RelV g tk (.agg cs) (.agg vs)
 | tup (cs:List V) (vs:Array Value) (hl:vs.size=cs.length)
   (hr : ∀j,j<cs.length→RelV g tk (cs.getD j .junk) (vs.getD j undef)):RelV g tk (.tup cs) (.tuple vs)
 | mp (b blk:Nat) (h:g.β[b]?=some blk):RelV g tk (.mp b) (.map (some blk))
 | vw (b o n blk cap:Nat) (h:g.β[b]?=some blk) (hc:n≤cap) (hm:cap≤maxLen):RelV g tk (.vw b o n) (.slice (some ⟨blk,o,none⟩) n cap)
 | bw (b n blk cap:Nat) (h:g.β[b]?=some blk) (hc:n≤cap) (hk:cap≤g.κ blk) (hm:cap≤maxLen):RelV g tk (.bw b n) (.slice (some ⟨blk,0,none⟩) n cap)

structure Ext (g:Gh) (tk:List Nat) (g':Gh) (tk':List Nat):Prop where
 I : ∀b o c,g.I b o=some c→g'.I b o=some c
 β : ∀(i x:Nat),g.β[i]?=some x→g'.β[i]?=some x
 τ : ∀(k n:Nat),tk[k]?=some n→∃n',tk'[k]?=some n'∧n≤n'∧(n'=n→g'.τ[k]?=g.τ[k]?)
 base:g'.base=g.base
 ent:g'.ent=g.ent
 icl : ∀b o c,g'.I b o=some c→g.I b o=some c∨g.base≤b∨b∈g.ent
 κ : ∀(i x:Nat),g.β[i]?=some x→g'.κ x=g.κ x

theorem Ext.refl (g:Gh) (tk:List Nat):Ext g tk g tk:=
 ⟨fun _ _ _ h=>h,fun _ _ h=>h,fun _ n h=>⟨n,h,Nat.le_refl _,fun _=>rfl⟩,rfl,rfl,fun _ _ _ h=>.inl h,fun _ _ _=>rfl⟩
theorem Ext.trans {g g' g'':Gh} {a b c:List Nat} (h:Ext g a g' b) (k:Ext g' b g'' c):Ext g a g'' c:=by
 refine⟨fun x y z hx=>k.I _ _ _ (h.I _ _ _ hx),fun i x hx=>k.β _ _ (h.β _ _ hx),?_,k.base.trans h.base,k.ent.trans h.ent,fun b o c hc=>?_,fun i x hx=>(k.κ i x (h.β i x hx)).trans (h.κ i x hx)⟩
 ·intro i n hn
  obtain⟨n1,h1,h2,h3⟩:=h.τ i n hn
  obtain⟨n2,k1,k2,k3⟩:=k.τ i n1 h1
  exact⟨n2,k1,by omega,fun e=>(k3 (by omega)).trans (h3 (by omega))⟩
 ·rcases k.icl b o c hc with h1|h1
  ·exact h.icl b o c h1
  ·rw [h.base,h.ent] at h1;exact .inr h1

theorem RelT.mono {I I':Nat→Nat→Option Value} (hI : ∀b o c,I b o=some c→I' b o=some c) {x:T} {v:Value} (h:RelT I x v):RelT I' x v:=by
 induction h with
 | int=>exact .int _ _
 | bool=>exact .bool _
 | str=>exact .str _
 | nilp=>exact .nilp
 | nilm=>exact .nilm
 | nilf=>exact .nilf
 | nili=>exact .nili
 | slnil=>exact .slnil
 | slz a cap hm=>exact .slz a cap hm
 | sl es b off cap z c hz hc hm hI' hr ih=>exact .sl es b off cap z c hz hc hm (fun i j hi hj=>hI _ _ _ (hI' i j hi hj)) (fun i j hi hj=>ih i j hi hj)
 | ifc1 t x v h ih=>exact .ifc1 t x v ih
 | ifca t cs vs hl hr ih=>exact .ifca t cs vs hl ih

theorem RelV.mono {g g':Gh} {tk tk':List Nat} (H:Ext g tk g' tk') {x:V} {v:Value} (h:RelV g tk x v):RelV g' tk' x v:=by
 induction h with
 | t x v h=>exact .t x v (h.mono H.I)
 | und=>exact .und
 | junk v=>exact .junk v
 | snil=>exact .snil
 | full es a h=>exact .full es a (h.mono H.I)
 | own k e z es v n h hz hn hle hg=>
  obtain⟨n',h1,h2,h3⟩:=H.τ k n hn
  refine .own k e z es v n' (h.mono H.I) hz h1 (by omega) fun he=>?_
  have hn':n'=n:=by omega
  have:=hg (by omega)
  unfold Oh at *
  rw [h3 hn']
  exact this
 | ptr b o blk h=>exact .ptr b o blk (H.β _ _ h)
 | tp e o blk off c hI hr=>exact .tp e o blk off c (fun j hj=>H.I _ _ _ (hI j hj)) (fun j hj=>(hr j hj).mono H.I)
 | fn f caps vs hl hr ih=>exact .fn f caps vs hl ih
 | agg cs vs hl hr ih=>exact .agg cs vs hl ih
 | tup cs vs hl hr ih=>exact .tup cs vs hl ih
 | mp b blk h=>exact .mp b blk (H.β _ _ h)
 | vw b o n blk cap h hc hm=>exact .vw b o n blk cap (H.β _ _ h) hc hm
 | bw b n blk cap h hc hk hm=>exact .bw b n blk cap (H.β _ _ h) hc (by rw [H.κ _ _ h];exact hk) hm

def A3l (g:Gh) (tk:List Nat) (es:List (V×V)) (ms:Array MapEntry) (clock:Nat):Prop:=
 ms.size=es.length∧(∀j,j<es.length→∃m,ms[j]?=some m∧RelV g tk (es.getD j (.junk,.junk)).1 m.key∧RelV g tk (es.getD j (.junk,.junk)).2 m.val∧m.born<clock)∧
 ms.size≤maxLen∧(ms.toList.map (·.born)).Pairwise (· < ·)

def Ng (g:Gh) (tk:List Nat) (w:World) (blk:Nat):Bx→Prop
 | .dead=>True
 | .cells cs=>∃(vs:Array Value) (ty:TypeId),w.heap[blk]?=some (.cells vs ty (0,0))∧vs.size=cs.length∧∀j,j<cs.length→RelV g tk (cs.getD j .junk) (vs.getD j undef)
 | .mp es=>∃ms clock,w.heap[blk]?=some (.map ms clock)∧A3l g tk es ms clock
 | .itr s p=>w.heap[blk]?=some (.stringIter ⟨s.toArray⟩ p)
 | .buf e z cs=>∃vs:Array Value,w.heap[blk]?=some (.cells vs e (0,0))∧g.κ blk*z≤vs.size∧(cs.length≤vs.size∧(z=0→vs.size=cs.length))∧∀j,j<cs.length→RelV g tk (cs.getD j .junk) (vs.getD j undef)

def Wr (g:Gh) (b:Nat):Prop:=g.base≤b∨b∈g.ent

structure Inv (g:Gh) (S:St) (w:World):Prop where
 imm : ∀b o c,g.I b o=some c→w.cell? ⟨b,o,none⟩=some c
 len:g.β.length=S.boxes.length
 nodup : ∀(i j blk:Nat),g.β[i]?=some blk→g.β[j]?=some blk→i≠j→S.boxes[i]?=some .dead∨S.boxes[j]?=some .dead
 box : ∀(i blk:Nat) (bx:Bx),g.β[i]?=some blk→S.boxes[i]?=some bx→Ng g S.toks w blk bx
 sep : ∀(i blk:Nat) (bx:Bx),g.β[i]?=some blk→S.boxes[i]?=some bx→bx≠.dead→∀o,g.I blk o=none
 bwr : ∀(i blk:Nat),g.β[i]?=some blk→Wr g blk
 tlen:g.τ.length=S.toks.length
 tok : ∀(k n blk:Nat) (e:TypeId) (z cap:Nat),g.τ[k]?=some (some (blk,e,z,cap))→S.toks[k]?=some n→
  (maxLen<n∨∃cur,w.heap[blk]?=some (.cells cur e (0,0))∧cur.size=cap*z∧n≤cap∧cap≤maxLen)∧(∀o,n*z≤o→g.I blk o=none)∧blk∉g.β∧Wr g blk∧blk<w.heap.size
 tnil : ∀(k n:Nat),g.τ[k]?=some none→S.toks[k]?=some n→n=0
 tdis : ∀(k l:Nat) (x y:Nat×TypeId×Nat×Nat),g.τ[k]?=some (some x)→g.τ[l]?=some (some y)→x.1=y.1→k=l
 lo:g.base≤w.heap.size
 bold : ∀(i blk:Nat),g.β[i]?=some blk→blk<w.heap.size
 lay : ∀(b o:Nat) (c:Value),Gj b o=some c→g.I b o=some c
 lsz : ∀(b:Nat) (c:Value),Gj b 0=some c→∃cs ty fz,w.heap[b]?=some (.cells cs ty fz)∧cs.size=Uu b

structure Frm (g:Gh) (w w':World):Prop where
 os:w'.os=w.os
 tape:w'.tape=w.tape
 output:w'.output=w.output
 size:w.heap.size≤w'.heap.size
 block : ∀k,k<g.base→k∉g.ent→w'.heap[k]?=w.heap[k]?

theorem Frm.refl (g:Gh) (w:World):Frm g w w:=⟨rfl,rfl,rfl,Nat.le_refl _,fun _ _ _=>rfl⟩
theorem Frm.trans {g:Gh} {a b c:World} (h:Frm g a b) (k:Frm g b c):Frm g a c:=
 ⟨k.os.trans h.os,k.tape.trans h.tape,k.output.trans h.output,Nat.le_trans h.size k.size,fun i h1 h2=>(k.block i h1 h2).trans (h.block i h1 h2)⟩
theorem Frm.of_eq {g g':Gh} {a b:World} (hb:g'.base=g.base) (he:g'.ent=g.ent) (h:Frm g' a b):Frm g a b:=
 ⟨h.os,h.tape,h.output,h.size,fun k h1 h2=>h.block k (by rw [hb];exact h1) (by rw [he];exact h2)⟩

structure Mv (g:Gh) (S:St) (w:World) (g':Gh) (S':St) (w':World):Prop where
 inv:Inv g' S' w'
 ext:Ext g S.toks g' S'.toks
 frm:Frm g w w'

theorem Mv.refl {g:Gh} {S:St} {w:World} (h:Inv g S w):Mv g S w g S w:=⟨h,Ext.refl _ _,Frm.refl _ _⟩
theorem Mv.trans {g:Gh} {S:St} {w:World} {g':Gh} {S':St} {w':World} {g'':Gh} {S'':St} {w'':World} (h:Mv g S w g' S' w') (k:Mv g' S' w' g'' S'' w''):Mv g S w g'' S'' w'':=
 ⟨k.inv,h.ext.trans k.ext,h.frm.trans (Frm.of_eq h.ext.base h.ext.ent k.frm)⟩

theorem Ng.mono {g g':Gh} {tk tk':List Nat} (H:Ext g tk g' tk') {w w':World} {blk:Nat} {bx:Bx} {i:Nat} (hβ:g.β[i]?=some blk) (hw:w'.heap[blk]?=w.heap[blk]?) (h:Ng g tk w blk bx):Ng g' tk' w' blk bx:=by
 cases bx with
 | dead=>trivial
 | cells cs=>
  obtain⟨vs,ty,h1,h2,h3⟩:=h
  exact⟨vs,ty,hw.trans h1,h2,fun j hj=>(h3 j hj).mono H⟩
 | mp es=>
  obtain⟨ms,cl,h1,h2,h3,h4,h5⟩:=h
  refine⟨ms,cl,hw.trans h1,h2,fun j hj=>?_,h4,h5⟩
  obtain⟨m,a,b,c,d⟩:=h3 j hj
  exact⟨m,a,b.mono H,c.mono H,d⟩
 | buf e z cs=>
  obtain⟨vs,h1,h2,h3,h4⟩:=h
  exact⟨vs,hw.trans h1,by rw [H.κ _ _ hβ];exact h2,h3,fun j hj=>(h4 j hj).mono H⟩
 | itr s p=>exact hw.trans h

theorem Le : ∀{l:List Value} {e:List T},Pq l=some e→e.length=l.length∧∀j,j<e.length→A42 (l.getD j undef)=some (e.getD j .nilp)
 | [],e,h=>by simp [Pq] at h;subst h;simp
 | v::vs,e,h=>by
  simp only [Pq] at h
  split at h
  ·rename_i x xs hx hxs
   simp only [Option.some.injEq] at h
   subst h
   obtain⟨h1,h2⟩:=Le hxs
   refine⟨by simp [h1],fun j hj=>?_⟩
   cases j with
   | zero=>simpa using hx
   | succ j=>simpa using h2 j (by simpa using hj)
  ·cases h
theorem A1e {g:Gh} {S:St} {w:World} (hI:Inv g S w) {b:Nat} {e:List T} (he:Pr b=some e):RelV g S.toks (.tp e 0) (.pointer (some ⟨b,0,none⟩)):=by
 unfold Pr at he
 rw [Option.bind_eq_some_iff] at he
 obtain⟨l,hl,hs⟩:=he
 obtain⟨h1,h2⟩:=Le hs
 refine .tp e 0 b 0 (fun j=>l.getD j undef) (fun j hj=>?_) fun j hj=>?_
 ·rw [Nat.zero_add]
  refine hI.lay b j _ ?_
  unfold Gj
  rw [hl]
  have hj':j<l.length:=by omega
  simp [List.getD_eq_getElem?_getD,hj']
 ·have:=h2 j hj
  generalize l.getD j undef=v at *
  generalize e.getD j .nilp=x at *
  cases v<;>simp [A42] at this
  subst this
  exact .int _ _

theorem Inv.drew {g:Gh} {S:St} {w:World} (h:Inv g S w):Inv g S w.drew:=
 ⟨h.imm,h.len,h.nodup,fun i blk bx h1 h2=>(h.box i blk bx h1 h2).mono (Ext.refl _ _) h1 rfl,h.sep,h.bwr,h.tlen,h.tok,h.tnil,h.tdis,h.lo,h.bold,h.lay,h.lsz⟩
theorem Mv.drew {g:Gh} {S:St} {w:World} (h:Inv g S w):Mv g S w g S w.drew:=⟨h.drew,Ext.refl _ _,⟨rfl,rfl,rfl,Nat.le_refl _,fun _ _ _=>rfl⟩⟩

end E
end Go.Proofs.YtmlpmdccfmmpoaaGreatDoor
end

/- The engine, part 2: what one operation does to an abstract state. -/
section
set_option linter.unusedSimpArgs false
set_option linter.unusedVariables false
namespace Go.Proofs.YtmlpmdccfmmpoaaGreatDoor
namespace E

inductive Opd where
 | tmp (t:Nat)
 | c (v:V)

inductive EK where
 | mv
 | pick
 | box
 | alloc (z:List V)
 | allocT (e:TypeId) (z:List V)
 | build (z:List V) (ps:List (Nat×Nat))
 | bsl (sz:Nat)
 | bslB (e:TypeId) (sz:Nat)
 | load (n:Nat) (a:Bool)
 | store (n:Nat)
 | faddr (off:Nat)
 | fld (n:Nat) (a:Bool) (off:Nat)
 | iaS (sz:Nat)
 | iaA (len sz:Nat)
 | ixA (len sz n:Nat) (a:Bool)
 | ixS
 | bin (op:BinOp)
 | eqv (neg a:Bool) (ks:List Nat)
 | un (op:UnOp)
 | cvI (k:IntKind)
 | cvS
 | ext (i:Nat)
 | nilc
 | mkfn (f:Fn)
 | lenS
 | lenL
 | lenA (n:Nat)
 | app (e:TypeId) (sz bytes:Nat)
 | appS (e:TypeId)
 | slA (len sz:Nat) (lo hi:Bool)
 | slS (lo hi:Bool)
 | slL (sz:Nat) (lo hi mx:Bool)
 | mm (mx:Bool)
 | mkmap
 | lkp (ka:Bool) (ks:List Nat) (a ok:Bool) (z:List V)
 | mup (ka:Bool) (ks:List Nat)
 | lenM
 | mks (e:TypeId) (sz bytes:Nat) (z:List V)
 | appB (e:TypeId) (sz bytes:Nat)
 | mki (t:TypeId)
 | tas (t:TypeId) (z:V)
 | eqn (neg:Bool)
 | rngS
 | nxtS
 | clr (z:V)
 | cpy
 | pan
 | call (f:Nat)
 | callv

structure EO where
 d:Option Nat
 g:Option (Nat×Bool)
 k:EK
 xs:List Opd

def cellsV:V→List V
 | .agg cs=>cs
 | .t x=>[.t x]
 | .und=>[.und]
 | .junk=>[.junk]
 | .snil=>[.snil]
 | .full es=>[.full es]
 | .own k e z es=>[.own k e z es]
 | .ptr b o=>[.ptr b o]
 | .tp e o=>[.tp e o]
 | .fn f c=>[.fn f c]
 | .tup vs=>[.tup vs]
 | .mp b=>[.mp b]
 | .vw b o n=>[.vw b o n]
 | .bw b n=>[.bw b n]

def cellB:V→Bool
 | .t _ | .snil | .full _ | .own .. | .ptr .. | .tp .. | .fn .. | .mp _ | .vw .. | .bw ..=>true
 | _=>false

def isAggV:V→Bool
 | .agg _=>true
 | _=>false

def okV (v:V):Bool:=(cellsV v).all cellB

def toT:V→Option T
 | .t x=>some x
 | .snil=>some (.sl [])
 | .full es=>some (.sl es)
 | .own _ _ _ es=>some (.sl es)
 | _=>none

def Bu:List V→Option (List T)
 | []=>some []
 | v::vs=>match toT v,Bu vs with
  | some x,some xs=>some (x::xs)
  | _,_=>none

@[simp] theorem Yg (l:List T):Bu (l.map V.t)=some l:=by
 induction l with
 | nil=>rfl
 | cons x l ih=>simp [Bu,toT,ih]

def Ps:V→Option (List (List T))
 | .t (.sl es)=>some es
 | .snil=>some []
 | .full es=>some es
 | .own _ _ _ es=>some es
 | _=>none

def ldv (a:Bool) (n:Nat) (cs:List V):V:=if a then .agg (cs.take n) else cs.headD .junk

def C2 (cs:List V) (o:Nat) (vs:List V):List V:=cs.take o++vs++cs.drop (o+vs.length)

def Lf (cells:List V):List (Nat×Nat)→List V→Option (List V)
 | (off,size)::ps,v::vs=>if (cellsV v).length=size∧off+(cellsV v).length≤cells.length then Lf (C2 cells off (cellsV v)) ps vs else none
 | [],[]=>some cells
 | _,_=>none

def eqC:List Nat→List T→List T→Option Bool
 | [],[],[]=>some true
 | 0::ks,.bool a::xs,.bool b::ys=>(eqC ks xs ys).map fun r=>(a==b)&&r
 | 1::ks,.int k a::xs,.int k' b::ys=>if k=k' then (eqC ks xs ys).map fun r=>(a==b)&&r else none
 | 2::ks,.str a::xs,.str b::ys=>(eqC ks xs ys).map fun r=>(a==b)&&r
 | _,_,_=>none

def B5:Bx→Option (List V)
 | .cells cs=>some cs
 | .buf _ _ cs=>some cs
 | _=>none
def Lg:Bx→List V→Bx
 | .buf e z _,cs=>.buf e z cs
 | _,cs=>.cells cs
@[simp] theorem A1f (cs:List V):B5 (.cells cs)=some cs:=rfl
@[simp] theorem A43 (e:TypeId) (z:Nat) (cs:List V):B5 (.buf e z cs)=some cs:=rfl
@[simp] theorem A44 (cs cs':List V):Lg (.cells cs) cs'=.cells cs':=rfl
@[simp] theorem A6p (e:TypeId) (z:Nat) (cs cs':List V):Lg (.buf e z cs) cs'=.buf e z cs':=rfl

def eqK (ka:Bool) (ks:List Nat) (k:List T) (q:V):Option Bool:=
 if isAggV q=ka then (match Bu (cellsV q) with|some ys=>eqC ks k ys|none=>none) else none
def Ez (ka:Bool) (ks:List Nat) (k:List T):List (V×V)→Option (Option V)
 | []=>some none
 | (q,v)::es=>match eqK ka ks k q with
  | some true=>some (some v)
  | some false=>Ez ka ks k es
  | none=>none
def Gk (ka:Bool) (ks:List Nat) (k:List T) (kv v:V):List (V×V)→Option (List (V×V))
 | []=>some [(kv,v)]
 | (q,u)::es=>match eqK ka ks k q with
  | some true=>some ((kv,v)::es)
  | some false=>(Gk ka ks k kv v es).map ((q,u) :: ·)
  | none=>none

def Fj (c a b:V) (S:St) (K:V→St→Prop):Prop:=
 match c with
 | .t (.bool t)=>if t=true then K a S else K b S
 | _=>False

def Sp (v:V) (S:St) (K:V→St→Prop):Prop:=
 (isAggV v||cellB v)=true∧K (.ptr S.boxes.length 0) { S with boxes:=S.boxes++[.cells (cellsV v)] }

def Ih (n:Nat) (a:Bool) (v:V) (S:St) (K:V→St→Prop):Prop:=
 match v with
 | .ptr b o=>match S.boxes[b]?.bind B5 with
  | some cs=>o+n≤cs.length∧K (ldv a n (cs.drop o)) S
  | none=>False
 | .tp e o=>o+n≤e.length∧K (ldv a n ((e.drop o).map V.t)) S
 | _=>False

def Gl (n:Nat) (ad v:V) (S:St) (K:V→St→Prop):Prop:=
 match ad with
 | .ptr b o=>match S.boxes[b]?.bind B5 with
  | some cs=>(o+n≤cs.length∧(cellsV v).length=n∧okV v=true)∧K .und { S with boxes:=S.boxes.set b (Lg (S.boxes.getD b .dead) (C2 cs o (cellsV v))) }
  | none=>False
 | _=>False

def Ht (off:Nat) (v:V) (S:St) (K:V→St→Prop):Prop:=
 match v with
 | .ptr b o=>K (.ptr b (o+off)) S
 | .tp e o=>K (.tp e (o+off)) S
 | _=>False

def Sr (n:Nat) (a:Bool) (off:Nat) (v:V) (S:St) (K:V→St→Prop):Prop:=
 match v with
 | .agg cs=>off+n≤cs.length∧K (ldv a n (cs.drop off)) S
 | _=>False

def Ss (sz:Nat) (s i:V) (S:St) (K:V→St→Prop):Prop:=
 match Ps s,i with
 | some es,.t (.int _ n)=>(0≤n∧n<es.length∧(es.getD n.toNat []).length=sz)∧K (.tp (es.getD n.toNat []) 0) S
 | none,.t (.int _ n)=>match s with
  | .vw b o len=>(0≤n∧n<len)∧K (.ptr b (o+n.toNat*sz)) S
  | .bw b len=>(0≤n∧n<len)∧K (.ptr b (n.toNat*sz)) S
  | _=>False
 | _,_=>False

def Su (len sz:Nat) (p i:V) (S:St) (K:V→St→Prop):Prop:=
 match p,i with
 | .ptr b o,.t (.int _ n)=>(0≤n∧n<len)∧K (.ptr b (o+n.toNat*sz)) S
 | .tp e o,.t (.int _ n)=>(0≤n∧n<len)∧K (.tp e (o+n.toNat*sz)) S
 | _,_=>False

def Sv (len sz n:Nat) (a:Bool) (x i:V) (S:St) (K:V→St→Prop):Prop:=
 match x,i with
 | .agg cs,.t (.int _ j)=>(0≤j∧j<len∧j.toNat*sz+n≤cs.length)∧K (ldv a n (cs.drop (j.toNat*sz))) S
 | _,_=>False

def Pt (x i:V) (S:St) (K:V→St→Prop):Prop:=
 match x,i with
 | .t (.str s),.t (.int _ j)=>(0≤j∧j<s.length)∧K (.t (.int .u8 (s.getD j.toNat 0).toNat)) S
 | _,_=>False

def Fc (op:BinOp) (k:IntKind) (x y:Int):Int:=
 match op with
 | .and=>k.wrap ((BitVec.ofInt k.bits x &&& BitVec.ofInt k.bits y).toNat:Int)
 | .or=>k.wrap ((BitVec.ofInt k.bits x ||| BitVec.ofInt k.bits y).toNat:Int)
 | .xor=>k.wrap ((BitVec.ofInt k.bits x ^^^ BitVec.ofInt k.bits y).toNat:Int)
 | _=>k.wrap ((BitVec.ofInt k.bits x &&& ~~~ BitVec.ofInt k.bits y).toNat:Int)
def Vy (op:BinOp) (k:IntKind) (a b:Int) (S:St) (K:V→St→Prop):Prop:=
 match op with
 | .add=>K (.t (.int k (k.wrap (a+b)))) S
 | .sub=>K (.t (.int k (k.wrap (a-b)))) S
 | .mul=>K (.t (.int k (k.wrap (a*b)))) S
 | .quo=>b≠0∧K (.t (.int k (k.wrap (a.tdiv b)))) S
 | .rem=>b≠0∧K (.t (.int k (a.tmod b))) S
 | .eql=>K (.t (.bool (a==b))) S
 | .neq=>K (.t (.bool (a != b))) S
 | .lss=>K (.t (.bool (decide (a<b)))) S
 | .leq=>K (.t (.bool (decide (a≤b)))) S
 | .gtr=>K (.t (.bool (decide (b<a)))) S
 | .geq=>K (.t (.bool (decide (b≤a)))) S
 | .and=>K (.t (.int k (Fc .and k a b))) S
 | .or=>K (.t (.int k (Fc .or k a b))) S
 | .xor=>K (.t (.int k (Fc .xor k a b))) S
 | .andNot=>K (.t (.int k (Fc .andNot k a b))) S
 | _=>False

def Vz (op:BinOp) (a b:List UInt8) (S:St) (K:V→St→Prop):Prop:=
 match op with
 | .add=>a.length+b.length≤maxLen∧K (.t (.str (a++b))) S
 | .eql=>K (.t (.bool (a==b))) S
 | .neq=>K (.t (.bool (!(a==b)))) S
 | .lss=>K (.t (.bool (Op.bytesLess a b))) S
 | .leq=>K (.t (.bool (Op.bytesLess a b||a==b))) S
 | .gtr=>K (.t (.bool (!(Op.bytesLess a b||a==b)))) S
 | .geq=>K (.t (.bool (!Op.bytesLess a b))) S
 | _=>False

def Sw (op:BinOp) (x y:V) (S:St) (K:V→St→Prop):Prop:=
 match x,y with
 | .t (.int k a),.t (.int k' b)=>k=k'∧Vy op k a b S K
 | .t (.str a),.t (.str b)=>Vz op a b S K
 | _,_=>False

def W0 (neg a:Bool) (ks:List Nat) (x y:V) (S:St) (K:V→St→Prop):Prop:=
 (isAggV x=a∧isAggV y=a)∧
 match Bu (cellsV x),Bu (cellsV y) with
 | some xs,some ys=>match eqC ks xs ys with
  | some r=>K (.t (.bool (if neg then !r else r))) S
  | none=>False
 | _,_=>False

def unK (op:UnOp) (x:V) (S:St) (K:V→St→Prop):Prop:=
 match op,x with
 | .not,.t (.bool b)=>K (.t (.bool (!b))) S
 | .neg,.t (.int k n)=>K (.t (.int k (k.wrap (0-n)))) S
 | .xor,.t (.int k n)=>K (.t (.int k (Fc .xor k (if k.signed then -1 else k.max) n))) S
 | _,_=>False

def Sx (k:IntKind) (x:V) (S:St) (K:V→St→Prop):Prop:=
 match x with
 | .t (.int _ n)=>K (.t (.int k (k.wrap n))) S
 | _=>False

def Sy (x:V) (S:St) (K:V→St→Prop):Prop:=
 match x with
 | .t (.str s)=>K (.t (.str s)) S
 | _=>False

def Sz (i:Nat) (x:V) (S:St) (K:V→St→Prop):Prop:=
 match x with
 | .tup vs=>i<vs.length∧K (vs.getD i .junk) S
 | _=>False

def Lh (x:V) (S:St) (K:V→St→Prop):Prop:=
 match x with
 | .ptr b o=>K (.ptr b o) S
 | .tp e o=>K (.tp e o) S
 | _=>False

def Li (x:V) (S:St) (K:V→St→Prop):Prop:=
 match x with
 | .t (.str s)=>K (.t (.int .i64 s.length)) S
 | _=>False

def Lj (x:V) (S:St) (K:V→St→Prop):Prop:=
 match Ps x with
 | some es=>K (.t (.int .i64 es.length)) S
 | none=>match x with
  | .vw _ _ n=>K (.t (.int .i64 n)) S
  | .bw _ n=>K (.t (.int .i64 n)) S
  | _=>False

def F0 (sz n:Nat) (ts:List T):Option (List (List T)):=if ts.length=n*sz then some ((List.range n).map fun i=>(ts.drop (i*sz)).take sz) else none
def Ef (sz o n:Nat) (cs:List V):Option (List (List T)):=(Bu ((cs.drop o).take (n*sz))).bind (F0 sz n)
def Ks (sz:Nat) (x:V) (S:St):Option (List (List T)):=
 match Ps x with
 | some es=>some es
 | none=>match x with
  | .vw b o n=>(S.boxes[b]?.bind B5).bind (Ef sz o n)
  | .bw b n=>(S.boxes[b]?.bind B5).bind (Ef sz 0 n)
  | _=>none

def Lk (e:TypeId) (sz bytes:Nat) (s:V) (new:List (List T)) (S:St) (K:V→St→Prop):Prop:=
  ((∀y∈new,y.length=sz))∧
  match s with
  | .snil=>(new.length≤maxLen∧new.length*bytes≤140737488355328)∧K (.own S.toks.length e sz new) { S with toks:=S.toks++[new.length] }
  | .full es=>if new=[] then K (.full es) S else ((∀y∈es,y.length=sz)∧es.length+new.length≤maxLen∧(es.length+new.length)*bytes≤140737488355328)∧
    K (.own S.toks.length e sz (es++new)) { S with toks:=S.toks++[es.length+new.length] }
  | .own k e' z es=>(e'=e∧z=sz∧S.toks[k]?=some es.length∧es.length+new.length≤maxLen∧(es.length+new.length)*bytes≤140737488355328)∧
    K (.own k e sz (es++new)) { S with toks:=S.toks.set k (es.length+new.length) }
  | _=>False
def T1 (e:TypeId) (sz bytes:Nat) (s x:V) (S:St) (K:V→St→Prop):Prop:=
 match Ks sz x S with
 | none=>False
 | some new=>Lk e sz bytes s new S K
def Ii (l:List UInt8):List (List T):=l.map fun c=>[.int .u8 (c.toNat:Int)]
def Ll (e:TypeId) (s x:V) (S:St) (K:V→St→Prop):Prop:=
 match x with
 | .t (.str l)=>Lk e 1 1 s (Ii l) S K
 | _=>False

def Kt (sz:Nat) (vs:List V) (S:St) (K:V→St→Prop):Prop:=
 match vs.mapM (fun v=>Bu (cellsV v)) with
 | some es=>(∀e∈es,e.length=sz)∧K (.full es) S
 | none=>False

def Ij (e:TypeId) (sz:Nat) (vs:List V) (S:St) (K:V→St→Prop):Prop:=
 match vs.mapM (fun v=>Bu (cellsV v)) with
 | some es=>(∀e∈es,e.length=sz)∧K (.full es) S
 | none=>(∀v∈vs,(cellsV v).length=sz∧(isAggV v=true∨cellB v=true))∧K (.bw S.boxes.length vs.length) { S with boxes:=S.boxes++[.buf e sz (vs.flatMap cellsV)] }

def loI (has:Bool) (vs:List V) (d:Int):Int:=
 if has then (match vs.headD .und with | .t (.int _ n)=>n|_=>-1) else d

def K2 (e:TypeId) (sz bytes:Nat) (s:V) (cnt:Nat) (nv:List V) (S:St) (K:V→St→Prop):Prop:=
 match s with
 | .snil=>(0<cnt∧cnt≤maxLen∧cnt*bytes≤140737488355328)∧K (.bw S.boxes.length cnt) { S with boxes:=S.boxes++[.buf e sz nv] }
 | .bw b n=>match S.boxes[b]? with
  | some (.buf e' z cs)=>(e'=e∧z=sz∧n*sz≤cs.length∧n+cnt≤maxLen∧(n+cnt)*bytes≤140737488355328)∧
   K (.bw S.boxes.length (n+cnt)) { S with boxes:=S.boxes.set b .dead++[.buf e sz (cs.take (n*sz)++nv)] }
  | _=>False
 | _=>False
def K3 (e:TypeId) (sz bytes:Nat) (s x:V) (S:St) (K:V→St→Prop):Prop:=
 match x with
 | .bw b n=>match S.boxes[b]? with
  | some (.buf _ z cs)=>(z=sz∧n*sz≤cs.length∧(cs.take (n*sz)).all cellB=true)∧K2 e sz bytes s n (cs.take (n*sz)) S K
  | _=>False
 | _=>False
def K4 (e:TypeId) (sz bytes:Nat) (s x:V) (S:St) (K:V→St→Prop):Prop:=
 match Ks sz x S with
 | none=>K3 e sz bytes s x S K
 | some new=>
  ((∀y∈new,y.length=sz))∧
  match s with
  | .snil=>(new≠[]∧new.length≤maxLen∧new.length*bytes≤140737488355328)∧K (.bw S.boxes.length new.length) { S with boxes:=S.boxes++[.buf e sz (new.flatten.map .t)] }
  | .full es=>(new≠[]∧(∀y∈es,y.length=sz)∧es.length+new.length≤maxLen∧(es.length+new.length)*bytes≤140737488355328)∧
    K (.bw S.boxes.length (es.length+new.length)) { S with boxes:=S.boxes++[.buf e sz ((es++new).flatten.map .t)] }
  | .bw b n=>match S.boxes[b]? with
   | some (.buf e' z cs)=>(e'=e∧z=sz∧n*sz≤cs.length∧n+new.length≤maxLen∧(n+new.length)*bytes≤140737488355328)∧
    K (.bw S.boxes.length (n+new.length)) { S with boxes:=S.boxes.set b .dead++[.buf e sz (cs.take (n*sz)++new.flatten.map .t)] }
   | _=>False
  | _=>False

def mmI (mx:Bool) (a b:Int):Int:=if mx then max a b else min a b
def mmK (mx:Bool) (x y:V) (S:St) (K:V→St→Prop):Prop:=
 match x,y with
 | .t (.int k a),.t (.int k' b)=>k=k'∧K (.t (.int k (mmI mx a b))) S
 | _,_=>False

def Oi (a ok:Bool) (z:List V) (r:Option V):V:=
 if ok then .tup [r.getD (if a then .agg z else z.headD .junk),.t (.bool r.isSome)] else r.getD (if a then .agg z else z.headD .junk)
def Oj (ka:Bool) (ks:List Nat) (a ok:Bool) (z:List V) (m k:V) (S:St) (K:V→St→Prop):Prop:=
 isAggV k=ka∧match Bu (cellsV k) with
 | none=>False
 | some kt=>kt.length=ks.length∧match m with
  | .t .nilm=>K (Oi a ok z none) S
  | .mp b=>match S.boxes[b]? with
   | some (.mp es)=>match Ez ka ks kt es with
    | some r=>K (Oi a ok z r) S
    | none=>False
   | _=>False
  | _=>False
def T2 (ka:Bool) (ks:List Nat) (m k v:V) (S:St) (K:V→St→Prop):Prop:=
 isAggV k=ka∧match Bu (cellsV k) with
 | none=>False
 | some kt=>kt.length=ks.length∧match m with
  | .mp b=>match S.boxes[b]? with
   | some (.mp es)=>match Gk ka ks kt k v es with
    | some es'=>es'.length≤maxLen∧K .und { S with boxes:=S.boxes.set b (.mp es') }
    | none=>False
   | _=>False
  | _=>False
def Ho (m:V) (S:St) (K:V→St→Prop):Prop:=
 match m with
 | .t .nilm=>K (.t (.int .i64 0)) S
 | .mp b=>match S.boxes[b]? with
  | some (.mp es)=>K (.t (.int .i64 es.length)) S
  | _=>False
 | _=>False

def Pu (e:TypeId) (sz bytes:Nat) (z:List V) (x y:V) (S:St) (K:V→St→Prop):Prop:=
 match x,y with
 | .t (.int _ l),.t (.int _ c)=>(0≤l∧l≤c∧c≤maxLen∧c*bytes≤140737488355328)∧
   K (.bw S.boxes.length l.toNat) { S with boxes:=S.boxes++[.buf e sz (List.replicate l.toNat z).flatten] }
 | _,_=>False

def Pv (z x:V) (S:St) (K:V→St→Prop):Prop:=
 match x with
 | .vw b o n=>match S.boxes[b]?.bind B5 with
  | some cs=>(0<n∧o+n≤cs.length)∧K (.tup []) { S with boxes:=S.boxes.set b (Lg (S.boxes.getD b .dead) (C2 cs o (List.replicate n z))) }
  | none=>False
 | .t (.sl [])=>K (.tup []) S
 | _=>False
def Pw (d x:V) (S:St) (K:V→St→Prop):Prop:=
 match Ks 1 x S with
 | none=>False
 | some new=>(∀y∈new,y.length=1)∧match d with
  | .bw b n=>match S.boxes[b]?.bind B5 with
   | some cs=>(new.length≤n∧new.length≤cs.length)∧K (.t (.int .i64 new.length)) { S with boxes:=S.boxes.set b (Lg (S.boxes.getD b .dead) (C2 cs 0 (new.flatten.map .t))) }
   | none=>False
  | _=>False
def T3 (t:TypeId) (x:V) (S:St) (K:V→St→Prop):Prop:=
 match Bu (cellsV x) with
 | some ts=>K (.t (.ifc t (isAggV x) ts)) S
 | none=>False
def Yh (a:Bool) (cs:List T):V:=if a then .agg (cs.map .t) else (cs.map .t).headD .junk
def T4 (t:TypeId) (z x:V) (S:St) (K:V→St→Prop):Prop:=
 match x with
 | .t (.ifc t' a cs)=>if t'=t then K (.tup [Yh a cs,.t (.bool true)]) S else K (.tup [z,.t (.bool false)]) S
 | .t .nili=>K (.tup [z,.t (.bool false)]) S
 | _=>False
def T5 (neg:Bool) (x y:V) (S:St) (K:V→St→Prop):Prop:=
 match x,y with
 | .t (.ifc _ _ _),.t .nili=>K (.t (.bool neg)) S
 | .t .nili,.t .nili=>K (.t (.bool (!neg))) S
 | _,_=>False
def Px (x:V) (S:St) (K:V→St→Prop):Prop:=
 match x with
 | .t (.str s)=>K (.ptr S.boxes.length 0) { S with boxes:=S.boxes++[.itr s 0] }
 | _=>False
def Gm (s:List UInt8) (p:Nat):Int:=((Utf8.decode ⟨s.toArray⟩ p).1:Int)
def E0 (s:List UInt8) (p:Nat):Nat:=(Utf8.decode ⟨s.toArray⟩ p).2
def K5 (x:V) (S:St) (K:V→St→Prop):Prop:=
 match x with
 | .ptr b o=>match S.boxes[b]? with
  | some (.itr s p)=>o=0∧if p<s.length then K (.tup [.t (.bool true),.t (.int .i64 p),.t (.int .i32 (Gm s p))]) { S with boxes:=S.boxes.set b (.itr s (p+E0 s p)) }
    else K (.tup [.t (.bool false)]) S
  | _=>False
 | _=>False

def W1 (lo hi mx:Bool) (vs:List V) (n:Nat):Prop:=
 (0≤loI lo (vs.drop 1) 0∧loI lo (vs.drop 1) 0≤loI hi (vs.drop (if lo then 2 else 1)) n∧loI hi (vs.drop (if lo then 2 else 1)) n≤n)∧
 (mx=true→hi=true∧loI hi (vs.drop (if lo then 2 else 1)) n≤loI mx (vs.drop (if lo then 3 else 2)) n∧loI mx (vs.drop (if lo then 3 else 2)) n≤n)
def A45 (sz:Nat) (lo hi mx:Bool) (vs:List V) (b n:Nat):V:=
 if lo=false∧mx=false then .bw b (loI hi (vs.drop (if lo then 2 else 1)) n).toNat
 else if loI lo (vs.drop 1) 0<loI hi (vs.drop (if lo then 2 else 1)) n then .vw b ((loI lo (vs.drop 1) 0).toNat*sz) (loI hi (vs.drop (if lo then 2 else 1)) n-loI lo (vs.drop 1) 0).toNat
 else .t (.sl [])
def A46 (sz:Nat) (lo hi mx:Bool) (vs:List V) (b o n:Nat):V:=
 if loI lo (vs.drop 1) 0<loI hi (vs.drop (if lo then 2 else 1)) n then .vw b (o+(loI lo (vs.drop 1) 0).toNat*sz) (loI hi (vs.drop (if lo then 2 else 1)) n-loI lo (vs.drop 1) 0).toNat
 else .t (.sl [])
def W2 (sz:Nat) (lo hi mx:Bool) (vs:List V) (S:St) (K:V→St→Prop):Prop:=
 match vs.getD 0 .und with
 | .bw b n=>W1 lo hi mx vs n∧K (A45 sz lo hi mx vs b n) S
 | .vw b o n=>W1 lo hi mx vs n∧K (A46 sz lo hi mx vs b o n) S
 | v=>match Ps v with
  | some es=>(W1 lo hi mx vs es.length∧(∀e∈es,e.length=sz))∧
    K (.t (.sl ((es.take (loI hi (vs.drop (if lo then 2 else 1)) es.length).toNat).drop (loI lo (vs.drop 1) 0).toNat))) S
  | none=>False

def Af (k:EK) (vs:List V) (S:St) (K:V→St→Prop):Prop:=
 match k with
 | .mv=>K (vs.getD 0 .und) S
 | .pick=>Fj (vs.getD 0 .und) (vs.getD 1 .und) (vs.getD 2 .und) S K
 | .box=>Sp (vs.getD 0 .und) S K
 | .alloc z=>K (.ptr S.boxes.length 0) { S with boxes:=S.boxes++[.cells z] }
 | .allocT e z=>K (.ptr S.boxes.length 0) { S with boxes:=S.boxes++[.buf e 0 z] }
 | .build z ps=>match Lf z ps vs with
  | some cs=>(vs.all fun v=>isAggV v||cellB v)=true∧K (.agg cs) S
  | none=>False
 | .bsl sz=>Kt sz vs S K
 | .bslB e sz=>Ij e sz vs S K
 | .load n a=>Ih n a (vs.getD 0 .und) S K
 | .store n=>Gl n (vs.getD 0 .und) (vs.getD 1 .und) S K
 | .faddr off=>Ht off (vs.getD 0 .und) S K
 | .fld n a off=>Sr n a off (vs.getD 0 .und) S K
 | .iaS sz=>Ss sz (vs.getD 0 .und) (vs.getD 1 .und) S K
 | .iaA len sz=>Su len sz (vs.getD 0 .und) (vs.getD 1 .und) S K
 | .ixA len sz n a=>Sv len sz n a (vs.getD 0 .und) (vs.getD 1 .und) S K
 | .ixS=>Pt (vs.getD 0 .und) (vs.getD 1 .und) S K
 | .bin op=>Sw op (vs.getD 0 .und) (vs.getD 1 .und) S K
 | .eqv neg a ks=>W0 neg a ks (vs.getD 0 .und) (vs.getD 1 .und) S K
 | .un op=>unK op (vs.getD 0 .und) S K
 | .cvI k=>Sx k (vs.getD 0 .und) S K
 | .cvS=>Sy (vs.getD 0 .und) S K
 | .ext i=>Sz i (vs.getD 0 .und) S K
 | .nilc=>Lh (vs.getD 0 .und) S K
 | .mkfn f=>K (.fn f vs) S
 | .lenS=>Li (vs.getD 0 .und) S K
 | .lenL=>Lj (vs.getD 0 .und) S K
 | .lenA n=>K (.t (.int .i64 n)) S
 | .app e sz bytes=>T1 e sz bytes (vs.getD 0 .und) (vs.getD 1 .und) S K
 | .appS e=>Ll e (vs.getD 0 .und) (vs.getD 1 .und) S K
 | .slA len sz lo hi=>match vs.getD 0 .und with
  | .ptr b o=>(0≤loI lo (vs.drop 1) 0∧loI lo (vs.drop 1) 0≤loI hi (vs.drop (if lo then 2 else 1)) len∧loI hi (vs.drop (if lo then 2 else 1)) len≤len∧len≤maxLen∧loI lo (vs.drop 1) 0<len)∧
    K (.vw b (o+(loI lo (vs.drop 1) 0).toNat*sz) ((loI hi (vs.drop (if lo then 2 else 1)) len)-loI lo (vs.drop 1) 0).toNat) S
  | _=>False
 | .slS lo hi=>match vs.getD 0 .und with
  | .t (.str s)=>(0≤loI lo (vs.drop 1) 0∧loI lo (vs.drop 1) 0≤loI hi (vs.drop (if lo then 2 else 1)) s.length∧loI hi (vs.drop (if lo then 2 else 1)) s.length≤s.length)∧
    K (.t (.str ((s.take (loI hi (vs.drop (if lo then 2 else 1)) s.length).toNat).drop (loI lo (vs.drop 1) 0).toNat))) S
  | _=>False
 | .slL sz lo hi mx=>W2 sz lo hi mx vs S K
 | .mm mx=>mmK mx (vs.getD 0 .und) (vs.getD 1 .und) S K
 | .mkmap=>K (.mp S.boxes.length) { S with boxes:=S.boxes++[.mp []] }
 | .lkp ka ks a ok z=>Oj ka ks a ok z (vs.getD 0 .und) (vs.getD 1 .und) S K
 | .mup ka ks=>T2 ka ks (vs.getD 0 .und) (vs.getD 1 .und) (vs.getD 2 .und) S K
 | .lenM=>Ho (vs.getD 0 .und) S K
 | .mks e sz bytes z=>Pu e sz bytes z (vs.getD 0 .und) (vs.getD 1 .und) S K
 | .appB e sz bytes=>K4 e sz bytes (vs.getD 0 .und) (vs.getD 1 .und) S K
 | .mki t=>T3 t (vs.getD 0 .und) S K
 | .tas t z=>T4 t z (vs.getD 0 .und) S K
 | .eqn neg=>T5 neg (vs.getD 0 .und) (vs.getD 1 .und) S K
 | .rngS=>Px (vs.getD 0 .und) S K
 | .nxtS=>K5 (vs.getD 0 .und) S K
 | .clr z=>Pv z (vs.getD 0 .und) S K
 | .cpy=>Pw (vs.getD 0 .und) (vs.getD 1 .und) S K
 | .call _ | .callv | .pan=>False

theorem F1 {k:EK} {vs:List V} {S:St} {K K':V→St→Prop} (h : ∀x S,K x S→K' x S) (hk:Af k vs S K):Af k vs S K':=by
 cases k<;>simp only [Af,Fj,Sp,Ih,Gl,Ht,Sr,Ss,Su,Sv,Pt,Sw,Vy,Vz,W0,unK,Sx,Sy,Sz,Lh,Li,Lj,T1,Lk,Ll,Kt,Ij,K4,K3,K2,mmK,Oj,T2,Ho,Pu,W2,T3,T4,T5,Px,K5,Pv,Pw] at hk ⊢<;>
  (repeat' split at hk)<;>first
   | exact hk.elim
   | exact hk.2.elim
   | exact h _ _ hk
   | exact⟨hk.1,h _ _ hk.2⟩
   | exact⟨hk.1,hk.2.1,h _ _ hk.2.2⟩
   | (simp_all;done)
   | (split<;>simp_all;done)

end E
end Go.Proofs.YtmlpmdccfmmpoaaGreatDoor
end

/- The engine, part 3: how an operation of the model is read as one of the engine's; the moves of the invariant. -/
section
set_option linter.unusedSimpArgs false
set_option linter.unusedVariables false
namespace Go.Proofs.YtmlpmdccfmmpoaaGreatDoor
namespace E

def constV1:Value→Option V
 | .bool b=>some (.t (.bool b))
 | .int k n=>some (.t (.int k n))
 | .string s=>some (.t (.str s.data.toList))
 | .slice none 0 0=>some .snil
 | .pointer none=>some (.t .nilp)
 | .map none=>some (.t .nilm)
 | .nilFunc=>some (.t .nilf)
 | .nilIface=>some (.t .nili)
 | _=>none

def constVs:List Value→Option (List V)
 | []=>some []
 | v::vs=>match constV1 v,constVs vs with
  | some x,some xs=>some (x::xs)
  | _,_=>none

def constV:Value→Option V
 | .agg cs=>(constVs cs.toList).map .agg
 | v=>constV1 v

def opd:Operand→Option Opd
 | .tmp t=>some (.tmp t)
 | .const v=>(constV v).map .c
 | .func f=>some (.c (.fn (.func f) []))
 | .global b=>(Pr b).map fun e=>.c (.tp e 0)

def opds:List Operand→Option (List Opd)
 | []=>some []
 | x::xs=>match opd x,opds xs with
  | some y,some ys=>some (y::ys)
  | _,_=>none

def aggD:TypeDesc→Bool
 | .struct _ | .array _ _=>true
 | _=>false

def shapeOf (P:Program) (t:TypeId):Option (Nat×Bool):=
 match P.info? t,P.underlying t with
 | some i,some d=>if aggD d||i.size==1 then some (i.size,aggD d) else none
 | _,_=>none

def eqFs (P:Program) (rec:TypeId→Option (List Nat)):List Field→Nat→Option (List Nat)
 | [],_=>some []
 | f::fs,off=>
  match rec f.type,shapeOf P f.type with
  | some ks, some (n, _) => if f.name ≠ "_" ∧ f.offset = off ∧ ks.length = n then (eqFs P rec fs (off + n)).map (ks ++ ·) else none
  | _,_=>none

def eqCells (P:Program):Nat→TypeId→Option (List Nat)
 | 0,_=>none
 | d+1,t=>
  match P.underlying t with
  | some .bool=>some [0]
  | some (.int _)=>some [1]
  | some .string=>some [2]
  | some (.struct fs)=>if P.stoodInHeld t then none else eqFs P (eqCells P d) fs.toList 0
  | some (.array len e)=>
   match eqCells P d e,shapeOf P e with
   | some ks,some (k,_)=>if ks.length=k then some (List.replicate len ks).flatten else none
   | _,_=>none
  | _=>none

def fieldOf (P:Program) (t:TypeId) (f:Nat):Option (Nat×Nat×Bool):=
 match P.underlying t with
 | some (.struct fs)=>match fs[f]? with
  | some fd=>match shapeOf P fd.type with
   | some (n,a)=>if n=0 then none else some (fd.offset,n,a)
   | none=>none
  | none=>none
 | _=>none

def placesOf (P:Program) (t:TypeId) (ixs:List Nat):Option (List (Nat×Nat)):=
 match P.underlying t with
 | some (.struct fs)=>ixs.mapM fun i=>match fs[i]? with
  | some fd=>(P.info? fd.type).map fun j=>(fd.offset,j.size)
  | none=>none
 | some (.array _ e)=>match P.info? e with
  | some j=>ixs.mapM fun i=>some (i*j.size,j.size)
  | none=>none
 | _=>none

def isShift:BinOp→Bool
 | .shl | .shr=>true
 | _=>false

def fieldsKnown (P:Program) (t:TypeId):Bool:=
 match P.underlying t with
 | some (.struct fs)=>fs.all fun f=>(P.info? f.type).isSome
 | _=>true

def keyOf (P:Program) (t:TypeId):Option (Bool×List Nat):=
 match P.underlying t with
 | some .bool=>some (false,[0])
 | some (.int _)=>some (false,[1])
 | some .string=>some (false,[2])
 | some (.struct _)=>match eqCells P 100 t with
  | some ks=>some (true,ks)
  | none=>none
 | _=>none

def zeroOf (P:Program) (t:TypeId):Option V:=
 match P.info? t with
 | some i=>match i.zero with
  | some z=>constV z
  | none=>none
 | none=>none

def mapOf (P:Program) (t:TypeId):Option (Bool×List Nat×V):=
 match P.underlying t with
 | some (.map kt e)=>match keyOf P kt,zeroOf P e with
  | some (ka,ks),some z=>some (ka,ks,z)
  | _,_=>none
 | _=>none

def bldT (P:Program) (t:TypeId):Bool:=match P.underlying t with
 | some (.struct fs) => fs.toList.map (·.name) == ["addr", "buf"]
 | _=>false
def kindOf (P:Program) (o:Oper):Option (EK×List Operand):=
 match o.op with
 | .move x | .assign x=>some (.mv,[x])
 | .pick c a b=>some (.pick,[c,a,b])
 | .box _ x=>some (.box,[x])
 | .alloc t=>match P.info? t with
  | some i=>match i.zero with
   | some z=>(constV z).map fun v=>(if bldT P t then .allocT t (cellsV v) else .alloc (cellsV v),[])
   | none=>none
  | none=>none
 | .build t parts=>match P.info? t with
  | some i=>match i.zero with
   | some z=>match constV z,placesOf P t (parts.toList.map (·.1)) with
    | some v,some ps=>if fieldsKnown P t=true then some (.build (cellsV v) ps,parts.toList.map (·.2)) else none
    | _,_=>none
   | none=>none
  | none=>none
 | .buildSlice t len parts=>match P.underlying t with
  | some (.slice e)=>match P.info? e with
   | some i=>match i.zero with
    | some z=>if parts.toList.map (·.1)=List.range len∧z.cells.size=i.size∧0<i.size∧len*i.size≤2 ^ 24 then some (.bsl i.size,parts.toList.map (·.2)) else none
    | none=>none
   | none=>none
  | _=>none
 | .load t x=>match shapeOf P t with
  | some (n,a)=>some (.load n a,[x])
  | none=>none
 | .store t x v=>match shapeOf P t with
  | some (n,_)=>some (.store n,[x,v])
  | none=>none
 | .fieldAddr t x f=>match fieldOf P t f with
  | some (off,_,_)=>some (.faddr off,[x])
  | none=>none
 | .field t x f=>match fieldOf P t f with
  | some (off,n,a)=>some (.fld n a off,[x])
  | none=>none
 | .indexAddr t x i=>match P.underlying t with
  | some (.slice e)=>match P.info? e with
   | some j=>some (.iaS j.size,[x,i])
   | none=>none
  | some (.array len e)=>match P.info? e with
   | some j=>some (.iaA len j.size,[x,i])
   | none=>none
  | _=>none
 | .index t x i=>match P.underlying t with
  | some (.array len e)=>match shapeOf P e with
   | some (n,a)=>some (.ixA len n n a,[x,i])
   | none=>none
  | some .string=>some (.ixS,[x,i])
  | _=>none
 | .binOp op t x y _=>match P.underlying t with
  | some (.int _)|some .string=>if isShift op=true then none else some (.bin op,[x,y])
  | some (.interface _)=>match y,op with
   | .const .nilIface,.eql=>if P.eqGuardType P.depth t then none else some (.eqn false,[x,y])
   | .const .nilIface,.neq=>if P.eqGuardType P.depth t then none else some (.eqn true,[x,y])
   | _,_=>none
  | some d=>match eqCells P 100 t,op with
   | some n,.eql=>if P.eqGuardType P.depth t then none else some (.eqv false (aggD d) n,[x,y])
   | some n,.neq=>if P.eqGuardType P.depth t then none else some (.eqv true (aggD d) n,[x,y])
   | _,_=>none
  | none=>none
 | .makeInterface t x=>match P.underlying t with
  | some (.interface _)=>none
  | some _=>some (.mki t,[x])
  | none=>none
 | .typeAssert x _ t true=>match P.underlying t,zeroOf P t with
  | some (.interface _),_=>none
  | some _,some z=>some (.tas t z,[x])
  | _,_=>none
 | .range t x=>match P.underlying t with
  | some .string=>some (.rngS,[x])
  | _=>none
 | .next x true=>some (.nxtS,[x])
 | .panic x=>some (.pan,[x])
 | .unOp op _ x=>some (.un op,[x])
 | .convert src dst x=>match P.underlying src,P.underlying dst with
  | some (.int _),some (.int k)=>some (.cvI k,[x])
  | some .string,some .string=>some (.cvS,[x])
  | _,_=>none
 | .extract x i=>some (.ext i,[x])
 | .nilCheck x=>some (.nilc,[x])
 | .makeFunc f first caps=>if first.isEmpty then some (.mkfn f,caps.toList) else none
 | .slice t x lo hi mx=>match P.underlying t with
  | some (.array len e)=>match P.info? e with
   | some j=>if mx.isSome then none else some (.slA len j.size lo.isSome hi.isSome,x::(lo.toList++hi.toList))
   | none=>none
  | some .string=>if mx.isSome then none else some (.slS lo.isSome hi.isSome,x::(lo.toList++hi.toList))
  | some (.slice e)=>match P.info? e with
   | some j=>if mx.isSome && !hi.isSome then none else some (.slL j.size lo.isSome hi.isSome mx.isSome,x::(lo.toList++(hi.toList++mx.toList)))
   | none=>none
  | _=>none
 | .call c=>match c.callee with
  | .value (.func f)=>some (.call f,c.args.toList)
  | .value x=>some (.callv,x::c.args.toList)
  | .builtin .len=>match c.argTypes.toList,c.args.toList with
   | [t],[x]=>match P.underlying t with
    | some .string=>some (.lenS,[x])
    | some (.slice _)=>some (.lenL,[x])
    | some (.array n _)=>some (.lenA n,[])
    | some (.map _ _)=>some (.lenM,[x])
    | _=>none
   | _,_=>none
  | .builtin .append=>match c.argTypes.toList,c.args.toList with
   | [t,u],[x,y]=>match P.underlying t,t==u with
    | some (.slice e),true=>match P.info? e with
     | some j=>match j.zero with
      | some z=>if 0<j.size∧z.cells.size=j.size then some (.app e j.size j.bytes,[x,y]) else none
      | none=>none
     | none=>none
    | some (.slice e),false=>match P.underlying u,P.info? e with
     | some .string,some j=>match j.zero with
      | some z=>if j.size=1∧j.bytes=1∧z.cells.size=1 then some (.appS e,[x,y]) else none
      | none=>none
     | _,_=>none
    | _,_=>none
   | _,_=>none
  | .builtin .min=>match c.args.toList with
   | [x,y]=>some (.mm false,[x,y])
   | _=>none
  | .builtin .max=>match c.args.toList with
   | [x,y]=>some (.mm true,[x,y])
   | _=>none
  | .builtin .clear=>match c.argTypes.toList,c.args.toList with
   | [t],[x]=>match P.underlying t with
    | some (.slice e)=>match P.info? e with
     | some j=>match j.zero with
      | some z=>match constV z with
       | some zv=>if j.size=1∧z.cells.size=1∧cellB zv=true then some (.clr zv,[x]) else none
       | none=>none
      | none=>none
     | none=>none
    | _=>none
   | _,_=>none
  | .builtin .copy=>match c.argTypes.toList,c.args.toList with
   | [t,u],[x,y]=>match P.underlying t with
    | some (.slice e)=>match P.info? e with
     | some j=>if j.size=1∧t=u then some (.cpy,[x,y]) else none
     | none=>none
    | _=>none
   | _,_=>none
  | _=>none
 | .makeMap _ none=>some (.mkmap,[])
 | .lookup t m k ok=>match mapOf P t with
  | some (ka,ks,z)=>some (.lkp ka ks (isAggV z) ok (cellsV z),[m,k])
  | none=>none
 | .mapUpdate t m k v=>match mapOf P t with
  | some (ka,ks,_)=>some (.mup ka ks,[m,k,v])
  | none=>none
 | .makeSlice t l c=>match P.underlying t with
  | some (.slice e)=>match P.info? e with
   | some j=>match j.zero with
    | some z=>match constV z with
     | some zv=>if 0<j.size∧z.cells.size=j.size∧(cellsV zv).length=j.size then some (.mks e j.size j.bytes (cellsV zv),[l,c]) else none
     | none=>none
    | none=>none
   | none=>none
  | _=>none
 | _=>none

def nestV:List V→Bool
 | []=>false
 | .snil::_=>true
 | _::l=>nestV l
def nestO (P:Program) (o:Oper):Option TypeId:=
 match o.op with
 | .buildSlice t _ _=>match P.underlying t with
  | some (.slice e)=>match P.info? e with
   | some i=>match i.zero with
    | some z=>match constV z with
     | some zv=>if nestV (cellsV zv) then some e else none
     | none=>none
    | none=>none
   | none=>none
  | _=>none
 | _=>none
def kindB (P:Program) (fl:Bool) (o:Oper):Option (EK×List Operand):=
 match kindOf P o with
 | some (.app e sz bytes,xs)=>if fl then some (.appB e sz bytes,xs) else some (.app e sz bytes,xs)
 | some (.bsl sz,xs)=>match (if fl then nestO P o else none) with
  | some e=>some (.bslB e sz,xs)
  | none=>some (.bsl sz,xs)
 | r=>r

def eopOf (P:Program) (fl:Bool) (ops:Array Oper) (o:Oper):Option EO:=
 match kindB P fl o with
 | none=>none
 | some (k,xs)=>match opds xs with
  | none=>none
  | some ys=>match o.guard with
   | none=>some { d:=o.dst,g:=none,k:=k,xs:=ys }
   | some (j,want)=>match (ops[j]?).bind (·.dst) with
    | some t=>some { d:=o.dst,g:=some (t,want),k:=k,xs:=ys }
    | none=>none

theorem K6 {g:Gh} {tk:List Nat} {v:Value} {x:V} (h:constV1 v=some x):RelV g tk x v:=by
 unfold constV1 at h
 split at h<;>simp only [Option.some.injEq,reduceCtorEq] at h<;>subst h
 ·exact .t _ _ (.bool _)
 ·exact .t _ _ (.int _ _)
 ·rename_i s
  have:s=⟨s.data.toList.toArray⟩:=by cases s;simp
  rw [this]
  exact .t _ _ (.str _)
 ·exact .snil
 ·exact .t _ _ .nilp
 ·exact .t _ _ .nilm
 ·exact .t _ _ .nilf
 ·exact .t _ _ .nili

theorem K7 {g:Gh} {tk:List Nat} : ∀{vs:List Value} {xs:List V},constVs vs=some xs→xs.length=vs.length∧∀j,j<xs.length→RelV g tk (xs.getD j .junk) (vs.getD j undef)
 | [],xs,h=>by simp [constVs] at h;subst h;simp
 | v::vs,xs,h=>by
  simp only [constVs] at h
  split at h
  ·rename_i x ys hx hys
   simp only [Option.some.injEq] at h
   subst h
   have ih:=K7 (g:=g) (tk:=tk) hys
   refine⟨by simp [ih.1],fun j hj=>?_⟩
   cases j with
   | zero=>simpa using K6 hx
   | succ j=>simpa using ih.2 j (by simpa using hj)
  ·cases h

theorem Cu {g:Gh} {tk:List Nat} {v:Value} {x:V} (h:constV v=some x):RelV g tk x v:=by
 unfold constV at h
 split at h
 ·rename_i cs
  cases hx:constVs cs.toList with
  | none=>simp [hx] at h
  | some xs=>
   simp [hx] at h
   subst h
   have:=K7 (g:=g) (tk:=tk) hx
   exact .agg _ _ (by simp [this.1]) (fun j hj=>by simpa using this.2 j hj)
 ·exact K6 h

theorem Ba {g:Gh} {tk:List Nat} {x:V} {v:Value} (h:RelV g tk x v) (hx:isAggV x=true∨cellB x=true) :
  v.cells.size=(cellsV x).length∧∀j,j<(cellsV x).length→RelV g tk ((cellsV x).getD j .junk) (v.cells.getD j undef):=by
 have one : ∀{y:V} {u:Value},RelV g tk y u→cellsV y=[y]→u.cells = #[u]→u.cells.size=(cellsV y).length∧∀j,j<(cellsV y).length→RelV g tk ((cellsV y).getD j .junk) (u.cells.getD j undef):=by
  intro y u hr h1 h2
  rw [h1,h2]
  refine⟨rfl,fun j hj=>?_⟩
  have:j=0:=by simpa using hj
  subst this
  simpa using hr
 cases h with
 | agg cs vs hl hr=>exact⟨hl,hr⟩
 | und=>simp [isAggV,cellB] at hx
 | junk v=>simp [isAggV,cellB] at hx
 | tup cs vs hl hr=>simp [isAggV,cellB] at hx
 | t x v h=>exact one (.t x v h) rfl (by cases h<;>rfl)
 | snil=>exact one .snil rfl rfl
 | full es a h=>exact one (.full es a h) rfl rfl
 | own k e z es v n h hz hn hle hg=>exact one (.own k e z es v n h hz hn hle hg) rfl (by cases h<;>rfl)
 | ptr b o blk h=>exact one (.ptr b o blk h) rfl rfl
 | tp e o blk off c hI hr=>exact one (.tp e o blk off c hI hr) rfl rfl
 | fn f caps vs hl hr=>exact one (.fn f caps vs hl hr) rfl rfl
 | mp b blk h=>exact one (.mp b blk h) rfl rfl
 | vw b o n blk cap h hc hm=>exact one (.vw b o n blk cap h hc hm) rfl rfl
 | bw b n blk cap h hc hk hm=>exact one (.bw b n blk cap h hc hk hm) rfl rfl

theorem Hu {g:Gh} {tk:List Nat} {x:V} {v:Value} (h:RelV g tk x v) (hx:cellB x=true):v.oneCell'=true:=by
 cases h with
 | und=>simp [cellB] at hx
 | junk v=>simp [cellB] at hx
 | agg cs vs hl hr=>simp [cellB] at hx
 | tup cs vs hl hr=>simp [cellB] at hx
 | t x v h=>cases h<;>rfl
 | snil=>rfl
 | full es a h=>rfl
 | own k e z es v n h hz hn hle hg=>cases h<;>rfl
 | ptr b o blk h=>rfl
 | tp e o blk off c hI hr=>rfl
 | fn f caps vs hl hr=>rfl
 | mp b blk h=>rfl
 | vw b o n blk cap h hc hm=>rfl
 | bw b n blk cap h hc hk hm=>rfl

theorem W3 {x:V} (h:okV x=true):isAggV x=true∨cellB x=true:=by
 cases x<;>simp_all [okV,cellsV,cellB,isAggV]

theorem Ik {g:Gh} {tk:List Nat} {x:V} {v:Value} {t:T} (h:RelV g tk x v) (ht:toT x=some t):RelT g.I t v:=by
 cases h<;>simp [toT] at ht<;>subst ht
 ·assumption
 ·exact .slnil
 ·assumption
 ·assumption

theorem Ch : ∀{xs:List V} {ts:List T},Bu xs=some ts→ts.length=xs.length∧∀j,j<xs.length→toT (xs.getD j .junk)=some (ts.getD j .nilp)
 | [],ts,h=>by simp [Bu] at h;subst h;simp
 | x::xs,ts,h=>by
  simp only [Bu] at h
  split at h
  ·rename_i y ys hy hys
   simp only [Option.some.injEq] at h
   subst h
   have ih:=Ch hys
   refine⟨by simp [ih.1],fun j hj=>?_⟩
   cases j with
   | zero=>simpa using hy
   | succ j=>simpa using ih.2 j (by simpa using hj)
  ·cases h

theorem Gn {g:Gh} {tk:List Nat} {x:V} {v:Value} {es:List (List T)} (h:RelV g tk x v) (ht:Ps x=some es):RelT g.I (.sl es) v:=by
 cases h<;>simp only [Ps] at ht<;>try (cases ht)
 ·rename_i y hy;cases y<;>simp at ht;subst ht;assumption
 ·exact .slnil
 ·assumption
 ·assumption

end E
end Go.Proofs.YtmlpmdccfmmpoaaGreatDoor
end

/- The engine, part 4: the moves of the invariant (a new box, a store, a new row, an append). -/
section
set_option linter.unusedSimpArgs false
set_option linter.unusedVariables false
namespace Go.Proofs.YtmlpmdccfmmpoaaGreatDoor
namespace E

theorem T6 {w:World} {b o:Nat} {c:Value} (h:w.cell? ⟨b,o,none⟩=some c):b<w.heap.size:=World.block_lt_of_cell? w _ h

theorem Inv.Ilt {g:Gh} {S:St} {w:World} (h:Inv g S w) {b o:Nat} {c:Value} (hc:g.I b o=some c):b<w.heap.size:=T6 (h.imm b o c hc)
theorem Inv.Inew {g:Gh} {S:St} {w:World} (h:Inv g S w) (o:Nat):g.I w.heap.size o=none:=by
 cases hc:g.I w.heap.size o with
 | none=>rfl
 | some c=>exact absurd (h.Ilt hc) (Nat.lt_irrefl _)

theorem Dm {w w':World} {b o:Nat} (h:w'.heap[b]?=w.heap[b]?):w'.cell? ⟨b,o,none⟩=w.cell? ⟨b,o,none⟩:=World.cell?_of_block (w:=w) h

theorem B3 {w:World} {o:Obj} {i:Nat} (h:i<w.heap.size):(w.alloc o).heap[i]?=w.heap[i]?:=heap_alloc_old w o h

theorem Inv.lszOf {g:Gh} {S:St} {w w':World} (h:Inv g S w) (hw : ∀b,b<w.heap.size→g.I b 0≠none→w'.heap[b]?=w.heap[b]?) :
  ∀(b:Nat) (c:Value),Gj b 0=some c→∃cs ty fz,w'.heap[b]?=some (.cells cs ty fz)∧cs.size=Uu b:=by
 intro b c hc
 obtain⟨cs,ty,fz,h1,h2⟩:=h.lsz b c hc
 exact⟨cs,ty,fz,(hw b (Array.getElem?_eq_some_iff.1 h1).1 (by rw [h.lay b 0 c hc];simp)).trans h1,h2⟩

theorem Inv.push {g:Gh} {S:St} {w:World} (h:Inv g S w) (ob:Obj) (bx:Bx)
  (κ':Nat→Nat) (hκ : ∀b,b<w.heap.size→κ' b=g.κ b) (hb:Ng { g with β:=g.β++[w.heap.size],κ:=κ' } S.toks (w.alloc ob) w.heap.size bx) :
  Mv g S w { g with β:=g.β++[w.heap.size],κ:=κ' } { S with boxes:=S.boxes++[bx] } (w.alloc ob):=by
 have hext:Ext g S.toks { g with β:=g.β++[w.heap.size],κ:=κ' } S.toks:=
  ⟨fun _ _ _ h=>h,fun i x hx=>by
   have:=(List.getElem?_eq_some_iff.1 hx).1
   simp only [List.getElem?_append_left this]
   exact hx,fun _ n h=>⟨n,h,Nat.le_refl _,fun _=>rfl⟩,rfl,rfl,fun _ _ _ h=>.inl h,fun i x hx=>hκ x (h.bold i x hx)⟩
 have hcase : ∀(i blk:Nat),(g.β++[w.heap.size])[i]?=some blk→(g.β[i]?=some blk∧i<S.boxes.length)∨(i=S.boxes.length∧blk=w.heap.size):=by
  intro i blk hi
  rcases Nat.lt_or_ge i g.β.length with hlt|hge
  ·rw [List.getElem?_append_left hlt] at hi
   exact .inl ⟨hi,by rw [←h.len];exact hlt⟩
  ·rw [List.getElem?_append_right hge] at hi
   have:i-g.β.length=0:=by
    have:=(List.getElem?_eq_some_iff.1 hi).1
    simp at this
    omega
   rw [this] at hi
   simp at hi
   exact .inr ⟨by have:=h.len;omega,hi.symm⟩
 refine⟨⟨?_,by simp [h.len],?_,?_,?_,?_,h.tlen,?_,h.tnil,h.tdis,?_,?_,h.lay,h.lszOf fun b hb _=>B3 hb⟩,hext,⟨rfl,rfl,rfl,by simp,fun k hk _=>B3 (Nat.lt_of_lt_of_le hk h.lo)⟩⟩
 ·intro b o c hc
  rw [Dm (B3 (h.Ilt hc))]
  exact h.imm b o c hc
 ·intro i k blk hi hk hik
  rcases hcase i blk hi with ⟨h1,h2⟩|⟨h1,h2⟩
  ·rcases hcase k blk hk with ⟨h3,h4⟩|⟨h3,h4⟩
   ·have:=h.nodup i k blk h1 h3 hik
    simp only [List.getElem?_append_left h2,List.getElem?_append_left h4]
    exact this
   ·subst h4;exact absurd (h.bold i _ h1) (Nat.lt_irrefl _)
  ·rcases hcase k blk hk with ⟨h3,h4⟩|⟨h3,h4⟩
   ·subst h2;exact absurd (h.bold k _ h3) (Nat.lt_irrefl _)
   ·omega
 ·intro i blk bx' hi hbx
  rcases hcase i blk hi with ⟨h1,h2⟩|⟨rfl,rfl⟩
  ·rw [List.getElem?_append_left h2] at hbx
   exact (h.box i blk bx' h1 hbx).mono hext h1 (B3 (h.bold i blk h1))
  ·simp at hbx
   subst hbx
   exact hb
 ·intro i blk bx' hi hbx hd o
  rcases hcase i blk hi with ⟨h1,h2⟩|⟨rfl,rfl⟩
  ·rw [List.getElem?_append_left h2] at hbx
   exact h.sep i blk bx' h1 hbx hd o
  ·exact h.Inew o
 ·intro i blk hi
  rcases hcase i blk hi with ⟨h1,h2⟩|⟨rfl,rfl⟩
  ·exact h.bwr i blk h1
  ·exact .inl h.lo
 ·intro k n blk e z cap ht hn
  obtain⟨h1,h5,h6,h7,hlt⟩:=h.tok k n blk e z cap ht hn
  refine⟨h1.imp id fun ⟨cur,a,r⟩=>⟨cur,by rw [B3 hlt];exact a,r⟩,h5,?_,h7,by simp;omega⟩
  intro hm
  rcases List.mem_append.1 hm with hm|hm
  ·exact h6 hm
  ·simp at hm;omega
 ·have:=h.lo;simp;omega
 ·intro i blk hi
  rcases hcase i blk hi with ⟨h1,h2⟩|⟨rfl,rfl⟩
  ·have:=h.bold i blk h1;simp;omega
  ·simp

theorem C0 {α:Type} (cs:List α) (o:Nat) (vs:List α) (d:α) (h:o+vs.length≤cs.length) (j:Nat) :
  (cs.take o++vs++cs.drop (o+vs.length)).getD j d=if o≤j∧j<o+vs.length then vs.getD (j-o) d else cs.getD j d:=by
 simp only [List.getD_eq_getElem?_getD]
 congr 1
 have hto:(cs.take o).length=o:=by simp;omega
 split
 ·rename_i hj
  rw [List.append_assoc,List.getElem?_append_right (by omega),hto,List.getElem?_append_left (by omega)]
 ·rename_i hj
  rcases Nat.lt_or_ge j o with h1|h1
  ·rw [List.append_assoc,List.getElem?_append_left (by omega),List.getElem?_take,if_pos h1]
  ·have h2:o+vs.length≤j:=by omega
   rw [List.getElem?_append_right (by rw [List.length_append,hto];omega),List.getElem?_drop,List.length_append,hto,show o+vs.length+(j-(o+vs.length))=j from by omega]

theorem B8 (cs:List V) (o:Nat) (vs:List V) (h:o+vs.length≤cs.length):(C2 cs o vs).length=cs.length:=by
 simp [C2];omega

theorem Inv.put {g:Gh} {S:St} {w:World} (h:Inv g S w) (b blk:Nat) (old bx:Bx) (hb:g.β[b]?=some blk) (ho:S.boxes[b]?=some old) (hd:old≠.dead) (hdx:bx≠.dead) (ob:Obj) (w':World)
  (hw : ∀k,k≠blk→w'.heap[k]?=w.heap[k]?) (hsz:w'.heap.size=w.heap.size) (hos:w'.os=w.os) (hta:w'.tape=w.tape) (hou:w'.output=w.output)
  (hbox:Ng g S.toks w' blk bx):Mv g S w g { S with boxes:=S.boxes.set b bx } w':=by
 have hne : ∀(i blk':Nat),g.β[i]?=some blk'→i≠b→S.boxes[i]?≠some .dead→blk'≠blk:=by
  intro i blk' hi hib hnd heq
  subst heq
  rcases h.nodup i b blk' hi hb hib with h1|h1
  ·exact hnd h1
  ·rw [ho] at h1;cases h1;exact hd rfl
 have hbl:b<S.boxes.length:=(List.getElem?_eq_some_iff.1 ho).1
 refine⟨⟨?_,by simp [h.len],?_,?_,?_,h.bwr,h.tlen,?_,h.tnil,h.tdis,by rw [hsz];exact h.lo,fun i blk hi=>by rw [hsz];exact h.bold i blk hi,h.lay,h.lszOf fun b' _ hn=>hw b' fun heq=>hn (by subst heq;exact h.sep b b' old hb ho hd 0)⟩,Ext.refl _ _,⟨hos,hta,hou,by omega,fun k h1 h2=>hw k ?_⟩⟩
 ·intro b' o c hc
  rw [Dm (hw b' ?_)]
  ·exact h.imm b' o c hc
  ·intro heq;subst heq
   rw [h.sep b b' old hb ho hd o] at hc
   cases hc
 ·intro i k blk' hi hk hik
  by_cases hib:i=b
  ·subst hib
   have hkd:S.boxes[k]?=some .dead:=Classical.byContradiction fun hn=>hne k blk' hk (Ne.symm hik) hn (by rw [hb] at hi;cases hi;rfl)
   exact .inr (by rw [List.getElem?_set_ne hik];exact hkd)
  ·by_cases hkb:k=b
   ·subst hkb
    have hid:S.boxes[i]?=some .dead:=Classical.byContradiction fun hn=>hne i blk' hi hik hn (by rw [hb] at hk;cases hk;rfl)
    exact .inl (by rw [List.getElem?_set_ne (Ne.symm hik)];exact hid)
   ·rw [List.getElem?_set_ne (fun e=>hib e.symm),List.getElem?_set_ne (fun e=>hkb e.symm)]
    exact h.nodup i k blk' hi hk hik
 ·intro i blk' bx' hi hbx
  by_cases hib:i=b
  ·subst hib
   rw [hb] at hi
   cases hi
   simp [hbl] at hbx
   subst hbx
   exact hbox
  ·rw [List.getElem?_set_ne (fun e=>hib e.symm)] at hbx
   by_cases hdead:S.boxes[i]?=some .dead
   ·rw [hdead] at hbx;cases hbx;trivial
   ·exact (h.box i blk' bx' hi hbx).mono (Ext.refl _ _) hi (hw _ (hne i blk' hi hib hdead))
 ·intro i blk' bx' hi hbx hdd o
  by_cases hib:i=b
  ·subst hib
   rw [hb] at hi
   cases hi
   exact h.sep i blk old hb ho hd o
  ·rw [List.getElem?_set_ne (fun e=>hib e.symm)] at hbx
   exact h.sep i blk' bx' hi hbx hdd o
 ·intro k n blk' e z cap ht hn
  obtain⟨h1,h5,h6,h7,h8⟩:=h.tok k n blk' e z cap ht hn
  exact⟨h1.imp id fun ⟨cur,a,r⟩=>⟨cur,by rw [hw blk' (fun e=>h6 (e▸List.mem_of_getElem? hb))];exact a,r⟩,h5,h6,h7,by rw [hsz];exact h8⟩
 ·intro heq
  subst heq
  rcases h.bwr b k hb with h3|h3
  ·omega
  ·exact h2 h3

theorem Inv.row {g:Gh} {S:St} {w:World} (h:Inv g S w) (vs:Array Value) (ty:TypeId) :
  Mv g S w { g with I:=fun b o=>if b=w.heap.size then vs[o]? else g.I b o } S (w.alloc (.cells vs ty)):=by
 have hext:Ext g S.toks { g with I:=fun b o=>if b=w.heap.size then vs[o]? else g.I b o } S.toks:=by
  refine⟨fun b o c hc=>?_,fun _ _ h=>h,fun _ n h=>⟨n,h,Nat.le_refl _,fun _=>rfl⟩,rfl,rfl,fun b o c hc=>?_,fun _ _ _=>rfl⟩
  ·have:=h.Ilt hc
   simp only []
   rw [if_neg (by omega)]
   exact hc
  ·simp only [] at hc
   split at hc
   ·right;left;have:=h.lo;omega
   ·exact .inl hc
 refine⟨⟨?_,h.len,h.nodup,?_,?_,h.bwr,h.tlen,?_,h.tnil,h.tdis,by have:=h.lo;simp;omega,fun i blk hi=>by have:=h.bold i blk hi;simp;omega,fun b o c hc=>hext.I _ _ _ (h.lay b o c hc),h.lszOf fun b hb _=>B3 hb⟩,hext,⟨rfl,rfl,rfl,by simp,fun k hk _=>B3 (Nat.lt_of_lt_of_le hk h.lo)⟩⟩
 ·intro b o c hc
  simp only [] at hc
  split at hc
  ·rename_i hb
   subst hb
   rw [World.cell?_alloc_new]
   exact hc
  ·rw [Dm (B3 (h.Ilt hc))]
   exact h.imm b o c hc
 ·intro i blk bx hi hbx
  exact (h.box i blk bx hi hbx).mono hext hi (B3 (h.bold i blk hi))
 ·intro i blk bx hi hbx hd o
  have:=h.bold i blk hi
  simp only []
  rw [if_neg (by omega)]
  exact h.sep i blk bx hi hbx hd o
 ·intro k n blk e z cap ht hn
  obtain⟨h1,h5,h6,h7,hlt⟩:=h.tok k n blk e z cap ht hn
  refine⟨h1.imp id fun ⟨cur,a,r⟩=>⟨cur,by rw [B3 hlt];exact a,r⟩,fun o ho=>?_,h6,h7,by simp;omega⟩
  simp only []
  rw [if_neg (by omega)]
  exact h5 o ho

def flat (es:List (List T)):List T:=es.flatten

theorem Yi {es:List (List T)} {z:Nat} (hz : ∀i,i<es.length→(es.getD i []).length=z) : ∀(i j:Nat),i<es.length→j<z→(flat es).getD (i*z+j) .nilp=(es.getD i []).getD j .nilp:=by
 induction es with
 | nil=>intro i j hi;simp at hi
 | cons e es ih=>
  intro i j hi hj
  have h0:e.length=z:=by simpa using hz 0 (by simp)
  cases i with
  | zero=>
   simp only [flat,List.flatten_cons,List.getD_eq_getElem?_getD,Nat.zero_mul,Nat.zero_add,List.getElem?_cons_zero,Option.getD_some]
   rw [List.getElem?_append_left (by omega)]
  | succ i=>
   have:=ih (fun k hk=>by have:=hz (k+1) (by simp;omega);simpa using this) i j (by simpa using hi) hj
   simp only [List.getD_eq_getElem?_getD,List.getElem?_cons_succ] at this ⊢
   rw [←this]
   simp only [flat,List.flatten_cons]
   rw [List.getElem?_append_right (by rw [h0,Nat.add_mul];omega)]
   congr 2
   rw [h0,Nat.add_mul]
   omega

theorem Gp {es:List (List T)} {z:Nat} (hz : ∀e∈es,e.length=z):(flat es).length=es.length*z:=by
 induction es with
 | nil=>simp [flat]
 | cons e es ih=>
  have:=ih (fun x hx=>hz x (by simp [hx]))
  simp only [flat,List.flatten_cons,List.length_append,List.length_cons] at this ⊢
  rw [this,hz e (by simp),Nat.add_mul]
  omega

end E
end Go.Proofs.YtmlpmdccfmmpoaaGreatDoor
end

/- The engine, part 5: every operation of the model does what the engine says of it. -/
section
set_option linter.unusedSimpArgs false
set_option linter.unusedVariables false
namespace Go.Proofs.YtmlpmdccfmmpoaaGreatDoor
namespace E

def Ai (P:Program) (o:Oper) (ρ:Operand→Value) (g:Gh) (S:St) (w:World) (K:V→St→Prop):Prop:=
 ∃x S' g' v w',((execOp ρ o).run P w=.ok (.value v) w'∨((execOp ρ o).run P w=.ok .skip w'∧v=undef))∧K x S'∧RelV g' S'.toks x v∧Mv g S w g' S' w'

def E6 (g:Gh) (tk:List Nat) (ρ:Operand→Value) (xs:List Operand) (vs:List V):Prop:=
 vs.length=xs.length∧∀(j:Nat) (x:Operand),xs[j]?=some x→RelV g tk (vs.getD j .und) (ρ x)

section
variable {P:Program} {o:Oper} {ρ:Operand→Value} {g:Gh} {S:St} {w:World} {K:V→St→Prop}

theorem Ai.still (hI:Inv g S w) {x:V} {v:Value} (hr:(execOp ρ o).run P w=.ok (.value v) w) (hv:RelV g S.toks x v) (hK:K x S):Ai P o ρ g S w K:=
 ⟨x,S,g,v,w,.inl hr,hK,hv,Mv.refl hI⟩

theorem E6.get {xs:List Operand} {vs:List V} (h:E6 g S.toks ρ xs vs) (j:Nat) (x:Operand) (hx:xs[j]?=some x):RelV g S.toks (vs.getD j .und) (ρ x):=h.2 j x hx

theorem H3 {t:TypeId} {d:TypeDesc} (hu:P.underlying t=some d) (w:World):(isAgg t).run P w=.ok (aggD d) w:=by
 simp [isAgg,run_underlying hu]
 cases d<;>rfl

theorem At {t:TypeId} {i:TypeInfo} (h:P.info? t=some i) (w:World):(sizeOf t).run P w=.ok i.size w:=by
 simp [sizeOf,typeInfo,h]

theorem Ax {t:TypeId} {n:Nat} {a:Bool} (h:shapeOf P t=some (n,a)) : ∃i d,P.info? t=some i∧P.underlying t=some d∧i.size=n∧aggD d=a∧(a=true∨n=1):=by
 unfold shapeOf at h
 split at h
 ·rename_i i d hi hd
  split at h
  ·rename_i hc
   simp only [Option.some.injEq,Prod.mk.injEq] at h
   refine⟨i,d,hi,hd,h.1,h.2,?_⟩
   rw [←h.1,←h.2]
   simpa using hc
  ·cases h
 ·cases h

theorem Gq {t:TypeId} {n:Nat} {a:Bool} (h:shapeOf P t=some (n,a)) (b off:Nat) (f:Nat→Value) (hf : ∀j,j<n→w.cell? ⟨b,off+j,none⟩=some (f j)) :
  (loadVar t ⟨b,off,none⟩).run P w=.ok (if a then .agg ((List.range n).map f).toArray else f 0) w:=by
 obtain⟨i,d,hi,hd,rfl,rfl,hor⟩:=Ax h
 cases ha:aggD d
 ·rw [ha] at hor
  have h1:i.size=1:=by simpa using hor
  have h0:=hf 0 (by omega)
  simp only [Nat.add_zero] at h0
  simp [loadVar,H3 hd,ha,run_load,h0]
 ·have:=run_loadCells (P:=P) w ⟨b,off,none⟩ i.size f (fun j hj=>by rw [Addr.add_lit];exact hf j hj)
  simp [loadVar,H3 hd,ha,At hi,this]

theorem Il {a:Bool} {n:Nat} (hor:a=true∨n=1) {cs:List V} {f:Nat→Value} (hn:n≤cs.length) (hr : ∀j,j<n→RelV g S.toks (cs.getD j .junk) (f j)) :
  RelV g S.toks (ldv a n cs) (if a then .agg ((List.range n).map f).toArray else f 0):=by
 cases a
 ·have h1:n=1:=by simpa using hor
  subst h1
  have:=hr 0 (by omega)
  simp only [ldv,Bool.false_eq_true,if_false]
  cases cs with
  | nil=>simp at hn
  | cons c cs=>simpa using this
 ·simp only [ldv,if_true]
  refine .agg _ _ (by simp [Nat.min_eq_left hn]) (fun j hj=>?_)
  have hj':j<n:=by simp at hj;omega
  have:=hr j hj'
  simp only [List.getD_eq_getElem?_getD,List.getElem?_take,if_pos hj'] at this ⊢
  simpa [hj'] using this

theorem Fk {g:Gh} {S:St} {w:World} (hI:Inv g S w) {b blk:Nat} {cs:List V} (hβ:g.β[b]?=some blk) (hcs:S.boxes[b]?.bind B5=some cs) :
  ∃bx,S.boxes[b]?=some bx∧B5 bx=some cs∧∃(vs:Array Value) (ty:TypeId),w.heap[blk]?=some (.cells vs ty (0,0))∧cs.length≤vs.size∧∀j,j<cs.length→RelV g S.toks (cs.getD j .junk) (vs.getD j undef):=by
 cases hb:S.boxes[b]? with
 | none=>simp [hb] at hcs
 | some bx=>
  simp [hb] at hcs
  refine⟨bx,rfl,hcs,?_⟩
  have h:=hI.box b blk bx hβ hb
  cases bx with
  | dead=>simp [B5] at hcs
  | mp es=>simp [B5] at hcs
  | itr s p=>simp [B5] at hcs
  | cells cs'=>simp [B5] at hcs;subst hcs;obtain⟨vs,ty,h1,h2,h3⟩:=h;exact⟨vs,ty,h1,by omega,h3⟩
  | buf e z cs'=>simp [B5] at hcs;subst hcs;obtain⟨vs,h1,h2,h3,h4⟩:=h;exact⟨vs,e,h1,h3.1,h4⟩

theorem T7 {t:TypeId} {n:Nat} {a:Bool} {x:Operand} (ho:o.op=.load t x) (hs:shapeOf P t=some (n,a)) (hI:Inv g S w) {v:V} (hv:RelV g S.toks v (ρ x))
  (hK:Ih n a v S K):Ai P o ρ g S w K:=by
 obtain⟨i,d,hi,hd,hn,ha,hor⟩:=Ax hs
 unfold Ih at hK
 split at hK
 ·rename_i b off
  generalize hρ:ρ x=u at hv
  cases hv with
  | ptr _ _ blk hβ=>
  split at hK
  ·rename_i cs hcs
   obtain⟨hle,hK⟩:=hK
   obtain⟨bx,hbx,hcx,vs,ty,hh,hsz,hrel⟩:=Fk hI hβ hcs
   have hcell : ∀j,j<n→w.cell? ⟨blk,off+j,none⟩=some (vs.getD (off+j) undef):=by
    intro j hj
    rw [cell_of_row w blk (off+j) vs ty _ hh]
    have:off+j<vs.size:=by omega
    simp [this]
   refine Ai.still hI (x:=ldv a n (cs.drop off)) (v:=if a then .agg ((List.range n).map fun j=>vs.getD (off+j) undef).toArray else vs.getD (off+0) undef) ?_ ?_ hK
   ·simp only [execOp,ho,hρ,Instr.loadAt,Instr.sureAddr,Sem.run_bind,Sem.run_pure,Result.andThen_ok,Gq hs blk off (fun j=>vs.getD (off+j) undef) hcell]
   ·refine Il hor (by simp;omega) (f:=fun j=>vs.getD (off+j) undef) (fun j hj=>?_)
    have:=hrel (off+j) (by omega)
    simpa [List.getD_eq_getElem?_getD,List.getElem?_drop] using this
  ·exact hK.elim
 ·rename_i e off
  generalize hρ:ρ x=u at hv
  cases hv with
  | tp _ _ blk base c hc hr=>
  obtain⟨hle,hK⟩:=hK
  have hcell : ∀j,j<n→w.cell? ⟨blk,base+off+j,none⟩=some (c (off+j)):=by
   intro j hj
   rw [Nat.add_assoc]
   exact hI.imm _ _ _ (hc (off+j) (by omega))
  refine Ai.still hI (x:=ldv a n ((e.drop off).map V.t)) (v:=if a then .agg ((List.range n).map fun j=>c (off+j)).toArray else c (off+0)) ?_ ?_ hK
  ·simp only [execOp,ho,hρ,Instr.loadAt,Instr.sureAddr,Sem.run_bind,Sem.run_pure,Result.andThen_ok,Gq hs blk (base+off) (fun j=>c (off+j)) hcell]
  ·refine Il hor (by simp;omega) (f:=fun j=>c (off+j)) (fun j hj=>?_)
   have:=hr (off+j) (by omega)
   have hlt:off+j<e.length:=by omega
   simp only [List.getD_eq_getElem?_getD,List.getElem?_map,List.getElem?_drop,List.getElem?_eq_getElem hlt,Option.map_some,Option.getD_some] at this ⊢
   exact .t _ _ this
 ·exact hK.elim

theorem Ext.push (g:Gh) (tk:List Nat) (n:Nat):Ext g tk { g with β:=g.β++[n] } tk:=
 ⟨fun _ _ _ h=>h,fun i x hx=>by
  have:=(List.getElem?_eq_some_iff.1 hx).1
  simp only [List.getElem?_append_left this];exact hx,fun _ n h=>⟨n,h,Nat.le_refl _,fun _=>rfl⟩,rfl,rfl,fun _ _ _ h=>.inl h,fun _ _ _=>rfl⟩

theorem W4 {t:TypeId} {x:Operand} (ho:o.op=.box t x) (hI:Inv g S w) {v:V} (hv:RelV g S.toks v (ρ x)) (hK:Sp v S K):Ai P o ρ g S w K:=by
 obtain⟨hc,hK⟩:=hK
 obtain⟨h1,h2⟩:=Ba hv (by simpa using hc)
 have hm:=hI.push (.cells (ρ x).cells t) (.cells (cellsV v)) g.κ (fun _ _=>rfl) ⟨(ρ x).cells,t,heap_alloc_new w _,h1,fun j hj=>(h2 j hj).mono (Ext.push g S.toks _)⟩
 refine⟨.ptr S.boxes.length 0,_,_,.pointer (some ⟨w.heap.size,0,none⟩),_,.inl ?_,hK,.ptr _ _ _ ?_,hm⟩
 ·simp [execOp,ho,Instr.box,newVar,newRow]
 ·simp only []
  rw [List.getElem?_append_right (by rw [hI.len];exact Nat.le_refl _),hI.len]
  simp

theorem Py {t:TypeId} {i:TypeInfo} {z:Value} {zv:V} (ho:o.op=.alloc t) (hi:P.info? t=some i) (hz:i.zero=some z) (hzv:constV z=some zv) (hI:Inv g S w)
  (hK:K (.ptr S.boxes.length 0) { S with boxes:=S.boxes++[.cells (cellsV zv)] }):Ai P o ρ g S w K:=by
 have hcv:isAggV zv=true∨cellB zv=true:=by
  unfold constV at hzv
  split at hzv
  ·rename_i cs
   cases hx:constVs cs.toList with
   | none=>simp [hx] at hzv
   | some xs=>simp [hx] at hzv;subst hzv;exact .inl rfl
  ·unfold constV1 at hzv
   split at hzv<;>simp at hzv<;>subst hzv<;>exact .inr rfl
 have hrel : ∀{g':Gh} {tk:List Nat},RelV g' tk zv z:=Cu hzv
 have hm:=hI.push (.cells z.cells t) (.cells (cellsV zv)) g.κ (fun _ _=>rfl) ⟨z.cells,t,heap_alloc_new w _,(Ba (hrel (g':=g) (tk:=S.toks)) hcv).1,fun j hj=>(Ba hrel hcv).2 j hj⟩
 refine⟨.ptr S.boxes.length 0,_,_,.pointer (some ⟨w.heap.size,0,none⟩),_,.inl ?_,hK,.ptr _ _ _ ?_,hm⟩
 ·simp [execOp,ho,Instr.alloc,zeroValue,typeInfo,hi,hz,newVar,newRow]
 ·simp only []
  rw [List.getElem?_append_right (by rw [hI.len];exact Nat.le_refl _),hI.len]
  simp

theorem Ol {t:TypeId} {i:TypeInfo} {z:Value} {zv:V} (ho:o.op=.alloc t) (hi:P.info? t=some i) (hz:i.zero=some z) (hzv:constV z=some zv) (hI:Inv g S w)
  (hK:K (.ptr S.boxes.length 0) { S with boxes:=S.boxes++[.buf t 0 (cellsV zv)] }):Ai P o ρ g S w K:=by
 have hcv:isAggV zv=true∨cellB zv=true:=by
  unfold constV at hzv
  split at hzv
  ·rename_i cs
   cases hx:constVs cs.toList with
   | none=>simp [hx] at hzv
   | some xs=>simp [hx] at hzv;subst hzv;exact .inl rfl
  ·unfold constV1 at hzv
   split at hzv<;>simp at hzv<;>subst hzv<;>exact .inr rfl
 have hrel : ∀{g':Gh} {tk:List Nat},RelV g' tk zv z:=Cu hzv
 have hm:=hI.push (.cells z.cells t) (.buf t 0 (cellsV zv)) g.κ (fun _ _=>rfl) ⟨z.cells,heap_alloc_new w _,by simp,⟨by have:=(Ba (hrel (g':=g) (tk:=S.toks)) hcv).1;omega,fun _=>(Ba (hrel (g':=g) (tk:=S.toks)) hcv).1⟩,fun j hj=>(Ba hrel hcv).2 j hj⟩
 refine⟨.ptr S.boxes.length 0,_,_,.pointer (some ⟨w.heap.size,0,none⟩),_,.inl ?_,hK,.ptr _ _ _ ?_,hm⟩
 ·simp [execOp,ho,Instr.alloc,zeroValue,typeInfo,hi,hz,newVar,newRow]
 ·simp only []
  rw [List.getElem?_append_right (by rw [hI.len];exact Nat.le_refl _),hI.len]
  simp

theorem Pz {t:TypeId} {n:Nat} {a:Bool} {x y:Operand} (ho:o.op=.store t x y) (hs:shapeOf P t=some (n,a)) (hI:Inv g S w) {ad v:V} (had:RelV g S.toks ad (ρ x)) (hv:RelV g S.toks v (ρ y))
  (hK:Gl n ad v S K):Ai P o ρ g S w K:=by
 obtain⟨i,d,hi,hd,hn,ha,hor⟩:=Ax hs
 unfold Gl at hK
 split at hK
 ·rename_i b off
  generalize hρ:ρ x=u at had
  cases had with
  | ptr _ _ blk hβ=>
  split at hK
  ·rename_i cs hcs
   obtain⟨⟨hle,hlen,hok⟩,hK⟩:=hK
   obtain⟨bx,hbx,hcx,vs,ty,hh,hsz,hrel⟩:=Fk hI hβ hcs
   have hbd:bx≠.dead:=by rintro rfl;simp [B5] at hcx
   have hgd:S.boxes.getD b .dead=bx:=by simp [List.getD_eq_getElem?_getD,hbx]
   rw [hgd] at hK
   obtain⟨c1,c2⟩:=Ba hv (W3 hok)
   have hone : ∀u∈(ρ y).cells.toList,u.oneCell'=true:=by
    intro u hu
    obtain⟨j,hj⟩:=List.mem_iff_getElem?.1 hu
    have hjl:j<(ρ y).cells.size:=by simpa using (List.getElem?_eq_some_iff.1 hj).1
    have h3:=c2 j (by omega)
    have hju:(ρ y).cells.getD j undef=u:=by
     simp only [Array.getElem?_toList] at hj
     simp [hj]
    rw [hju] at h3
    refine Hu h3 ?_
    have h4:=List.all_eq_true.1 hok ((cellsV v).getD j .junk) (by
     have:j<(cellsV v).length:=by omega
     simp [List.getD_eq_getElem?_getD,this])
    exact h4
   have hst:=run_storeCells_at P blk off ty (ρ y).cells.toList 0 vs w hh (by simp;omega) hone
   simp only [Nat.add_zero] at hst
   have hrun:(execOp ρ o).run P w=.ok .skip (w.setRow blk (vs.toList.take off++(ρ y).cells.toList++vs.toList.drop (off+(ρ y).cells.toList.length)).toArray):=by
    have hsz2:(ρ y).cells.size=i.size:=by rw [c1,hlen,hn]
    simp [execOp,ho,hρ,Instr.storeAt,Instr.sureAddr,storeVar,At hi,hsz2]
    have:=hst
    simp [hsz2] at this
    simp [this]
   have hnewlen:(vs.toList.take off++(ρ y).cells.toList++vs.toList.drop (off+(ρ y).cells.toList.length)).length=vs.size:=by simp;omega
   have hnew : ∀j,j<(C2 cs off (cellsV v)).length→RelV g S.toks ((C2 cs off (cellsV v)).getD j .junk) ((vs.toList.take off++(ρ y).cells.toList++vs.toList.drop (off+(ρ y).cells.toList.length)).toArray.getD j undef):=fun j hj=>by
     rw [B8 _ _ _ (by omega)] at hj
     have e1:((vs.toList.take off++(ρ y).cells.toList++vs.toList.drop (off+(ρ y).cells.toList.length)).toArray).getD j undef =
       if off≤j∧j<off+(cellsV v).length then (ρ y).cells.getD (j-off) undef else vs.getD j undef:=by
      have:=C0 vs.toList off (ρ y).cells.toList undef (by simp;omega) j
      simp only [List.getD_eq_getElem?_getD,Array.getElem?_toList,Array.length_toList,c1] at this
      simp only [Array.getD_eq_getD_getElem?,List.getElem?_toArray,Array.length_toList,c1]
      exact this
     rw [e1,C2,C0 cs off (cellsV v) .junk (by omega) j]
     split
     ·exact c2 _ (by omega)
     ·exact hrel j (by omega)
   have hheap:=setRow_heap w blk vs (vs.toList.take off++(ρ y).cells.toList++vs.toList.drop (off+(ρ y).cells.toList.length)).toArray ty _ hh
   have hbox0:=hI.box b blk bx hβ hbx
   have hm:=hI.put b blk bx (Lg bx (C2 cs off (cellsV v))) hβ hbx hbd (fun h=>by cases bx<;>simp [Lg] at h) (.cells #[] ty)
    (w.setRow blk (vs.toList.take off++(ρ y).cells.toList++vs.toList.drop (off+(ρ y).cells.toList.length)).toArray) (fun k hk=>setRow_other w blk k _ hk) (by simp) rfl rfl rfl (by
     cases bx with
     | dead=>exact absurd rfl hbd
     | mp es=>simp [B5] at hcx
     | itr s p=>simp [B5] at hcx
     | cells cs'=>
      simp [B5] at hcx;subst hcx
      obtain⟨vs',ty',h1,h2,h3⟩:=hbox0
      rw [hh] at h1;simp only [Option.some.injEq,Obj.cells.injEq,and_true] at h1;obtain⟨rfl,rfl⟩:=h1
      exact⟨_,_,hheap,by rw [List.size_toArray,hnewlen,B8 _ _ _ (by omega),h2],hnew⟩
     | buf e' z' cs'=>
      simp [B5] at hcx;subst hcx
      obtain⟨vs',h1,h2,h3,h4⟩:=hbox0
      rw [hh] at h1;simp only [Option.some.injEq,Obj.cells.injEq,and_true] at h1;obtain⟨rfl,rfl⟩:=h1
      exact⟨_,hheap,by rw [List.size_toArray,hnewlen];exact h2,⟨by rw [List.size_toArray,hnewlen,B8 _ _ _ (by omega)];exact h3.1,fun h0=>by rw [List.size_toArray,hnewlen,B8 _ _ _ (by omega)];exact h3.2 h0⟩,hnew⟩)
   exact⟨.und,_,g,undef,_,.inr ⟨hrun,rfl⟩,hK,.und,hm⟩
  ·exact hK.elim
 ·exact hK.elim

theorem Nh (hI:Inv g S w) {b blk off:Nat} {cs:List V} (hβ:g.β[b]?=some blk) (hcs:S.boxes[b]?.bind B5=some cs) (us:List Value) (xs:List V) (hl:us.length=xs.length) (hle:off+xs.length≤cs.length)
  (c2 : ∀j,j<xs.length→RelV g S.toks (xs.getD j .junk) (us.getD j undef)) (hone : ∀u∈us,u.oneCell'=true) :
  ∃w',(storeCells ⟨blk,off,none⟩ us).run P w=.ok () w'∧Mv g S w g { S with boxes:=S.boxes.set b (Lg (S.boxes.getD b .dead) (C2 cs off xs)) } w':=by
 obtain⟨bx,hbx,hcx,vs,ty,hh,hsz,hrel⟩:=Fk hI hβ hcs
 have hbd:bx≠.dead:=by rintro rfl;simp [B5] at hcx
 have hgd:S.boxes.getD b .dead=bx:=by simp [List.getD_eq_getElem?_getD,hbx]
 rw [hgd]
 have hst:=run_storeCells_at P blk off ty us 0 vs w hh (by omega) hone
 simp only [Nat.add_zero] at hst
 have hnewlen:(vs.toList.take off++us++vs.toList.drop (off+us.length)).length=vs.size:=by simp;omega
 have hnew : ∀j,j<(C2 cs off xs).length→RelV g S.toks ((C2 cs off xs).getD j .junk) ((vs.toList.take off++us++vs.toList.drop (off+us.length)).toArray.getD j undef):=fun j hj=>by
  rw [B8 _ _ _ (by omega)] at hj
  have e1:((vs.toList.take off++us++vs.toList.drop (off+us.length)).toArray).getD j undef=if off≤j∧j<off+xs.length then us.getD (j-off) undef else vs.getD j undef:=by
   have:=C0 vs.toList off us undef (by simp;omega) j
   simp only [List.getD_eq_getElem?_getD,Array.getElem?_toList,hl] at this ⊢
   simp only [Array.getD_eq_getD_getElem?,List.getElem?_toArray,hl]
   exact this
  rw [e1,C2,C0 cs off xs .junk (by omega) j]
  split
  ·exact c2 _ (by omega)
  ·exact hrel j (by omega)
 have hheap:=setRow_heap w blk vs (vs.toList.take off++us++vs.toList.drop (off+us.length)).toArray ty _ hh
 have hbox0:=hI.box b blk bx hβ hbx
 refine⟨_,hst,hI.put b blk bx (Lg bx (C2 cs off xs)) hβ hbx hbd (fun h=>by cases bx<;>simp [Lg] at h) (.cells #[] ty) _ (fun k hk=>setRow_other w blk k _ hk) (by simp) rfl rfl rfl (by
  cases bx with
  | dead=>exact absurd rfl hbd
  | mp es=>simp [B5] at hcx
  | itr s p=>simp [B5] at hcx
  | cells cs'=>
   simp [B5] at hcx;subst hcx
   obtain⟨vs',ty',h1,h2,h3⟩:=hbox0
   rw [hh] at h1;simp only [Option.some.injEq,Obj.cells.injEq,and_true] at h1;obtain⟨rfl,rfl⟩:=h1
   exact⟨_,_,hheap,by rw [List.size_toArray,hnewlen,B8 _ _ _ (by omega),h2],hnew⟩
  | buf e' z' cs'=>
   simp [B5] at hcx;subst hcx
   obtain⟨vs',h1,h2,h3,h4⟩:=hbox0
   rw [hh] at h1;simp only [Option.some.injEq,Obj.cells.injEq,and_true] at h1;obtain⟨rfl,rfl⟩:=h1
   exact⟨_,hheap,by rw [List.size_toArray,hnewlen];exact h2,⟨by rw [List.size_toArray,hnewlen,B8 _ _ _ (by omega)];exact h3.1,fun h0=>by rw [List.size_toArray,hnewlen,B8 _ _ _ (by omega)];exact h3.2 h0⟩,hnew⟩)⟩

theorem W5 {c:Call} {t e:TypeId} {j:TypeInfo} {z:Value} {zv:V} {x:Operand} (ho:o.op=.call c) (hc:c.callee=.builtin .clear) (ht:c.argTypes.toList=[t]) (hx:c.args.toList=[x]) (hu:P.underlying t=some (.slice e))
  (hj:P.info? e=some j) (hz:j.zero=some z) (hzv:constV z=some zv) (hs:j.size=1) (hzs:z.cells.size=1) (hcb:cellB zv=true) (hI:Inv g S w) {v:V} (hv:RelV g S.toks v (ρ x)) (hK:Pv zv v S K):Ai P o ρ g S w K:=by
 have ht':c.argTypes = #[t]:=Array.toList_inj.1 (by simpa using ht)
 have hx':c.args = #[x]:=Array.toList_inj.1 (by simpa using hx)
 unfold Pv at hK
 split at hK
 ·rename_i b off n
  generalize hρ:ρ x=u at hv
  cases hv with
  | vw _ _ _ blk cap hβ hcc hm=>
   split at hK
   ·rename_i cs hcs
    obtain⟨⟨h0,hle⟩,hK⟩:=hK
    obtain⟨m,rfl⟩ : ∃m,n=m+1:=⟨n-1,by omega⟩
    obtain⟨c1,c2⟩:=Ba (Cu (g:=g) (tk:=S.toks) hzv) (.inr hcb)
    have hc0:=c2 0 (by omega)
    have hcv:(cellsV zv).getD 0 .junk=zv:=by cases zv<;>first|rfl|(simp [cellB] at hcb)
    rw [hcv] at hc0
    have hul:((Builtin.zeroCells z.cells (m+1)).toList).length=m+1:=by simp [Builtin.zeroCells,hzs]
    have hug : ∀i,i<m+1→((Builtin.zeroCells z.cells (m+1)).toList).getD i undef=z.cells.getD 0 undef:=by
     intro i hi
     have:0<z.cells.size:=by omega
     simp [Builtin.zeroCells,hzs,List.getD_eq_getElem?_getD,hi,Nat.mod_one,this]
    obtain⟨w',hst,hm'⟩:=Nh (P:=P) hI hβ hcs (Builtin.zeroCells z.cells (m+1)).toList (List.replicate (m+1) zv) (by rw [hul];simp) (by simpa using hle)
     (fun i hi=>by
      simp at hi
      rw [hug i hi]
      have:(List.replicate (m+1) zv).getD i .junk=zv:=by simp [List.getD_eq_getElem?_getD,hi]
      rw [this]
      exact hc0)
     (fun u hu=>by
      obtain⟨i,hi⟩:=List.mem_iff_getElem?.1 hu
      have hil:=(List.getElem?_eq_some_iff.1 hi).1
      rw [hul] at hil
      have:=hug i hil
      rw [List.getD_eq_getElem?_getD,hi] at this
      simp only [Option.getD_some] at this
      rw [this]
      exact Hu hc0 hcb)
    refine⟨.tup [],_,g,.tuple #[],w',.inl ?_,hK,.tup [] #[] rfl (fun j hj=>by simp at hj),hm'⟩
    simp [execOp,ho,resolve,hc,invoke,builtin,Builtin.clear_,ht',hx',run_underlying hu,hρ,zeroValue,typeInfo,hj,hz,hst]
   ·exact hK.elim
 ·generalize hρ:ρ x=u at hv
  refine Ai.still hI (v:=.tuple #[]) ?_ (.tup [] #[] rfl (fun j hj=>by simp at hj)) hK
  cases hv with
  | t _ _ hr=>
   cases hr with
   | slnil=>simp [execOp,ho,resolve,hc,invoke,builtin,Builtin.clear_,ht',hx',run_underlying hu,hρ]
   | slz a cap hm=>simp [execOp,ho,resolve,hc,invoke,builtin,Builtin.clear_,ht',hx',run_underlying hu,hρ]
   | sl _ b off cap z c' hz hcc hm hcell hr=>simp [execOp,ho,resolve,hc,invoke,builtin,Builtin.clear_,ht',hx',run_underlying hu,hρ]
 ·exact hK.elim

end
end E
end Go.Proofs.YtmlpmdccfmmpoaaGreatDoor
end

/- The engine, part 6: every operation of the model does what the engine says of it (the rest of the kinds). -/
section
set_option linter.unusedSimpArgs false
set_option linter.unusedVariables false
namespace Go.Proofs.YtmlpmdccfmmpoaaGreatDoor
namespace E
section
variable {P:Program} {o:Oper} {ρ:Operand→Value} {g:Gh} {S:St} {w:World} {K:V→St→Prop}

theorem Kw (s:List UInt8):(⟨s.toArray⟩:ByteArray).size=s.length:=by simp [ByteArray.size]

theorem Q0 {x:Operand} (ho:o.op=.move x∨o.op=.assign x) (hI:Inv g S w) {v:V} (hv:RelV g S.toks v (ρ x)) (hK:K v S):Ai P o ρ g S w K:=by
 refine Ai.still hI (x:=v) (v:=ρ x) ?_ hv hK
 rcases ho with ho|ho<;>simp [execOp,ho]

theorem T8 {c a b:Operand} (ho:o.op=.pick c a b) (hI:Inv g S w) {vc va vb:V} (hc:RelV g S.toks vc (ρ c)) (ha:RelV g S.toks va (ρ a)) (hb:RelV g S.toks vb (ρ b))
  (hK:Fj vc va vb S K):Ai P o ρ g S w K:=by
 unfold Fj at hK
 split at hK
 ·rename_i t
  generalize hρ:ρ c=u at hc
  cases hc with
  | t _ _ h=>cases h with
  | bool=>
   cases t
   ·exact Ai.still hI (v:=ρ b) (by simp [execOp,ho,hρ,asBool]) hb (by simpa using hK)
   ·exact Ai.still hI (v:=ρ a) (by simp [execOp,ho,hρ,asBool]) ha (by simpa using hK)
 ·exact hK.elim

theorem Im {t:TypeId} {f off n:Nat} {a:Bool} (h:fieldOf P t f=some (off,n,a)) :
  ∃fs fd,P.underlying t=some (.struct fs)∧fs[f]?=some fd∧shapeOf P fd.type=some (n,a)∧n≠0∧fd.offset=off:=by
 unfold fieldOf at h
 split at h
 ·rename_i fs hu
  split at h
  ·rename_i fd hf
   split at h
   ·rename_i n' a' hs
    split at h
    ·cases h
    ·simp only [Option.some.injEq,Prod.mk.injEq] at h
     obtain⟨rfl,rfl,rfl⟩:=h
     exact⟨fs,fd,hu,hf,hs,by assumption,rfl⟩
   ·cases h
  ·cases h
 ·cases h

theorem Gr {t:TypeId} {f off n:Nat} {a:Bool} (h:fieldOf P t f=some (off,n,a)) (b q:Nat) :
  (Instr.fieldAt t (.pointer (some ⟨b,q,none⟩)) f).run P w=.ok (.pointer (some ⟨b,q+off,none⟩)) w:=by
 obtain⟨fs,fd,hu,hf,hs,hn,rfl⟩:=Im h
 obtain⟨i,d,hi,hd,hni,ha,hor⟩:=Ax hs
 simp [Instr.fieldAt,run_underlying hu,hf,Instr.sureAddr,fieldPlace,At hi,hni,hn,Addr.add_lit]

theorem Q1 {t:TypeId} {f off n:Nat} {a:Bool} {x:Operand} (ho:o.op=.fieldAddr t x f) (hf:fieldOf P t f=some (off,n,a)) (hI:Inv g S w) {v:V} (hv:RelV g S.toks v (ρ x))
  (hK:Ht off v S K):Ai P o ρ g S w K:=by
 unfold Ht at hK
 split at hK
 ·rename_i b q
  generalize hρ:ρ x=u at hv
  cases hv with
  | ptr _ _ blk hβ=>exact Ai.still hI (v:=.pointer (some ⟨blk,q+off,none⟩)) (by simp [execOp,ho,hρ,Gr hf]) (.ptr _ _ _ hβ) hK
 ·rename_i e q
  generalize hρ:ρ x=u at hv
  cases hv with
  | tp _ _ blk base c hc hr=>
   refine Ai.still hI (v:=.pointer (some ⟨blk,base+(q+off),none⟩)) (by simp [execOp,ho,hρ,Gr hf,Nat.add_assoc]) (.tp _ _ _ _ c hc hr) hK
 ·exact hK.elim

theorem Lm {t:TypeId} {n:Nat} {a:Bool} (hs:shapeOf P t=some (n,a)) (vs:Array Value) (off:Nat) (h:off+n≤vs.size) :
  (part t vs off).run P w=.ok (if a then .agg ((List.range n).map fun j=>vs.getD (off+j) undef).toArray else vs.getD (off+0) undef) w:=by
 obtain⟨i,d,hi,hd,rfl,rfl,hor⟩:=Ax hs
 cases ha:aggD d
 ·rw [ha] at hor
  have h1:i.size=1:=by simpa using hor
  have hlt:off<vs.size:=by omega
  simp [part,H3 hd,ha,hlt]
 ·simp only [part,H3 hd,ha,At hi,Sem.run_bind,Result.andThen_ok,if_true,Sem.run_pure]
  congr 2
  apply Array.ext'
  apply List.ext_getElem?
  intro j
  by_cases hj:j<i.size
  ·have:off+j<vs.size:=by omega
   simp [hj,this,List.getElem?_take,List.getElem?_drop]
  ·simp [hj]
   omega

theorem W6 {t:TypeId} {f off n:Nat} {a:Bool} {x:Operand} (ho:o.op=.field t x f) (hf:fieldOf P t f=some (off,n,a)) (hI:Inv g S w) {v:V} (hv:RelV g S.toks v (ρ x))
  (hK:Sr n a off v S K):Ai P o ρ g S w K:=by
 obtain⟨fs,fd,hu,hfd,hs,hn,rfl⟩:=Im hf
 obtain⟨i,d,hi,hd,hni,ha,hor⟩:=Ax hs
 unfold Sr at hK
 split at hK
 ·rename_i cs
  obtain⟨hle,hK⟩:=hK
  generalize hρ:ρ x=u at hv
  cases hv with
  | agg _ vs hl hr=>
   refine Ai.still hI (x:=ldv a n (cs.drop fd.offset)) (v:=if a then .agg ((List.range n).map fun j=>vs.getD (fd.offset+j) undef).toArray else vs.getD (fd.offset+0) undef) ?_ ?_ hK
   ·simp only [execOp,ho,hρ,Instr.field,run_underlying hu,hfd,asAgg,Lm hs vs fd.offset (by omega),Sem.run_bind,Sem.run_pure,Result.andThen_ok]
   ·refine Il hor (by simp;omega) (f:=fun j=>vs.getD (fd.offset+j) undef) (fun j hj=>?_)
    have:=hr (fd.offset+j) (by omega)
    simpa [List.getD_eq_getElem?_getD,List.getElem?_drop] using this
 ·exact hK.elim

theorem W7 {t e:TypeId} {j:TypeInfo} {x i:Operand} (ho:o.op=.indexAddr t x i) (hu:P.underlying t=some (.slice e)) (hj:P.info? e=some j) (hI:Inv g S w) {v vi:V}
  (hv:RelV g S.toks v (ρ x)) (hvi:RelV g S.toks vi (ρ i)) (hK:Ss j.size v vi S K):Ai P o ρ g S w K:=by
 unfold Ss at hK
 split at hK
 ·rename_i es kk n hes
  obtain⟨⟨h0,h1,h2⟩,hK⟩:=hK
  generalize hρi:ρ i=ui at hvi
  cases hvi with
  | t _ _ h=>cases h with
  | int=>
   have hrel:=Gn hv hes
   generalize hρ:ρ x=u at hrel
   cases hrel with
   | slnil=>simp at h1;omega
   | slz a cap hm=>simp at h1;omega
   | sl _ b off cap z c hz hc hm hcell hr=>
    have hn:n.toNat<es.length:=by omega
    have hzz:z=j.size:=by rw [←hz n.toNat hn];exact h2
    subst hzz
    refine Ai.still hI (x:=.tp (es.getD n.toNat []) 0) (v:=.pointer (some ⟨b,off+n.toNat*j.size+0,none⟩)) ?_ ?_ hK
    ·have : ¬((es.length:Int)≤1∧False):=by simp
     simp [execOp,ho,hρ,hρi,Instr.indexAt,asIntOf,run_underlying hu,h0,h1,At hj,Addr.add_lit]
    ·exact .tp _ _ b (off+n.toNat*j.size) (c n.toNat) (fun k hk=>hcell _ _ hn (by omega)) (fun k hk=>hr _ _ hn (by omega))
 ·rename_i kk n hes
  split at hK
  ·rename_i b off len
   obtain⟨⟨h0,h1⟩,hK⟩:=hK
   generalize hρi:ρ i=ui at hvi
   cases hvi with
   | t _ _ h=>cases h with
   | int=>
    generalize hρ:ρ x=u at hv
    cases hv with
    | vw _ _ _ blk cap hβ hc hm=>
     exact Ai.still hI (v:=.pointer (some ⟨blk,off+n.toNat*j.size,none⟩)) (by
      simp [execOp,ho,hρ,hρi,Instr.indexAt,asIntOf,run_underlying hu,h0,h1,At hj,Addr.add_lit]) (.ptr _ _ _ hβ) hK
  ·rename_i b len
   obtain⟨⟨h0,h1⟩,hK⟩:=hK
   generalize hρi:ρ i=ui at hvi
   cases hvi with
   | t _ _ h=>cases h with
   | int=>
    generalize hρ:ρ x=u at hv
    cases hv with
    | bw _ _ blk cap hβ hc hk hm=>
     exact Ai.still hI (v:=.pointer (some ⟨blk,0+n.toNat*j.size,none⟩)) (by
      simp [execOp,ho,hρ,hρi,Instr.indexAt,asIntOf,run_underlying hu,h0,h1,At hj,Addr.add_lit]) (by rw [Nat.zero_add];exact .ptr _ _ _ hβ) hK
  ·exact hK.elim
 ·exact hK.elim

theorem W8 {t e:TypeId} {len:Nat} {j:TypeInfo} {x i:Operand} (ho:o.op=.indexAddr t x i) (hu:P.underlying t=some (.array len e)) (hj:P.info? e=some j) (hI:Inv g S w) {v vi:V}
  (hv:RelV g S.toks v (ρ x)) (hvi:RelV g S.toks vi (ρ i)) (hK:Su len j.size v vi S K):Ai P o ρ g S w K:=by
 unfold Su at hK
 split at hK
 ·rename_i b off kk n
  obtain⟨⟨h0,h1⟩,hK⟩:=hK
  generalize hρi:ρ i=ui at hvi
  cases hvi with
  | t _ _ h=>cases h with
  | int=>
   generalize hρ:ρ x=u at hv
   cases hv with
   | ptr _ _ blk hβ=>
    exact Ai.still hI (v:=.pointer (some ⟨blk,off+n.toNat*j.size,none⟩)) (by
     simp [execOp,ho,hρ,hρi,Instr.indexAt,Instr.sureAddr,asIntOf,run_underlying hu,h0,h1,At hj,Addr.add_lit]) (.ptr _ _ _ hβ) hK
 ·rename_i e' off kk n
  obtain⟨⟨h0,h1⟩,hK⟩:=hK
  generalize hρi:ρ i=ui at hvi
  cases hvi with
  | t _ _ h=>cases h with
  | int=>
   generalize hρ:ρ x=u at hv
   cases hv with
   | tp _ _ blk base c hc hr=>
    exact Ai.still hI (v:=.pointer (some ⟨blk,base+(off+n.toNat*j.size),none⟩)) (by
     simp [execOp,ho,hρ,hρi,Instr.indexAt,Instr.sureAddr,asIntOf,run_underlying hu,h0,h1,At hj,Addr.add_lit,Nat.add_assoc]) (.tp _ _ _ _ c hc hr) hK
 ·exact hK.elim

theorem W9 {t e:TypeId} {len n:Nat} {a:Bool} {x i:Operand} (ho:o.op=.index t x i) (hu:P.underlying t=some (.array len e)) (hs:shapeOf P e=some (n,a)) (hI:Inv g S w) {v vi:V}
  (hv:RelV g S.toks v (ρ x)) (hvi:RelV g S.toks vi (ρ i)) (hK:Sv len n n a v vi S K):Ai P o ρ g S w K:=by
 obtain⟨ii,d,hi,hd,hni,ha,hor⟩:=Ax hs
 unfold Sv at hK
 split at hK
 ·rename_i cs kk j
  obtain⟨⟨h0,h1,h2⟩,hK⟩:=hK
  generalize hρi:ρ i=ui at hvi
  cases hvi with
  | t _ _ h=>cases h with
  | int=>
   generalize hρ:ρ x=u at hv
   cases hv with
   | agg _ vs hl hr=>
    refine Ai.still hI (x:=ldv a n (cs.drop (j.toNat*n))) (v:=if a then .agg ((List.range n).map fun q=>vs.getD (j.toNat*n+q) undef).toArray else vs.getD (j.toNat*n+0) undef) ?_ ?_ hK
    ·simp only [execOp,ho,hρ,hρi,Instr.index,asIntOf,run_underlying hu,h0,h1,At hi,hni,and_self,if_true,Lm hs vs (j.toNat*n) (by omega),Sem.run_bind,Sem.run_pure,Result.andThen_ok]
    ·refine Il hor (by simp;omega) (f:=fun q=>vs.getD (j.toNat*n+q) undef) (fun q hq=>?_)
     have:=hr (j.toNat*n+q) (by omega)
     simpa [List.getD_eq_getElem?_getD,List.getElem?_drop] using this
 ·exact hK.elim

theorem Wa {t:TypeId} {x i:Operand} (ho:o.op=.index t x i) (hu:P.underlying t=some .string) (hI:Inv g S w) {v vi:V}
  (hv:RelV g S.toks v (ρ x)) (hvi:RelV g S.toks vi (ρ i)) (hK:Pt v vi S K):Ai P o ρ g S w K:=by
 unfold Pt at hK
 split at hK
 ·rename_i s kk j
  obtain⟨⟨h0,h1⟩,hK⟩:=hK
  generalize hρi:ρ i=ui at hvi
  cases hvi with
  | t _ _ h=>cases h with
  | int=>
   generalize hρ:ρ x=u at hv
   cases hv with
   | t _ _ h=>cases h with
   | str=>
    have hlt:j.toNat<s.length:=by omega
    have hget:(⟨s.toArray⟩:ByteArray)[j.toNat]?=some (s.getD j.toNat 0):=by
     rw [getElem?_pos _ _ (by show j.toNat<s.toArray.size;simpa using hlt)]
     show some (s.toArray[j.toNat])=_
     simp [List.getD_eq_getElem?_getD,hlt]
    refine Ai.still hI (v:=.int .u8 (s.getD j.toNat 0).toNat) ?_ (.t _ _ (.int _ _)) hK
    simp [execOp,ho,hρ,hρi,Instr.index,asIntOf,run_underlying hu,h0,hget]
 ·exact hK.elim

theorem Ni {op:BinOp} {t u:TypeId} {x y:Operand} (ho:o.op=.binOp op t x y u) (hop:op≠.shl∧op≠.shr) (hI:Inv g S w) {vx vy:V}
    (hx:RelV g S.toks vx (ρ x)) (hy:RelV g S.toks vy (ρ y)) (hK:Sw op vx vy S K):Ai P o ρ g S w K:=by
  unfold Sw at hK
  split at hK
  · rename_i k a k' b
    obtain⟨rfl,hK⟩:=hK
    generalize hρx:ρ x=ux at hx
    generalize hρy:ρ y=uy at hy
    cases hx with
    | t _ _ h=>cases h with
    | int=>cases hy with
    | t _ _ h=>cases h with
    | int=>
      unfold Vy at hK
      cases op<;>simp only at hK<;>first
        | exact hK.elim
        | exact absurd rfl hop.1
        | exact absurd rfl hop.2
        | (obtain⟨hb,hK⟩:=hK
           refine Ai.still hI ?_ (.t _ _ (.int _ _)) hK
           simp [execOp,ho,hρx,hρy,eqGuard,binOp,Op.intDiv,hb])
        | (refine Ai.still hI ?_ (.t _ _ (.int _ _)) hK
           simp [execOp,ho,hρx,hρy,eqGuard,binOp,Op.intArith];done)
        | (refine Ai.still hI ?_ (.t _ _ (.bool _)) hK
           simp [execOp,ho,hρx,hρy,eqGuard,binOp,Op.intCmp];done)
        | (refine Ai.still hI ?_ (.t _ _ (.int _ _)) hK
           simp [execOp,ho,hρx,hρy,eqGuard,binOp,Op.intBits,Fc];done)
  · rename_i a b
    generalize hρx:ρ x=ux at hx
    generalize hρy:ρ y=uy at hy
    cases hx with
    | t _ _ h=>cases h with
    | str=>cases hy with
    | t _ _ h=>cases h with
    | str=>
      have hbeq : ∀p q:List UInt8,((⟨p.toArray⟩:ByteArray).toList==(⟨q.toArray⟩:ByteArray).toList)=(p==q):=by
        intro p q;simp [ByteArray.toList_eq]
      have hless : ∀p:List UInt8,(⟨p.toArray⟩:ByteArray).toList=p:=by intro p;simp [ByteArray.toList_eq]
      unfold Vz at hK
      cases op<;>simp only at hK<;>first
        | exact hK.elim
        | (obtain⟨hb,hK⟩:=hK
           refine Ai.still hI ?_ (.t _ _ (.str _)) hK
           have hsz : ¬(((⟨a.toArray⟩:ByteArray).size+(⟨b.toArray⟩:ByteArray).size:Nat):Int)>IntKind.i64.max:=by
             have h1:(⟨a.toArray⟩:ByteArray).size=a.length:=by simp [ByteArray.size]
             have h2:(⟨b.toArray⟩:ByteArray).size=b.length:=by simp [ByteArray.size]
             have h3:IntKind.i64.max=9223372036854775807:=by decide
             rw [h1,h2,h3]
             unfold maxLen at hb
             omega
           have happ:(⟨a.toArray⟩:ByteArray)++⟨b.toArray⟩=⟨(a++b).toArray⟩:=by
             apply ByteArray.ext;simp
           simp only [execOp,ho,hρx,hρy,eqGuard,binOp,Op.stringOp,Sem.run_bind,Sem.run_pure,Result.andThen_ok]
           simp only [hsz,if_false,happ,Sem.run_pure,Result.andThen_ok]
           simp)
        | (refine Ai.still hI ?_ (.t _ _ (.bool _)) hK
           simp [execOp,ho,hρx,hρy,eqGuard,binOp,Op.stringOp,hbeq,hless])
  · exact hK.elim

theorem Yj {op:UnOp} {t:TypeId} {x:Operand} (ho:o.op=.unOp op t x) (hI:Inv g S w) {v:V} (hv:RelV g S.toks v (ρ x)) (hK:unK op v S K):Ai P o ρ g S w K:=by
 unfold unK at hK
 split at hK
 ·generalize hρ:ρ x=u at hv
  cases hv with
  | t _ _ h=>cases h with
  | bool=>exact Ai.still hI (by simp [execOp,ho,hρ,Op.unary]) (.t _ _ (.bool _)) hK
 ·generalize hρ:ρ x=u at hv
  cases hv with
  | t _ _ h=>cases h with
  | int=>exact Ai.still hI (by simp [execOp,ho,hρ,Op.unary,Op.intArith]) (.t _ _ (.int _ _)) hK
 ·generalize hρ:ρ x=u at hv
  cases hv with
  | t _ _ h=>cases h with
  | int=>exact Ai.still hI (by simp [execOp,ho,hρ,Op.unary,Op.intBits,Fc]) (.t _ _ (.int _ _)) hK
 ·exact hK.elim

theorem Wb {s d:TypeId} {k' k:IntKind} {x:Operand} (ho:o.op=.convert s d x) (hs:P.underlying s=some (.int k')) (hd:P.underlying d=some (.int k)) (hI:Inv g S w) {v:V} (hv:RelV g S.toks v (ρ x))
  (hK:Sx k v S K):Ai P o ρ g S w K:=by
 unfold Sx at hK
 split at hK
 ·generalize hρ:ρ x=u at hv
  cases hv with
  | t _ _ h=>cases h with
  | int=>exact Ai.still hI (by simp [execOp,ho,hρ,convert,run_underlying hs,run_underlying hd,Conv.intToInt]) (.t _ _ (.int _ _)) hK
 ·exact hK.elim

theorem Wc {s d:TypeId} {x:Operand} (ho:o.op=.convert s d x) (hs:P.underlying s=some .string) (hd:P.underlying d=some .string) (hI:Inv g S w) {v:V} (hv:RelV g S.toks v (ρ x))
  (hK:Sy v S K):Ai P o ρ g S w K:=by
 unfold Sy at hK
 split at hK
 ·generalize hρ:ρ x=u at hv
  cases hv with
  | t _ _ h=>cases h with
  | str=>exact Ai.still hI (by simp [execOp,ho,hρ,convert,run_underlying hs,run_underlying hd]) (.t _ _ (.str _)) hK
 ·exact hK.elim

theorem Wd {i:Nat} {x:Operand} (ho:o.op=.extract x i) (hI:Inv g S w) {v:V} (hv:RelV g S.toks v (ρ x)) (hK:Sz i v S K):Ai P o ρ g S w K:=by
 unfold Sz at hK
 split at hK
 ·rename_i vs
  obtain⟨hi,hK⟩:=hK
  generalize hρ:ρ x=u at hv
  cases hv with
  | tup _ us hl hr=>
   have hlt:i<us.size:=by omega
   refine Ai.still hI (v:=us.getD i undef) ?_ (hr i hi) hK
   simp [execOp,ho,hρ,Instr.extract,hlt]
 ·exact hK.elim

theorem T9 {x:Operand} (ho:o.op=.nilCheck x) (hI:Inv g S w) {v:V} (hv:RelV g S.toks v (ρ x)) (hK:Lh v S K):Ai P o ρ g S w K:=by
 unfold Lh at hK
 split at hK
 ·generalize hρ:ρ x=u at hv
  have hv':=hv
  cases hv with
  | ptr _ _ blk hβ=>exact Ai.still hI (by simp [execOp,ho,hρ]) hv' hK
 ·generalize hρ:ρ x=u at hv
  have hv':=hv
  cases hv with
  | tp _ _ blk base c hc hr=>exact Ai.still hI (by simp [execOp,ho,hρ]) hv' hK
 ·exact hK.elim

theorem Ta {f:Fn} {caps:Array Operand} (ho:o.op=.makeFunc f #[] caps) (hI:Inv g S w) {vs:List V} (hv:E6 g S.toks ρ caps.toList vs) (hK:K (.fn f vs) S):Ai P o ρ g S w K:=by
 refine Ai.still hI (v:=.func f #[] (caps.map ρ)) (by simp [execOp,ho,Instr.makeFunc]) (.fn f vs _ (by simp [hv.1]) fun j hj=>?_) hK
 have hlt:j<caps.size:=by have:=hv.1;simp at this;omega
 have:=hv.2 j caps[j] (by simp [hlt])
 have hj':j<vs.length:=hj
 simpa [hlt,hj',List.getD_eq_getElem?_getD] using this

theorem Tb {c:Call} {t:TypeId} {x:Operand} (ho:o.op=.call c) (hc:c.callee=.builtin .len) (ht:c.argTypes.toList=[t]) (hx:c.args.toList=[x]) (hu:P.underlying t=some .string) (hI:Inv g S w) {v:V}
  (hv:RelV g S.toks v (ρ x)) (hK:Li v S K):Ai P o ρ g S w K:=by
 have ht':c.argTypes = #[t]:=Array.toList_inj.1 (by simpa using ht)
 have hx':c.args = #[x]:=Array.toList_inj.1 (by simpa using hx)
 unfold Li at hK
 split at hK
 ·generalize hρ:ρ x=u at hv
  cases hv with
  | t _ _ h=>cases h with
  | str=>
   refine Ai.still hI ?_ (.t _ _ (.int _ _)) hK
   simp [execOp,ho,resolve,hc,invoke,builtin,Builtin.len_,ht',hx',run_underlying hu,hρ,goInt,Kw]
 ·exact hK.elim

theorem Tc {c:Call} {t e:TypeId} {x:Operand} (ho:o.op=.call c) (hc:c.callee=.builtin .len) (ht:c.argTypes.toList=[t]) (hx:c.args.toList=[x]) (hu:P.underlying t=some (.slice e)) (hI:Inv g S w) {v:V}
  (hv:RelV g S.toks v (ρ x)) (hK:Lj v S K):Ai P o ρ g S w K:=by
 have ht':c.argTypes = #[t]:=Array.toList_inj.1 (by simpa using ht)
 have hx':c.args = #[x]:=Array.toList_inj.1 (by simpa using hx)
 unfold Lj at hK
 split at hK
 ·rename_i es hes
  have hrel:=Gn hv hes
  generalize hρ:ρ x=u at hrel
  cases hrel with
  | slnil=>
   refine Ai.still hI (v:=.int .i64 0) ?_ (.t _ _ (.int _ _)) hK
   simp [execOp,ho,resolve,hc,invoke,builtin,Builtin.len_,ht',hx',run_underlying hu,hρ,goInt]
  | slz a cap hm=>
   refine Ai.still hI (v:=.int .i64 0) ?_ (.t _ _ (.int _ _)) hK
   simp [execOp,ho,resolve,hc,invoke,builtin,Builtin.len_,ht',hx',run_underlying hu,hρ,goInt]
  | sl _ b off cap z c' hz hcc hm hcell hr=>
   refine Ai.still hI (v:=.int .i64 es.length) ?_ (.t _ _ (.int _ _)) hK
   simp [execOp,ho,resolve,hc,invoke,builtin,Builtin.len_,ht',hx',run_underlying hu,hρ,goInt]
 ·split at hK
  ·generalize hρ:ρ x=u at hv
   cases hv with
   | vw _ _ _ blk cap hβ hcc hm=>
    refine Ai.still hI ?_ (.t _ _ (.int _ _)) hK
    simp [execOp,ho,resolve,hc,invoke,builtin,Builtin.len_,ht',hx',run_underlying hu,hρ,goInt]
  ·generalize hρ:ρ x=u at hv
   cases hv with
   | bw _ _ blk cap hβ hcc hk hm=>
    refine Ai.still hI ?_ (.t _ _ (.int _ _)) hK
    simp [execOp,ho,resolve,hc,invoke,builtin,Builtin.len_,ht',hx',run_underlying hu,hρ,goInt]
  ·exact hK.elim

theorem Td {c:Call} {t e:TypeId} {n:Nat} {x:Operand} (ho:o.op=.call c) (hc:c.callee=.builtin .len) (ht:c.argTypes.toList=[t]) (hx:c.args.toList=[x]) (hu:P.underlying t=some (.array n e)) (hI:Inv g S w)
  (hK:K (.t (.int .i64 n)) S):Ai P o ρ g S w K:=by
 have ht':c.argTypes = #[t]:=Array.toList_inj.1 (by simpa using ht)
 have hx':c.args = #[x]:=Array.toList_inj.1 (by simpa using hx)
 refine Ai.still hI (v:=.int .i64 n) ?_ (.t _ _ (.int _ _)) hK
 simp [execOp,ho,resolve,hc,invoke,builtin,Builtin.len_,ht',hx',run_underlying hu,goInt]

theorem Te {c:Call} {t k e:TypeId} {x:Operand} (ho:o.op=.call c) (hc:c.callee=.builtin .len) (ht:c.argTypes.toList=[t]) (hx:c.args.toList=[x]) (hu:P.underlying t=some (.map k e)) (hI:Inv g S w) {v:V}
  (hv:RelV g S.toks v (ρ x)) (hK:Ho v S K):Ai P o ρ g S w K:=by
 have ht':c.argTypes = #[t]:=Array.toList_inj.1 (by simpa using ht)
 have hx':c.args = #[x]:=Array.toList_inj.1 (by simpa using hx)
 unfold Ho at hK
 split at hK
 ·generalize hρ:ρ x=u at hv
  cases hv with
  | t _ _ h=>cases h with
  | nilm=>
   refine Ai.still hI (v:=.int .i64 0) ?_ (.t _ _ (.int _ _)) hK
   simp [execOp,ho,resolve,hc,invoke,builtin,Builtin.len_,ht',hx',run_underlying hu,hρ,goInt]
 ·rename_i b
  generalize hρ:ρ x=u at hv
  cases hv with
  | mp _ blk hβ=>
  split at hK
  ·rename_i es hes
   obtain⟨ms,cl,h1,h2,h3,h4,h5⟩:=hI.box b blk _ hβ hes
   refine Ai.still hI (v:=.int .i64 es.length) ?_ (.t _ _ (.int _ _)) hK
   simp [execOp,ho,resolve,hc,invoke,builtin,Builtin.len_,ht',hx',run_underlying hu,hρ,goInt,MapKept.run_getObj_map h1,h2]
  ·exact hK.elim
 ·exact hK.elim

theorem Q2 {mx:Bool} {c:Call} {x y:Operand} (ho:o.op=.call c) (hc:c.callee=.builtin (if mx then .max else .min)) (hx:c.args.toList=[x,y]) (hI:Inv g S w) {vx vy:V}
  (hvx:RelV g S.toks vx (ρ x)) (hvy:RelV g S.toks vy (ρ y)) (hK:mmK mx vx vy S K):Ai P o ρ g S w K:=by
 have hx':c.args = #[x,y]:=Array.toList_inj.1 (by simpa using hx)
 unfold mmK at hK
 split at hK
 ·rename_i k a k' b
  obtain⟨rfl,hK⟩:=hK
  generalize hρx:ρ x=ux at hvx
  generalize hρy:ρ y=uy at hvy
  cases hvx with
  | t _ _ h1=>cases h1 with
  | int=>cases hvy with
   | t _ _ h2=>cases h2 with
   | int=>
    refine Ai.still hI ?_ (.t _ _ (.int _ _)) hK
    cases mx
    ·have e:(if b<a then b else a)=min a b:=by rw [Int.min_def];split<;>split<;>omega
     simp [execOp,ho,resolve,hc,invoke,builtin,Builtin.min_,Builtin.min2,hx',hρx,hρy,mmI,e]
    ·have e:(if b>a then b else a)=max a b:=by rw [Int.max_def];split<;>split<;>omega
     simp [execOp,ho,resolve,hc,invoke,builtin,Builtin.max_,Builtin.max2,hx',hρx,hρy,mmI]
     simpa using e
 ·exact hK.elim

end
end E
end Go.Proofs.YtmlpmdccfmmpoaaGreatDoor
end
