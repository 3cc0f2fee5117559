/- The engine, part 1: abstract values (trees), their relation to the model's values, and the invariant that ties an abstract state to a world. -/
import Derived.WalkKit
import Derived.Laws.AppendOwn
import Derived.Laws.OwnMore
import Derived.Laws.Rows
import Derived.Laws.Cells
import Derived.Laws.StructEq
import Derived.Laws.Slices
import Derived.Laws.Strings
import Derived.Orders
import Derived.Still
set_option linter.unusedSimpArgs false
set_option linter.unusedVariables false
namespace Go.Proofs.Ythfnaaeddlnckaa
namespace E

/-- Pure, immutable trees of one cell. A slice is the list of its elements, an element the list of its cells. -/
inductive T where
  | int (k : IntKind) (n : Int)
  | bool (b : Bool)
  | str (s : List UInt8)
  | nilp
  | nilm
  | nilf
  | nili
  | sl (es : List (List T))
  | ifc (t : TypeId) (a : Bool) (cs : List T)

/-- What a slot or a cell of a box may hold. -/
inductive V where
  | t (x : T)
  | und
  | junk
  | snil
  | full (es : List (List T))
  | own (k : Nat) (e : TypeId) (z : Nat) (es : List (List T))
  | ptr (b o : Nat)
  | tp (e : List T) (o : Nat)
  | fn (f : Fn) (caps : List V)
  | agg (cs : List V)
  | tup (vs : List V)
  | mp (b : Nat)
  | vw (b o n : Nat)

inductive Bx where
  | dead
  | cells (cs : List V)
  | mp (es : List (T × V))

structure St where
  boxes : List Bx
  toks : List Nat

structure Gh where
  I : Nat → Nat → Option Value
  β : List Nat
  τ : List (Option (Nat × TypeId × Nat × Nat))
  base : Nat
  ent : List Nat

inductive RelT (I : Nat → Nat → Option Value) : T → Value → Prop where
  | int (k : IntKind) (n : Int) : RelT I (.int k n) (.int k n)
  | bool (b : Bool) : RelT I (.bool b) (.bool b)
  | str (s : List UInt8) : RelT I (.str s) (.string ⟨s.toArray⟩)
  | nilp : RelT I .nilp (.pointer none)
  | nilm : RelT I .nilm (.map none)
  | nilf : RelT I .nilf .nilFunc
  | nili : RelT I .nili .nilIface
  | slnil : RelT I (.sl []) (.slice none 0 0)
  | sl (es : List (List T)) (b off cap z : Nat) (c : Nat → Nat → Value) (hz : ∀ i, i < es.length → (es.getD i []).length = z)
      (hc : es.length ≤ cap) (hm : cap ≤ maxLen)
      (hI : ∀ i j, i < es.length → j < z → I b (off + i * z + j) = some (c i j))
      (hr : ∀ i j, i < es.length → j < z → RelT I ((es.getD i []).getD j .nilp) (c i j)) :
      RelT I (.sl es) (.slice (some ⟨b, off, none⟩) es.length cap)
  | ifc1 (t : TypeId) (x : T) (v : Value) (h : RelT I x v) : RelT I (.ifc t false [x]) (.iface t v)
  | ifca (t : TypeId) (cs : List T) (vs : Array Value) (hl : vs.size = cs.length)
      (hr : ∀ j, j < cs.length → RelT I (cs.getD j .nilp) (vs.getD j undef)) : RelT I (.ifc t true cs) (.iface t (.agg vs))

def OwnGood (g : Gh) (k : Nat) (e : TypeId) (z : Nat) (es : List (List T)) (v : Value) : Prop :=
  (g.τ[k]? = some none ∧ es = [] ∧ v = .slice none 0 0) ∨
  (∃ blk cap, g.τ[k]? = some (some (blk, e, z, cap)) ∧ v = .slice (some ⟨blk, 0, none⟩) es.length cap)

inductive RelV (g : Gh) (tk : List Nat) : V → Value → Prop where
  | t (x : T) (v : Value) (h : RelT g.I x v) : RelV g tk (.t x) v
  | und : RelV g tk .und undef
  | junk (v : Value) : RelV g tk .junk v
  | snil : RelV g tk .snil (.slice none 0 0)
  | full (es : List (List T)) (a : Option Addr) (h : RelT g.I (.sl es) (.slice a es.length es.length)) : RelV g tk (.full es) (.slice a es.length es.length)
  | own (k : Nat) (e : TypeId) (z : Nat) (es : List (List T)) (v : Value) (n : Nat) (h : RelT g.I (.sl es) v) (hz : ∀ x ∈ es, x.length = z)
      (hn : tk[k]? = some n) (hle : es.length ≤ n) (hg : es.length = n → OwnGood g k e z es v) : RelV g tk (.own k e z es) v
  | ptr (b o blk : Nat) (h : g.β[b]? = some blk) : RelV g tk (.ptr b o) (.pointer (some ⟨blk, o, none⟩))
  | tp (e : List T) (o blk off : Nat) (c : Nat → Value) (hI : ∀ j, j < e.length → g.I blk (off + j) = some (c j))
      (hr : ∀ j, j < e.length → RelT g.I (e.getD j .nilp) (c j)) : RelV g tk (.tp e o) (.pointer (some ⟨blk, off + o, none⟩))
  | fn (f : Fn) (caps : List V) (vs : Array Value) (hl : vs.size = caps.length)
      (hr : ∀ j, j < caps.length → RelV g tk (caps.getD j .junk) (vs.getD j undef)) : RelV g tk (.fn f caps) (.func f #[] vs)
  | agg (cs : List V) (vs : Array Value) (hl : vs.size = cs.length)
      (hr : ∀ j, j < cs.length → RelV g tk (cs.getD j .junk) (vs.getD j undef)) : RelV g tk (.agg cs) (.agg vs)
  | tup (cs : List V) (vs : Array Value) (hl : vs.size = cs.length)
      (hr : ∀ j, j < cs.length → RelV g tk (cs.getD j .junk) (vs.getD j undef)) : RelV g tk (.tup cs) (.tuple vs)
  | mp (b blk : Nat) (h : g.β[b]? = some blk) : RelV g tk (.mp b) (.map (some blk))
  | vw (b o n blk cap : Nat) (h : g.β[b]? = some blk) (hc : n ≤ cap) (hm : cap ≤ maxLen) : RelV g tk (.vw b o n) (.slice (some ⟨blk, o, none⟩) n cap)

structure Ext (g : Gh) (tk : List Nat) (g' : Gh) (tk' : List Nat) : Prop where
  I : ∀ b o c, g.I b o = some c → g'.I b o = some c
  β : ∀ (i x : Nat), g.β[i]? = some x → g'.β[i]? = some x
  τ : ∀ (k n : Nat), tk[k]? = some n → ∃ n', tk'[k]? = some n' ∧ n ≤ n' ∧ (n' = n → g'.τ[k]? = g.τ[k]?)
  base : g'.base = g.base
  ent : g'.ent = g.ent
  icl : ∀ b o c, g'.I b o = some c → g.I b o = some c ∨ g.base ≤ b ∨ b ∈ g.ent

theorem Ext.refl (g : Gh) (tk : List Nat) : Ext g tk g tk :=
  ⟨fun _ _ _ h => h, fun _ _ h => h, fun _ n h => ⟨n, h, Nat.le_refl _, fun _ => rfl⟩, rfl, rfl, fun _ _ _ h => .inl h⟩
theorem Ext.trans {g g' g'' : Gh} {a b c : List Nat} (h : Ext g a g' b) (k : Ext g' b g'' c) : Ext g a g'' c := by
  refine ⟨fun x y z hx => k.I _ _ _ (h.I _ _ _ hx), fun i x hx => k.β _ _ (h.β _ _ hx), ?_, k.base.trans h.base, k.ent.trans h.ent, fun b o c hc => ?_⟩
  · intro i n hn
    obtain ⟨n1, h1, h2, h3⟩ := h.τ i n hn
    obtain ⟨n2, k1, k2, k3⟩ := k.τ i n1 h1
    exact ⟨n2, k1, by omega, fun e => (k3 (by omega)).trans (h3 (by omega))⟩
  · rcases k.icl b o c hc with h1 | h1
    · exact h.icl b o c h1
    · rw [h.base, h.ent] at h1; exact .inr h1

theorem RelT.mono {I I' : Nat → Nat → Option Value} (hI : ∀ b o c, I b o = some c → I' b o = some c) {x : T} {v : Value} (h : RelT I x v) : RelT I' x v := by
  induction h with
  | int => exact .int _ _
  | bool => exact .bool _
  | str => exact .str _
  | nilp => exact .nilp
  | nilm => exact .nilm
  | nilf => exact .nilf
  | nili => exact .nili
  | slnil => exact .slnil
  | sl es b off cap z c hz hc hm hI' hr ih => exact .sl es b off cap z c hz hc hm (fun i j hi hj => hI _ _ _ (hI' i j hi hj)) (fun i j hi hj => ih i j hi hj)
  | ifc1 t x v h ih => exact .ifc1 t x v ih
  | ifca t cs vs hl hr ih => exact .ifca t cs vs hl ih

theorem RelV.mono {g g' : Gh} {tk tk' : List Nat} (H : Ext g tk g' tk') {x : V} {v : Value} (h : RelV g tk x v) : RelV g' tk' x v := by
  induction h with
  | t x v h => exact .t x v (h.mono H.I)
  | und => exact .und
  | junk v => exact .junk v
  | snil => exact .snil
  | full es a h => exact .full es a (h.mono H.I)
  | own k e z es v n h hz hn hle hg =>
    obtain ⟨n', h1, h2, h3⟩ := H.τ k n hn
    refine .own k e z es v n' (h.mono H.I) hz h1 (by omega) fun he => ?_
    have hn' : n' = n := by omega
    have := hg (by omega)
    unfold OwnGood at *
    rw [h3 hn']
    exact this
  | ptr b o blk h => exact .ptr b o blk (H.β _ _ h)
  | tp e o blk off c hI hr => exact .tp e o blk off c (fun j hj => H.I _ _ _ (hI j hj)) (fun j hj => (hr j hj).mono H.I)
  | fn f caps vs hl hr ih => exact .fn f caps vs hl ih
  | agg cs vs hl hr ih => exact .agg cs vs hl ih
  | tup cs vs hl hr ih => exact .tup cs vs hl ih
  | mp b blk h => exact .mp b blk (H.β _ _ h)
  | vw b o n blk cap h hc hm => exact .vw b o n blk cap (H.β _ _ h) hc hm

/-- The map's entries: keys and values in order of insertion, births below the clock and distinct. -/
def MapAt (g : Gh) (tk : List Nat) (es : List (T × V)) (ms : Array MapEntry) (clock : Nat) : Prop :=
  ms.size = es.length ∧ (∀ j, j < es.length → ∃ m, ms[j]? = some m ∧ RelT g.I (es.getD j (.nilp, .junk)).1 m.key ∧ RelV g tk (es.getD j (.nilp, .junk)).2 m.val ∧ m.born < clock) ∧
  ms.size ≤ maxLen ∧ (ms.toList.map (·.born)).Pairwise (· < ·)

def BoxAt (g : Gh) (tk : List Nat) (w : World) (blk : Nat) : Bx → Prop
  | .dead => True
  | .cells cs => ∃ (vs : Array Value) (ty : TypeId), w.heap[blk]? = some (.cells vs ty (0, 0)) ∧ vs.size = cs.length ∧ ∀ j, j < cs.length → RelV g tk (cs.getD j .junk) (vs.getD j undef)
  | .mp es => ∃ ms clock, w.heap[blk]? = some (.map ms clock) ∧ MapAt g tk es ms clock

def Wr (g : Gh) (b : Nat) : Prop := g.base ≤ b ∨ b ∈ g.ent

structure Inv (g : Gh) (S : St) (w : World) : Prop where
  imm : ∀ b o c, g.I b o = some c → w.cell? ⟨b, o, none⟩ = some c
  len : g.β.length = S.boxes.length
  nodup : g.β.Nodup
  box : ∀ (i blk : Nat) (bx : Bx), g.β[i]? = some blk → S.boxes[i]? = some bx → BoxAt g S.toks w blk bx
  sep : ∀ (i blk : Nat) (bx : Bx), g.β[i]? = some blk → S.boxes[i]? = some bx → bx ≠ .dead → ∀ o, g.I blk o = none
  bwr : ∀ (i blk : Nat), g.β[i]? = some blk → Wr g blk
  tlen : g.τ.length = S.toks.length
  tok : ∀ (k n blk : Nat) (e : TypeId) (z cap : Nat), g.τ[k]? = some (some (blk, e, z, cap)) → S.toks[k]? = some n →
    (∃ cur, w.heap[blk]? = some (.cells cur e (0, 0)) ∧ cur.size = cap * z ∧ n ≤ cap ∧ cap ≤ maxLen) ∧ (∀ o, n * z ≤ o → g.I blk o = none) ∧ blk ∉ g.β ∧ Wr g blk
  tnil : ∀ (k n : Nat), g.τ[k]? = some none → S.toks[k]? = some n → n = 0
  tdis : ∀ (k l : Nat) (x y : Nat × TypeId × Nat × Nat), g.τ[k]? = some (some x) → g.τ[l]? = some (some y) → x.1 = y.1 → k = l
  lo : g.base ≤ w.heap.size
  bold : ∀ (i blk : Nat), g.β[i]? = some blk → blk < w.heap.size

/-- Nothing that may not be written has been written. -/
structure Frm (g : Gh) (w w' : World) : Prop where
  os : w'.os = w.os
  tape : w'.tape = w.tape
  output : w'.output = w.output
  size : w.heap.size ≤ w'.heap.size
  block : ∀ k, k < g.base → k ∉ g.ent → w'.heap[k]? = w.heap[k]?

theorem Frm.refl (g : Gh) (w : World) : Frm g w w := ⟨rfl, rfl, rfl, Nat.le_refl _, fun _ _ _ => rfl⟩
theorem Frm.trans {g : Gh} {a b c : World} (h : Frm g a b) (k : Frm g b c) : Frm g a c :=
  ⟨k.os.trans h.os, k.tape.trans h.tape, k.output.trans h.output, Nat.le_trans h.size k.size, fun i h1 h2 => (k.block i h1 h2).trans (h.block i h1 h2)⟩
theorem Frm.of_eq {g g' : Gh} {a b : World} (hb : g'.base = g.base) (he : g'.ent = g.ent) (h : Frm g' a b) : Frm g a b :=
  ⟨h.os, h.tape, h.output, h.size, fun k h1 h2 => h.block k (by rw [hb]; exact h1) (by rw [he]; exact h2)⟩

/-- One move: of the ghost, the abstract state and the world. -/
structure Mv (g : Gh) (S : St) (w : World) (g' : Gh) (S' : St) (w' : World) : Prop where
  inv : Inv g' S' w'
  ext : Ext g S.toks g' S'.toks
  frm : Frm g w w'

theorem Mv.refl {g : Gh} {S : St} {w : World} (h : Inv g S w) : Mv g S w g S w := ⟨h, Ext.refl _ _, Frm.refl _ _⟩
theorem Mv.trans {g : Gh} {S : St} {w : World} {g' : Gh} {S' : St} {w' : World} {g'' : Gh} {S'' : St} {w'' : World} (h : Mv g S w g' S' w') (k : Mv g' S' w' g'' S'' w'') : Mv g S w g'' S'' w'' :=
  ⟨k.inv, h.ext.trans k.ext, h.frm.trans (Frm.of_eq h.ext.base h.ext.ent k.frm)⟩

theorem BoxAt.mono {g g' : Gh} {tk tk' : List Nat} (H : Ext g tk g' tk') {w w' : World} {blk : Nat} {bx : Bx} (hw : w'.heap[blk]? = w.heap[blk]?) (h : BoxAt g tk w blk bx) : BoxAt g' tk' w' blk bx := by
  cases bx with
  | dead => trivial
  | cells cs =>
    obtain ⟨vs, ty, h1, h2, h3⟩ := h
    exact ⟨vs, ty, hw.trans h1, h2, fun j hj => (h3 j hj).mono H⟩
  | mp es =>
    obtain ⟨ms, cl, h1, h2, h3, h4, h5⟩ := h
    refine ⟨ms, cl, hw.trans h1, h2, fun j hj => ?_, h4, h5⟩
    obtain ⟨m, a, b, c, d⟩ := h3 j hj
    exact ⟨m, a, b.mono H.I, c.mono H, d⟩

/-- A draw changes nothing. -/
theorem Inv.drew {g : Gh} {S : St} {w : World} (h : Inv g S w) : Inv g S w.drew :=
  ⟨h.imm, h.len, h.nodup, fun i blk bx h1 h2 => (h.box i blk bx h1 h2).mono (Ext.refl _ _) rfl, h.sep, h.bwr, h.tlen, h.tok, h.tnil, h.tdis, h.lo, h.bold⟩
theorem Mv.drew {g : Gh} {S : St} {w : World} (h : Inv g S w) : Mv g S w g S w.drew := ⟨h.drew, Ext.refl _ _, ⟨rfl, rfl, rfl, Nat.le_refl _, fun _ _ _ => rfl⟩⟩

end E
end Go.Proofs.Ythfnaaeddlnckaa
