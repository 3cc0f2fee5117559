/- The engine, part 2: what one operation does to an abstract state. -/
import Derived.Test.YthfnaaeddlnckaaEng1
set_option linter.unusedSimpArgs false
set_option linter.unusedVariables false
namespace Go.Proofs.Ythfnaaeddlnckaa
namespace E

inductive Opd where
  | tmp (t : Nat)
  | c (v : V)

inductive EK where
  | mv
  | pick
  | box
  | alloc (z : List V)
  | build (z : List V) (ps : List (Nat × Nat))
  | bsl (sz : Nat)
  | load (n : Nat) (a : Bool)
  | store (n : Nat)
  | faddr (off : Nat)
  | fld (n : Nat) (a : Bool) (off : Nat)
  | iaS (sz : Nat)
  | iaA (len sz : Nat)
  | ixA (len sz n : Nat) (a : Bool)
  | ixS
  | bin (op : BinOp)
  | eqv (neg a : Bool) (ks : List Nat)
  | un (op : UnOp)
  | cvI (k : IntKind)
  | cvS
  | ext (i : Nat)
  | nilc
  | mkfn (f : Fn)
  | lenS
  | lenL
  | lenA (n : Nat)
  | app (e : TypeId) (sz bytes : Nat)
  | slA (len sz : Nat) (lo hi : Bool)
  | slS (lo hi : Bool)
  | slL (sz : Nat) (lo hi mx : Bool)
  | call (f : Nat)
  | callv

structure EO where
  d : Option Nat
  g : Option (Nat × Bool)
  k : EK
  xs : List Opd

/-! ### values -/
def cellsV : V → List V
  | .agg cs => cs
  | .t x => [.t x]
  | .und => [.und]
  | .junk => [.junk]
  | .snil => [.snil]
  | .full es => [.full es]
  | .own k e z es => [.own k e z es]
  | .ptr b o => [.ptr b o]
  | .tp e o => [.tp e o]
  | .fn f c => [.fn f c]
  | .tup vs => [.tup vs]
  | .mp b => [.mp b]
  | .vw b o n => [.vw b o n]

/-- May stand in one cell of a box. -/
def cellB : V → Bool
  | .t _ | .snil | .full _ | .own .. | .ptr .. | .tp .. | .fn .. | .mp _ | .vw .. => true
  | _ => false

def isAggV : V → Bool
  | .agg _ => true
  | _ => false

/-- A value of one cell, or a struct or array all of whose cells may stand in a box. -/
def okV (v : V) : Bool := (cellsV v).all cellB

/-- As a tree, if it is one. -/
def toT : V → Option T
  | .t x => some x
  | .snil => some (.sl [])
  | .full es => some (.sl es)
  | .own _ _ _ es => some (.sl es)
  | _ => none

def toTs : List V → Option (List T)
  | [] => some []
  | v :: vs => match toT v, toTs vs with
    | some x, some xs => some (x :: xs)
    | _, _ => none

@[simp] theorem toTs_map (l : List T) : toTs (l.map V.t) = some l := by
  induction l with
  | nil => rfl
  | cons x l ih => simp [toTs, toT, ih]

def esOf : V → Option (List (List T))
  | .t (.sl es) => some es
  | .snil => some []
  | .full es => some es
  | .own _ _ _ es => some es
  | _ => none

def ldv (a : Bool) (n : Nat) (cs : List V) : V := if a then .agg (cs.take n) else cs.headD .junk

def splice (cs : List V) (o : Nat) (vs : List V) : List V := cs.take o ++ vs ++ cs.drop (o + vs.length)

def fillV (cells : List V) : List (Nat × Nat) → List V → Option (List V)
  | (off, size) :: ps, v :: vs => if (cellsV v).length = size ∧ off + (cellsV v).length ≤ cells.length then fillV (splice cells off (cellsV v)) ps vs else none
  | [], [] => some cells
  | _, _ => none

/-- Equality of two rows of cells of given kinds (0 bool, 1 integer, 2 string). -/
def eqC : List Nat → List T → List T → Option Bool
  | [], [], [] => some true
  | 0 :: ks, .bool a :: xs, .bool b :: ys => (eqC ks xs ys).map fun r => (a == b) && r
  | 1 :: ks, .int k a :: xs, .int k' b :: ys => if k = k' then (eqC ks xs ys).map fun r => (a == b) && r else none
  | 2 :: ks, .str a :: xs, .str b :: ys => (eqC ks xs ys).map fun r => (a == b) && r
  | _, _, _ => none

/-! ### the operations -/
def pickK (c a b : V) (S : St) (K : V → St → Prop) : Prop :=
  match c with
  | .t (.bool t) => if t = true then K a S else K b S
  | _ => False

def boxK (v : V) (S : St) (K : V → St → Prop) : Prop :=
  (isAggV v || cellB v) = true ∧ K (.ptr S.boxes.length 0) { S with boxes := S.boxes ++ [.cells (cellsV v)] }

def loadK (n : Nat) (a : Bool) (v : V) (S : St) (K : V → St → Prop) : Prop :=
  match v with
  | .ptr b o => match S.boxes[b]? with
    | some (.cells cs) => o + n ≤ cs.length ∧ K (ldv a n (cs.drop o)) S
    | _ => False
  | .tp e o => o + n ≤ e.length ∧ K (ldv a n ((e.drop o).map V.t)) S
  | _ => False

def storeK (n : Nat) (ad v : V) (S : St) (K : V → St → Prop) : Prop :=
  match ad with
  | .ptr b o => match S.boxes[b]? with
    | some (.cells cs) => (o + n ≤ cs.length ∧ (cellsV v).length = n ∧ okV v = true) ∧ K .und { S with boxes := S.boxes.set b (.cells (splice cs o (cellsV v))) }
    | _ => False
  | _ => False

def faddrK (off : Nat) (v : V) (S : St) (K : V → St → Prop) : Prop :=
  match v with
  | .ptr b o => K (.ptr b (o + off)) S
  | .tp e o => K (.tp e (o + off)) S
  | _ => False

def fldK (n : Nat) (a : Bool) (off : Nat) (v : V) (S : St) (K : V → St → Prop) : Prop :=
  match v with
  | .agg cs => off + n ≤ cs.length ∧ K (ldv a n (cs.drop off)) S
  | _ => False

def iaSK (sz : Nat) (s i : V) (S : St) (K : V → St → Prop) : Prop :=
  match esOf s, i with
  | some es, .t (.int _ n) => (0 ≤ n ∧ n < es.length ∧ (es.getD n.toNat []).length = sz) ∧ K (.tp (es.getD n.toNat []) 0) S
  | none, .t (.int _ n) => match s with
    | .vw b o len => (0 ≤ n ∧ n < len) ∧ K (.ptr b (o + n.toNat * sz)) S
    | _ => False
  | _, _ => False

def iaAK (len sz : Nat) (p i : V) (S : St) (K : V → St → Prop) : Prop :=
  match p, i with
  | .ptr b o, .t (.int _ n) => (0 ≤ n ∧ n < len) ∧ K (.ptr b (o + n.toNat * sz)) S
  | .tp e o, .t (.int _ n) => (0 ≤ n ∧ n < len) ∧ K (.tp e (o + n.toNat * sz)) S
  | _, _ => False

def ixAK (len sz n : Nat) (a : Bool) (x i : V) (S : St) (K : V → St → Prop) : Prop :=
  match x, i with
  | .agg cs, .t (.int _ j) => (0 ≤ j ∧ j < len ∧ j.toNat * sz + n ≤ cs.length) ∧ K (ldv a n (cs.drop (j.toNat * sz))) S
  | _, _ => False

def ixSK (x i : V) (S : St) (K : V → St → Prop) : Prop :=
  match x, i with
  | .t (.str s), .t (.int _ j) => (0 ≤ j ∧ j < s.length) ∧ K (.t (.int .u8 (s.getD j.toNat 0).toNat)) S
  | _, _ => False

def intB (op : BinOp) (k : IntKind) (a b : Int) (S : St) (K : V → St → Prop) : Prop :=
  match op with
  | .add => K (.t (.int k (k.wrap (a + b)))) S
  | .sub => K (.t (.int k (k.wrap (a - b)))) S
  | .mul => K (.t (.int k (k.wrap (a * b)))) S
  | .quo => b ≠ 0 ∧ K (.t (.int k (k.wrap (a.tdiv b)))) S
  | .rem => b ≠ 0 ∧ K (.t (.int k (a.tmod b))) S
  | .eql => K (.t (.bool (a == b))) S
  | .neq => K (.t (.bool (a != b))) S
  | .lss => K (.t (.bool (decide (a < b)))) S
  | .leq => K (.t (.bool (decide (a ≤ b)))) S
  | .gtr => K (.t (.bool (decide (b < a)))) S
  | .geq => K (.t (.bool (decide (b ≤ a)))) S
  | _ => False

def strB (op : BinOp) (a b : List UInt8) (S : St) (K : V → St → Prop) : Prop :=
  match op with
  | .add => a.length + b.length ≤ maxLen ∧ K (.t (.str (a ++ b))) S
  | .eql => K (.t (.bool (a == b))) S
  | .neq => K (.t (.bool (!(a == b)))) S
  | .lss => K (.t (.bool (Op.bytesLess a b))) S
  | .leq => K (.t (.bool (Op.bytesLess a b || a == b))) S
  | .gtr => K (.t (.bool (!(Op.bytesLess a b || a == b)))) S
  | .geq => K (.t (.bool (!Op.bytesLess a b))) S
  | _ => False

def binK (op : BinOp) (x y : V) (S : St) (K : V → St → Prop) : Prop :=
  match x, y with
  | .t (.int k a), .t (.int k' b) => k = k' ∧ intB op k a b S K
  | .t (.str a), .t (.str b) => strB op a b S K
  | _, _ => False

def eqvK (neg a : Bool) (ks : List Nat) (x y : V) (S : St) (K : V → St → Prop) : Prop :=
  (isAggV x = a ∧ isAggV y = a) ∧
  match toTs (cellsV x), toTs (cellsV y) with
  | some xs, some ys => match eqC ks xs ys with
    | some r => K (.t (.bool (if neg then !r else r))) S
    | none => False
  | _, _ => False

def unK (op : UnOp) (x : V) (S : St) (K : V → St → Prop) : Prop :=
  match op, x with
  | .not, .t (.bool b) => K (.t (.bool (!b))) S
  | .neg, .t (.int k n) => K (.t (.int k (k.wrap (0 - n)))) S
  | _, _ => False

def cvIK (k : IntKind) (x : V) (S : St) (K : V → St → Prop) : Prop :=
  match x with
  | .t (.int _ n) => K (.t (.int k (k.wrap n))) S
  | _ => False

def cvSK (x : V) (S : St) (K : V → St → Prop) : Prop :=
  match x with
  | .t (.str s) => K (.t (.str s)) S
  | _ => False

def extK (i : Nat) (x : V) (S : St) (K : V → St → Prop) : Prop :=
  match x with
  | .tup vs => i < vs.length ∧ K (vs.getD i .junk) S
  | _ => False

def nilcK (x : V) (S : St) (K : V → St → Prop) : Prop :=
  match x with
  | .ptr b o => K (.ptr b o) S
  | .tp e o => K (.tp e o) S
  | _ => False

def lenSK (x : V) (S : St) (K : V → St → Prop) : Prop :=
  match x with
  | .t (.str s) => K (.t (.int .i64 s.length)) S
  | _ => False

def lenLK (x : V) (S : St) (K : V → St → Prop) : Prop :=
  match esOf x with
  | some es => K (.t (.int .i64 es.length)) S
  | none => match x with
    | .vw _ _ n => K (.t (.int .i64 n)) S
    | _ => False

/-- What is appended: the elements of a slice, or of a view into a box. -/
def srcK (sz : Nat) (x : V) (S : St) : Option (List (List T)) :=
  match esOf x with
  | some es => some es
  | none => match x with
    | .vw b o n => match S.boxes[b]? with
      | some (.cells cs) => match toTs ((cs.drop o).take (n * sz)) with
        | some ts => if ts.length = n * sz then some ((List.range n).map fun i => (ts.drop (i * sz)).take sz) else none
        | none => none
      | _ => none
    | _ => none

def appK (e : TypeId) (sz bytes : Nat) (s x : V) (S : St) (K : V → St → Prop) : Prop :=
  match srcK sz x S with
  | none => False
  | some new =>
    ((∀ y ∈ new, y.length = sz)) ∧
    match s with
    | .snil => (new.length ≤ maxLen ∧ new.length * bytes ≤ 140737488355328) ∧ K (.own S.toks.length e sz new) { S with toks := S.toks ++ [new.length] }
    | .full es => (new ≠ [] ∧ (∀ y ∈ es, y.length = sz) ∧ es.length + new.length ≤ maxLen ∧ (es.length + new.length) * bytes ≤ 140737488355328) ∧
        K (.own S.toks.length e sz (es ++ new)) { S with toks := S.toks ++ [es.length + new.length] }
    | .own k e' z es => (e' = e ∧ z = sz ∧ S.toks[k]? = some es.length ∧ es.length + new.length ≤ maxLen ∧ (es.length + new.length) * bytes ≤ 140737488355328) ∧
        K (.own k e sz (es ++ new)) { S with toks := S.toks.set k (es.length + new.length) }
    | _ => False

def bslK (sz : Nat) (vs : List V) (S : St) (K : V → St → Prop) : Prop :=
  match vs.mapM (fun v => toTs (cellsV v)) with
  | some es => (∀ e ∈ es, e.length = sz) ∧ K (.full es) S
  | none => False

def loI (has : Bool) (vs : List V) (d : Int) : Int :=
  if has then (match vs.headD .und with | .t (.int _ n) => n | _ => -1) else d

def estepK (k : EK) (vs : List V) (S : St) (K : V → St → Prop) : Prop :=
  match k with
  | .mv => K (vs.getD 0 .und) S
  | .pick => pickK (vs.getD 0 .und) (vs.getD 1 .und) (vs.getD 2 .und) S K
  | .box => boxK (vs.getD 0 .und) S K
  | .alloc z => K (.ptr S.boxes.length 0) { S with boxes := S.boxes ++ [.cells z] }
  | .build z ps => match fillV z ps vs with
    | some cs => (vs.all fun v => isAggV v || cellB v) = true ∧ K (.agg cs) S
    | none => False
  | .bsl sz => bslK sz vs S K
  | .load n a => loadK n a (vs.getD 0 .und) S K
  | .store n => storeK n (vs.getD 0 .und) (vs.getD 1 .und) S K
  | .faddr off => faddrK off (vs.getD 0 .und) S K
  | .fld n a off => fldK n a off (vs.getD 0 .und) S K
  | .iaS sz => iaSK sz (vs.getD 0 .und) (vs.getD 1 .und) S K
  | .iaA len sz => iaAK len sz (vs.getD 0 .und) (vs.getD 1 .und) S K
  | .ixA len sz n a => ixAK len sz n a (vs.getD 0 .und) (vs.getD 1 .und) S K
  | .ixS => ixSK (vs.getD 0 .und) (vs.getD 1 .und) S K
  | .bin op => binK op (vs.getD 0 .und) (vs.getD 1 .und) S K
  | .eqv neg a ks => eqvK neg a ks (vs.getD 0 .und) (vs.getD 1 .und) S K
  | .un op => unK op (vs.getD 0 .und) S K
  | .cvI k => cvIK k (vs.getD 0 .und) S K
  | .cvS => cvSK (vs.getD 0 .und) S K
  | .ext i => extK i (vs.getD 0 .und) S K
  | .nilc => nilcK (vs.getD 0 .und) S K
  | .mkfn f => K (.fn f vs) S
  | .lenS => lenSK (vs.getD 0 .und) S K
  | .lenL => lenLK (vs.getD 0 .und) S K
  | .lenA n => K (.t (.int .i64 n)) S
  | .app e sz bytes => appK e sz bytes (vs.getD 0 .und) (vs.getD 1 .und) S K
  | .slA len sz lo hi => match vs.getD 0 .und with
    | .ptr b o => (0 ≤ loI lo (vs.drop 1) 0 ∧ loI lo (vs.drop 1) 0 ≤ loI hi (vs.drop (if lo then 2 else 1)) len ∧ loI hi (vs.drop (if lo then 2 else 1)) len ≤ len ∧ len ≤ maxLen ∧ loI lo (vs.drop 1) 0 < len) ∧
        K (.vw b (o + (loI lo (vs.drop 1) 0).toNat * sz) ((loI hi (vs.drop (if lo then 2 else 1)) len) - loI lo (vs.drop 1) 0).toNat) S
    | _ => False
  | .slS lo hi => match vs.getD 0 .und with
    | .t (.str s) => (0 ≤ loI lo (vs.drop 1) 0 ∧ loI lo (vs.drop 1) 0 ≤ loI hi (vs.drop (if lo then 2 else 1)) s.length ∧ loI hi (vs.drop (if lo then 2 else 1)) s.length ≤ s.length) ∧
        K (.t (.str ((s.take (loI hi (vs.drop (if lo then 2 else 1)) s.length).toNat).drop (loI lo (vs.drop 1) 0).toNat))) S
    | _ => False
  | .slL sz lo hi mx => match esOf (vs.getD 0 .und) with
    | some es => (mx = false ∧ 0 ≤ loI lo (vs.drop 1) 0 ∧ loI lo (vs.drop 1) 0 ≤ loI hi (vs.drop (if lo then 2 else 1)) es.length ∧ loI hi (vs.drop (if lo then 2 else 1)) es.length ≤ es.length ∧ (∀ e ∈ es, e.length = sz)) ∧
        K (.t (.sl ((es.take (loI hi (vs.drop (if lo then 2 else 1)) es.length).toNat).drop (loI lo (vs.drop 1) 0).toNat))) S
    | none => False
  | .call _ | .callv => False

theorem estepK_mono {k : EK} {vs : List V} {S : St} {K K' : V → St → Prop} (h : ∀ x S, K x S → K' x S) (hk : estepK k vs S K) : estepK k vs S K' := by
  cases k <;> simp only [estepK, pickK, boxK, loadK, storeK, faddrK, fldK, iaSK, iaAK, ixAK, ixSK, binK, intB, strB, eqvK, unK, cvIK, cvSK, extK, nilcK, lenSK, lenLK, appK, bslK] at hk ⊢ <;>
    (repeat' split at hk) <;> first
      | exact hk.elim
      | exact hk.2.elim
      | exact h _ _ hk
      | exact ⟨hk.1, h _ _ hk.2⟩
      | exact ⟨hk.1, hk.2.1, h _ _ hk.2.2⟩
      | (simp_all; done)
      | (split <;> simp_all; done)

end E
end Go.Proofs.Ythfnaaeddlnckaa
