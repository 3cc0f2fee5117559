/- The engine, part 3: how an operation of the model is read as one of the engine's; the moves of the invariant. -/
import Derived.Test.YthfnaaeddlnckaaEng2
set_option linter.unusedSimpArgs false
set_option linter.unusedVariables false
namespace Go.Proofs.Ythfnaaeddlnckaa
namespace E

def constV1 : Value → Option V
  | .bool b => some (.t (.bool b))
  | .int k n => some (.t (.int k n))
  | .string s => some (.t (.str s.data.toList))
  | .slice none 0 0 => some .snil
  | .pointer none => some (.t .nilp)
  | .map none => some (.t .nilm)
  | .nilFunc => some (.t .nilf)
  | .nilIface => some (.t .nili)
  | _ => none

def constVs : List Value → Option (List V)
  | [] => some []
  | v :: vs => match constV1 v, constVs vs with
    | some x, some xs => some (x :: xs)
    | _, _ => none

def constV : Value → Option V
  | .agg cs => (constVs cs.toList).map .agg
  | v => constV1 v

def opd : Operand → Option Opd
  | .tmp t => some (.tmp t)
  | .const v => (constV v).map .c
  | .func f => some (.c (.fn (.func f) []))
  | .global _ => none

def opds : List Operand → Option (List Opd)
  | [] => some []
  | x :: xs => match opd x, opds xs with
    | some y, some ys => some (y :: ys)
    | _, _ => none

def aggD : TypeDesc → Bool
  | .struct _ | .array _ _ => true
  | _ => false

/-- Cells and kind of a type that a variable may have. -/
def shapeOf (P : Program) (t : TypeId) : Option (Nat × Bool) :=
  match P.info? t, P.underlying t with
  | some i, some d => if aggD d || i.size == 1 then some (i.size, aggD d) else none
  | _, _ => none

/-- The kinds of the cells of fields that lie one behind the other from an offset on. -/
def eqFs (P : Program) (rec : TypeId → Option (List Nat)) : List Field → Nat → Option (List Nat)
  | [], _ => some []
  | f :: fs, off =>
    match rec f.type, shapeOf P f.type with
    | some ks, some (n, _) => if f.name ≠ "_" ∧ f.offset = off ∧ ks.length = n then (eqFs P rec fs (off + n)).map (ks ++ ·) else none
    | _, _ => none

/-- The kinds of the cells of a type all of whose cells are integers, bools or strings (what '==' looks at, in order). -/
def eqCells (P : Program) : Nat → TypeId → Option (List Nat)
  | 0, _ => none
  | d + 1, t =>
    match P.underlying t with
    | some .bool => some [0]
    | some (.int _) => some [1]
    | some .string => some [2]
    | some (.struct fs) => if P.stoodInHeld t then none else eqFs P (eqCells P d) fs.toList 0
    | some (.array len e) =>
      match eqCells P d e, shapeOf P e with
      | some ks, some (k, _) => if ks.length = k then some (List.replicate len ks).flatten else none
      | _, _ => none
    | _ => none

def fieldOf (P : Program) (t : TypeId) (f : Nat) : Option (Nat × Nat × Bool) :=
  match P.underlying t with
  | some (.struct fs) => match fs[f]? with
    | some fd => match shapeOf P fd.type with
      | some (n, a) => if n = 0 then none else some (fd.offset, n, a)
      | none => none
    | none => none
  | _ => none

def placesOf (P : Program) (t : TypeId) (ixs : List Nat) : Option (List (Nat × Nat)) :=
  match P.underlying t with
  | some (.struct fs) => ixs.mapM fun i => match fs[i]? with
    | some fd => (P.info? fd.type).map fun j => (fd.offset, j.size)
    | none => none
  | some (.array _ e) => match P.info? e with
    | some j => ixs.mapM fun i => some (i * j.size, j.size)
    | none => none
  | _ => none

def isShift : BinOp → Bool
  | .shl | .shr => true
  | _ => false

def fieldsKnown (P : Program) (t : TypeId) : Bool :=
  match P.underlying t with
  | some (.struct fs) => fs.all fun f => (P.info? f.type).isSome
  | _ => true

def kindOf (P : Program) (o : Oper) : Option (EK × List Operand) :=
  match o.op with
  | .move x | .assign x => some (.mv, [x])
  | .pick c a b => some (.pick, [c, a, b])
  | .box _ x => some (.box, [x])
  | .alloc t => match P.info? t with
    | some i => match i.zero with
      | some z => (constV z).map fun v => (.alloc (cellsV v), [])
      | none => none
    | none => none
  | .build t parts => match P.info? t with
    | some i => match i.zero with
      | some z => match constV z, placesOf P t (parts.toList.map (·.1)) with
        | some v, some ps => if fieldsKnown P t = true then some (.build (cellsV v) ps, parts.toList.map (·.2)) else none
        | _, _ => none
      | none => none
    | none => none
  | .buildSlice t len parts => match P.underlying t with
    | some (.slice e) => match P.info? e with
      | some i => match i.zero with
        | some z => if parts.toList.map (·.1) = List.range len ∧ z.cells.size = i.size ∧ 0 < i.size ∧ len * i.size ≤ 2 ^ 24 then some (.bsl i.size, parts.toList.map (·.2)) else none
        | none => none
      | none => none
    | _ => none
  | .load t x => match shapeOf P t with
    | some (n, a) => some (.load n a, [x])
    | none => none
  | .store t x v => match shapeOf P t with
    | some (n, _) => some (.store n, [x, v])
    | none => none
  | .fieldAddr t x f => match fieldOf P t f with
    | some (off, _, _) => some (.faddr off, [x])
    | none => none
  | .field t x f => match fieldOf P t f with
    | some (off, n, a) => some (.fld n a off, [x])
    | none => none
  | .indexAddr t x i => match P.underlying t with
    | some (.slice e) => match P.info? e with
      | some j => some (.iaS j.size, [x, i])
      | none => none
    | some (.array len e) => match P.info? e with
      | some j => some (.iaA len j.size, [x, i])
      | none => none
    | _ => none
  | .index t x i => match P.underlying t with
    | some (.array len e) => match shapeOf P e with
      | some (n, a) => some (.ixA len n n a, [x, i])
      | none => none
    | some .string => some (.ixS, [x, i])
    | _ => none
  | .binOp op t x y _ => match P.underlying t with
    | some (.int _) | some .string => if isShift op = true then none else some (.bin op, [x, y])
    | some d => match eqCells P 100 t, op with
      | some n, .eql => if P.eqGuardType P.depth t then none else some (.eqv false (aggD d) n, [x, y])
      | some n, .neq => if P.eqGuardType P.depth t then none else some (.eqv true (aggD d) n, [x, y])
      | _, _ => none
    | none => none
  | .unOp op _ x => some (.un op, [x])
  | .convert src dst x => match P.underlying src, P.underlying dst with
    | some (.int _), some (.int k) => some (.cvI k, [x])
    | some .string, some .string => some (.cvS, [x])
    | _, _ => none
  | .extract x i => some (.ext i, [x])
  | .nilCheck x => some (.nilc, [x])
  | .makeFunc f first caps => if first.isEmpty then some (.mkfn f, caps.toList) else none
  | .slice t x lo hi mx => match P.underlying t with
    | some (.array len e) => match P.info? e with
      | some j => if mx.isSome then none else some (.slA len j.size lo.isSome hi.isSome, x :: (lo.toList ++ hi.toList))
      | none => none
    | some .string => if mx.isSome then none else some (.slS lo.isSome hi.isSome, x :: (lo.toList ++ hi.toList))
    | some (.slice e) => match P.info? e with
      | some j => if mx.isSome then none else some (.slL j.size lo.isSome hi.isSome false, x :: (lo.toList ++ hi.toList))
      | none => none
    | _ => none
  | .call c => match c.callee with
    | .value (.func f) => some (.call f, c.args.toList)
    | .value x => some (.callv, x :: c.args.toList)
    | .builtin .len => match c.argTypes.toList, c.args.toList with
      | [t], [x] => match P.underlying t with
        | some .string => some (.lenS, [x])
        | some (.slice _) => some (.lenL, [x])
        | some (.array n _) => some (.lenA n, [])
        | _ => none
      | _, _ => none
    | .builtin .append => match c.argTypes.toList, c.args.toList with
      | [t, u], [x, y] => match P.underlying t, t == u with
        | some (.slice e), true => match P.info? e with
          | some j => match j.zero with
            | some z => if 0 < j.size ∧ z.cells.size = j.size then some (.app e j.size j.bytes, [x, y]) else none
            | none => none
          | none => none
        | _, _ => none
      | _, _ => none
    | _ => none
  | _ => none

def eopOf (P : Program) (ops : Array Oper) (o : Oper) : Option EO :=
  match kindOf P o with
  | none => none
  | some (k, xs) => match opds xs with
    | none => none
    | some ys => match o.guard with
      | none => some { d := o.dst, g := none, k := k, xs := ys }
      | some (j, want) => match (ops[j]?).bind (·.dst) with
        | some t => some { d := o.dst, g := some (t, want), k := k, xs := ys }
        | none => none

/-! ### constants -/
theorem constV1_rel {g : Gh} {tk : List Nat} {v : Value} {x : V} (h : constV1 v = some x) : RelV g tk x v := by
  unfold constV1 at h
  split at h <;> simp only [Option.some.injEq, reduceCtorEq] at h <;> subst h
  · exact .t _ _ (.bool _)
  · exact .t _ _ (.int _ _)
  · rename_i s
    have : s = ⟨s.data.toList.toArray⟩ := by cases s; simp
    rw [this]
    exact .t _ _ (.str _)
  · exact .snil
  · exact .t _ _ .nilp
  · exact .t _ _ .nilm
  · exact .t _ _ .nilf
  · exact .t _ _ .nili

theorem constVs_rel {g : Gh} {tk : List Nat} : ∀ {vs : List Value} {xs : List V}, constVs vs = some xs → xs.length = vs.length ∧ ∀ j, j < xs.length → RelV g tk (xs.getD j .junk) (vs.getD j undef)
  | [], xs, h => by simp [constVs] at h; subst h; simp
  | v :: vs, xs, h => by
    simp only [constVs] at h
    split at h
    · rename_i x ys hx hys
      simp only [Option.some.injEq] at h
      subst h
      have ih := constVs_rel (g := g) (tk := tk) hys
      refine ⟨by simp [ih.1], fun j hj => ?_⟩
      cases j with
      | zero => simpa using constV1_rel hx
      | succ j => simpa using ih.2 j (by simpa using hj)
    · cases h

theorem constV_rel {g : Gh} {tk : List Nat} {v : Value} {x : V} (h : constV v = some x) : RelV g tk x v := by
  unfold constV at h
  split at h
  · rename_i cs
    cases hx : constVs cs.toList with
    | none => simp [hx] at h
    | some xs =>
      simp [hx] at h
      subst h
      have := constVs_rel (g := g) (tk := tk) hx
      exact .agg _ _ (by simp [this.1]) (fun j hj => by simpa using this.2 j hj)
  · exact constV1_rel h

/-- Cells of a value that is an aggregate or of one cell. -/
theorem cells_rel {g : Gh} {tk : List Nat} {x : V} {v : Value} (h : RelV g tk x v) (hx : isAggV x = true ∨ cellB x = true) :
    v.cells.size = (cellsV x).length ∧ ∀ j, j < (cellsV x).length → RelV g tk ((cellsV x).getD j .junk) (v.cells.getD j undef) := by
  have one : ∀ {y : V} {u : Value}, RelV g tk y u → cellsV y = [y] → u.cells = #[u] → u.cells.size = (cellsV y).length ∧ ∀ j, j < (cellsV y).length → RelV g tk ((cellsV y).getD j .junk) (u.cells.getD j undef) := by
    intro y u hr h1 h2
    rw [h1, h2]
    refine ⟨rfl, fun j hj => ?_⟩
    have : j = 0 := by simpa using hj
    subst this
    simpa using hr
  cases h with
  | agg cs vs hl hr => exact ⟨hl, hr⟩
  | und => simp [isAggV, cellB] at hx
  | junk v => simp [isAggV, cellB] at hx
  | tup cs vs hl hr => simp [isAggV, cellB] at hx
  | t x v h => exact one (.t x v h) rfl (by cases h <;> rfl)
  | snil => exact one .snil rfl rfl
  | full es a h => exact one (.full es a h) rfl rfl
  | own k e z es v n h hz hn hle hg => exact one (.own k e z es v n h hz hn hle hg) rfl (by cases h <;> rfl)
  | ptr b o blk h => exact one (.ptr b o blk h) rfl rfl
  | tp e o blk off c hI hr => exact one (.tp e o blk off c hI hr) rfl rfl
  | fn f caps vs hl hr => exact one (.fn f caps vs hl hr) rfl rfl
  | mp b blk h => exact one (.mp b blk h) rfl rfl
  | vw b o n blk cap h hc hm => exact one (.vw b o n blk cap h hc hm) rfl rfl

theorem oneCell_of {g : Gh} {tk : List Nat} {x : V} {v : Value} (h : RelV g tk x v) (hx : cellB x = true) : v.oneCell' = true := by
  cases h with
  | und => simp [cellB] at hx
  | junk v => simp [cellB] at hx
  | agg cs vs hl hr => simp [cellB] at hx
  | tup cs vs hl hr => simp [cellB] at hx
  | t x v h => cases h <;> rfl
  | snil => rfl
  | full es a h => rfl
  | own k e z es v n h hz hn hle hg => cases h <;> rfl
  | ptr b o blk h => rfl
  | tp e o blk off c hI hr => rfl
  | fn f caps vs hl hr => rfl
  | mp b blk h => rfl
  | vw b o n blk cap h hc hm => rfl

theorem okV_cases {x : V} (h : okV x = true) : isAggV x = true ∨ cellB x = true := by
  cases x <;> simp_all [okV, cellsV, cellB, isAggV]

theorem toT_rel {g : Gh} {tk : List Nat} {x : V} {v : Value} {t : T} (h : RelV g tk x v) (ht : toT x = some t) : RelT g.I t v := by
  cases h <;> simp [toT] at ht <;> subst ht
  · assumption
  · exact .slnil
  · assumption
  · assumption

theorem toTs_spec : ∀ {xs : List V} {ts : List T}, toTs xs = some ts → ts.length = xs.length ∧ ∀ j, j < xs.length → toT (xs.getD j .junk) = some (ts.getD j .nilp)
  | [], ts, h => by simp [toTs] at h; subst h; simp
  | x :: xs, ts, h => by
    simp only [toTs] at h
    split at h
    · rename_i y ys hy hys
      simp only [Option.some.injEq] at h
      subst h
      have ih := toTs_spec hys
      refine ⟨by simp [ih.1], fun j hj => ?_⟩
      cases j with
      | zero => simpa using hy
      | succ j => simpa using ih.2 j (by simpa using hj)
    · cases h

/-- A slice's tree. -/
theorem esOf_rel {g : Gh} {tk : List Nat} {x : V} {v : Value} {es : List (List T)} (h : RelV g tk x v) (ht : esOf x = some es) : RelT g.I (.sl es) v := by
  cases h <;> simp only [esOf] at ht <;> try (cases ht)
  · rename_i y hy; cases y <;> simp at ht; subst ht; assumption
  · exact .slnil
  · assumption
  · assumption

end E
end Go.Proofs.Ythfnaaeddlnckaa
