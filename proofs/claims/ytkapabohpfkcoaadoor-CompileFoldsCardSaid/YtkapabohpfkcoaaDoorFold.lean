/- Chapter 34: Fold, in general. -/
import Derived.Test.YtkapabohpfkcoaaDoorTxt
import Derived.Test.YtkapabohpfkcoaaDoorOpL
set_option linter.unusedSimpArgs false
set_option linter.unusedVariables false
set_option maxHeartbeats 2000000
set_option maxRecDepth 8000
namespace Go.Proofs.YtkapabohpfkcoaaDoor
open E

/-- The numbers of the last t instructions, if all of them are pushes. -/
def argsF (out : List Ins) (t : Nat) : Option (Int × Int) :=
  let l := out.drop (out.length - t)
  if (l.any fun y => y.op != 1) = true then none else some ((l.headD ⟨0, 0, 0⟩).a, if t = 2 then ((l.drop 1).headD ⟨0, 0, 0⟩).a else 0)
def foldStep (out : List Ins) (x : Ins) : List Ins :=
  let t := (tk x.op).toNat
  if pt x.op = 0 ∨ t = 0 ∨ out.length < t then out ++ [x]
  else match argsF out t with
    | none => out ++ [x]
    | some (a, b) => if (opC x.op x.a a b).2 = true then out.take (out.length - t) ++ [⟨1, (opC x.op x.a a b).1, 0⟩] else out ++ [x]
def foldC (l : List Ins) : List Ins := l.foldl foldStep []
theorem foldC_snoc (l : List Ins) (x : Ins) : foldC (l ++ [x]) = foldStep (foldC l) x := by simp [foldC]
theorem foldStep_length (out : List Ins) (x : Ins) : (foldStep out x).length ≤ out.length + 1 := by
  unfold foldStep
  simp only []
  split
  · simp
  split
  · simp
  · split
    · simp
    · simp
theorem foldC_length (l : List Ins) : (foldC l).length ≤ l.length := by
  suffices h : ∀ (l : List Ins) (o : List Ins), (l.foldl foldStep o).length ≤ o.length + l.length by simpa [foldC] using h l []
  intro l
  induction l with
  | nil => simp
  | cons x l ih =>
    intro o
    have h1 := ih (foldStep o x)
    have h2 := foldStep_length o x
    simp only [List.foldl_cons, List.length_cons]
    omega

/-- The boxes ahead of the buffer, known by what a walk asks of them. -/
structure Ahead (c0 c1 c2 : List V) (A : List Bx) : Prop where
  len : 3 ≤ A.length
  g0 : A[0]? = some (.cells c0)
  g1 : A[1]? = some (.cells c1)
  g2 : A[2]? = some (.cells c2)
  le : ∀ n m, LeBs n m A A
theorem LeBs.app {n m : Nat} {A : List Bx} : ∀ {l l' : List Bx}, LeBs n m A A → (LeBs n m (A ++ l) (A ++ l') ↔ LeBs n m l l') := by
  intro l l' h
  induction A with
  | nil => rfl
  | cons a A ih => exact ⟨fun k => (ih h.2).1 k.2, fun k => ⟨h.1, (ih h.2).2 k⟩⟩
theorem app_get {A l : List Bx} (j : Nat) : (A ++ l)[A.length + j]? = l[j]? := by rw [List.getElem?_append_right (by omega)]; congr 1; omega
theorem app_set {A l : List Bx} (j : Nat) (v : Bx) : (A ++ l).set (A.length + j) v = A ++ l.set j v := by
  rw [List.set_append, if_neg (by omega)]; congr 2; omega
theorem Ahead.more {c0 c1 c2 : List V} {A : List Bx} (h : Ahead c0 c1 c2 A) (d : List Bx) (hd : ∀ x ∈ d, x = .dead) : Ahead c0 c1 c2 (A ++ d) := by
  have hl := h.len
  refine ⟨by simp; omega, ?_, ?_, ?_, fun n m => ((LeBs.app (h.le n m)).2 ?_)⟩
  · rw [List.getElem?_append_left (by omega)]; exact h.g0
  · rw [List.getElem?_append_left (by omega)]; exact h.g1
  · rw [List.getElem?_append_left (by omega)]; exact h.g2
  · clear hl h
    induction d with
    | nil => trivial
    | cons x d ih =>
      have := hd x (by simp)
      subst this
      exact ⟨trivial, ih fun y hy => hd y (by simp [hy])⟩
theorem fm_row : ∀ (o : List Ins) (rest : List V) (i : Nat) (h : i < o.length), ((((o.flatMap Ins.c).map V.t) ++ rest).drop (i * 3)).take 3 = [vI o[i].op, vI o[i].a, vI o[i].b]
  | x :: o, rest, 0, h => by simp [Ins.c]
  | x :: o, rest, i + 1, h => by
    have := fm_row o rest i (by simpa using h)
    simp only [List.flatMap_cons, List.map_append, List.getElem_cons_succ]
    rw [show (i + 1) * 3 = 3 + i * 3 from by omega, ← List.drop_drop]
    have h3 : (x.c.map V.t).length = 3 := rfl
    rw [List.append_assoc, List.drop_left' h3]
    exact this
theorem fm_take : ∀ (o : List Ins) (rest : List V) (m : Nat) (h : m ≤ o.length), (((o.flatMap Ins.c).map V.t) ++ rest).take (m * 3) = ((o.take m).flatMap Ins.c).map V.t
  | o, rest, 0, h => by simp
  | x :: o, rest, i + 1, h => by
    have := fm_take o rest i (by simpa using h)
    simp only [List.flatMap_cons, List.map_append, List.take_succ_cons]
    rw [show (i + 1) * 3 = 3 + i * 3 from by omega, List.append_assoc]
    have h3 : (x.c.map V.t).length = 3 := rfl
    rw [List.take_append, h3, List.take_of_length_le (by omega), show 3 + i * 3 - 3 = i * 3 from by omega, this]
theorem fm_rowT : ∀ (o : List Ins) (i : Nat) (h : i < o.length), ((o.flatMap Ins.c).drop (i * 3)).take 3 = o[i].c
  | x :: o, 0, h => by simp [Ins.c]
  | x :: o, i + 1, h => by
    have := fm_rowT o i (by simpa using h)
    simp only [List.flatMap_cons, List.getElem_cons_succ]
    rw [show (i + 1) * 3 = 3 + i * 3 from by omega, ← List.drop_drop, List.drop_left' (show x.c.length = 3 from rfl)]
    exact this
theorem rows_flat (o : List Ins) : rowsT 3 o.length (o.flatMap Ins.c) = some (o.map Ins.c) := by
  have hl : (o.flatMap Ins.c).length = o.length * 3 := by
    induction o with
    | nil => rfl
    | cons x o ih => simp only [List.flatMap_cons, List.length_append, ih, List.length_cons]; simp only [Ins.c, List.length_cons, List.length_nil]; omega
  unfold rowsT
  rw [if_pos hl]
  congr 1
  refine List.ext_getElem (by simp) fun i h1 h2 => ?_
  simp only [List.getElem_map, List.getElem_range]
  exact fm_rowT o i (by simpa using h1)
theorem bw_rows (o : List Ins) : (toTs (((o.flatMap Ins.c).map V.t).take (o.length * 3))).bind (rowsT 3 o.length) = some (o.map Ins.c) := by
  have hl : ((o.flatMap Ins.c).map V.t).length = o.length * 3 := by
    induction o with
    | nil => rfl
    | cons x o ih => simp only [List.flatMap_cons, List.map_append, List.length_append, ih, List.length_cons]; simp [Ins.c]; omega
  rw [List.take_of_length_le (by omega), toTs_map]
  exact rows_flat o
end Go.Proofs.YtkapabohpfkcoaaDoor
