/- Go's maps as lists of pairs. -/
import Derived.Test.YtmlpmdccfmmpoaaGreatApi
set_option linter.unusedSimpArgs false
set_option linter.unusedVariables false
namespace Go.Proofs.YtmlpmdccfmmpoaaGreat
open E

section
variable {α β : Type} [DecidableEq α]
def aget : List (α × β) → α → Option β
 | [], _ => none
 | (a, b) :: l, k => if k = a then some b else aget l k
def aset : List (α × β) → α → β → List (α × β)
 | [], k, b => [(k, b)]
 | (a, c) :: l, k, b => if k = a then (k, b) :: l else (a, c) :: aset l k b

theorem aget_aset (l : List (α × β)) (k : α) (b : β) (q : α) : aget (aset l k b) q = if q = k then some b else aget l q := by
 induction l with
 | nil => simp [aset, aget]
 | cons p l ih =>
  obtain ⟨a, c⟩ := p
  simp only [aset]
  by_cases h : k = a
  ·subst h; rw [if_pos rfl]; simp only [aget]; split <;> rfl
  ·rw [if_neg h]; simp only [aget, ih]
   by_cases h2 : q = a
   ·subst h2; rw [if_pos rfl, if_neg (Ne.symm h), if_pos rfl]
   ·rw [if_neg h2, if_neg h2]
theorem aset_length (l : List (α × β)) (k : α) (b : β) : (aset l k b).length ≤ l.length + 1 := by
 induction l with
 | nil => simp [aset]
 | cons p l ih => obtain ⟨a, c⟩ := p; simp only [aset]; split <;> simp <;> omega

theorem findM_gen {ka : Bool} {ks : List Nat} (enc : α → V) (c : α → List T) (v : β → V) (h1 : ∀ a, toTs (cellsV (enc a)) = some (c a)) (h2 : ∀ a, isAggV (enc a) = ka) (h3 : ∀ a b, eqC ks (c a) (c b) = some (decide (a = b))) (k : α) (l : List (α × β)) :
  findM ka ks (c k) (l.map fun p => (enc p.1, v p.2)) = some ((aget l k).map v) := by
 induction l with
 | nil => simp [findM, aget]
 | cons p l ih =>
  obtain ⟨a, b⟩ := p
  simp only [List.map_cons, findM, eqK, h1, h2, h3, if_true, aget]
  by_cases h : k = a
  ·simp [h]
  ·simp only [h, decide_false, if_false]; exact ih
theorem setM_gen {ka : Bool} {ks : List Nat} (enc : α → V) (c : α → List T) (v : β → V) (h1 : ∀ a, toTs (cellsV (enc a)) = some (c a)) (h2 : ∀ a, isAggV (enc a) = ka) (h3 : ∀ a b, eqC ks (c a) (c b) = some (decide (a = b))) (k : α) (b : β) (l : List (α × β)) :
  setM ka ks (c k) (enc k) (v b) (l.map fun p => (enc p.1, v p.2)) = some ((aset l k b).map fun p => (enc p.1, v p.2)) := by
 induction l with
 | nil => simp [setM, aset]
 | cons p l ih =>
  obtain ⟨a, q⟩ := p
  simp only [List.map_cons, setM, eqK, h1, h2, h3, if_true, aset]
  by_cases h : k = a
  ·simp [h]
  ·simp only [h, decide_false, if_false, ih]; simp
end

section
variable {α : Type} [DecidableEq α]
def setOf (l : List α) : List (α × Bool) := l.map fun c => (c, true)
end

abbrev mI {β : Type} (v : β → V) (l : List (Int × β)) : List (V × V) := l.map fun p => (V.t (.int .i64 p.1), v p.2)
theorem findM_I {β : Type} (v : β → V) (k : Int) (l : List (Int × β)) : findM false [1] [T.int .i64 k] (mI v l) = some ((aget l k).map v) :=
 findM_gen (fun k => V.t (.int .i64 k)) (fun k => [T.int .i64 k]) v (fun _ => rfl) (fun _ => rfl) (fun a b => by by_cases h : a = b <;> simp [eqC, h]) k l
theorem setM_I {β : Type} (v : β → V) (k : Int) (b : β) (l : List (Int × β)) : setM false [1] [T.int .i64 k] (V.t (.int .i64 k)) (v b) (mI v l) = some (mI v (aset l k b)) :=
 setM_gen (fun k => V.t (.int .i64 k)) (fun k => [T.int .i64 k]) v (fun _ => rfl) (fun _ => rfl) (fun a b => by by_cases h : a = b <;> simp [eqC, h]) k b l
@[simp] theorem setOf_length {α : Type} (l : List α) : (setOf l).length = l.length := by simp [setOf]
@[simp] theorem setOf_nil {α : Type} : setOf ([] : List α) = [] := rfl
end Go.Proofs.YtmlpmdccfmmpoaaGreat
