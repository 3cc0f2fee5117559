/- Go's maps as lists of pairs. -/
import Derived.Test.YtpggidmbnjfmaaaGreatDoorApi
set_option linter.unusedSimpArgs false
set_option linter.unusedVariables false
namespace Go.Proofs.YtpggidmbnjfmaaaGreatDoor
open E

section
variable {α β : Type} [DecidableEq α]
def aget : List (α × β) → α → Option β
 | [], _ => none
 | (a, b) :: l, k => if k = a then some b else aget l k
def aset : List (α × β) → α → β → List (α × β)
 | [], k, b => [(k, b)]
 | (a, c) :: l, k, b => if k = a then (k, b) :: l else (a, c) :: aset l k b

theorem findM_gen {ka : Bool} {ks : List Nat} (enc : α → V) (c : α → List T) (v : β → V) (h1 : ∀ a, toTs (cellsV (enc a)) = some (c a)) (h2 : ∀ a, isAggV (enc a) = ka) (h3 : ∀ a b, eqC ks (c a) (c b) = some (decide (a = b))) (k : α) (l : List (α × β)) :
  findM ka ks (c k) (l.map fun p => (enc p.1, v p.2)) = some ((aget l k).map v) := by
 induction l with
 | nil => simp [findM, aget]
 | cons p l ih =>
  obtain ⟨a, b⟩ := p
  simp only [List.map_cons, findM, eqK, h1, h2, h3, if_true, aget]
  by_cases h : k = a
  ·simp [h]
  ·simp only [h, decide_false, if_false]; exact ih
theorem setM_gen {ka : Bool} {ks : List Nat} (enc : α → V) (c : α → List T) (v : β → V) (h1 : ∀ a, toTs (cellsV (enc a)) = some (c a)) (h2 : ∀ a, isAggV (enc a) = ka) (h3 : ∀ a b, eqC ks (c a) (c b) = some (decide (a = b))) (k : α) (b : β) (l : List (α × β)) :
  setM ka ks (c k) (enc k) (v b) (l.map fun p => (enc p.1, v p.2)) = some ((aset l k b).map fun p => (enc p.1, v p.2)) := by
 induction l with
 | nil => simp [setM, aset]
 | cons p l ih =>
  obtain ⟨a, q⟩ := p
  simp only [List.map_cons, setM, eqK, h1, h2, h3, if_true, aset]
  by_cases h : k = a
  ·simp [h]
  ·simp only [h, decide_false, if_false, ih]; simp
end

section
variable {α : Type} [DecidableEq α]
def setOf (l : List α) : List (α × Bool) := l.map fun c => (c, true)
theorem aget_setOf (l : List α) (k : α) : aget (setOf l) k = if k ∈ l then some true else none := by
 induction l with
 | nil => rfl
 | cons x l ih =>
  simp only [setOf, List.map_cons, aget] at ih ⊢
  by_cases h : k = x
  ·simp [h]
  ·rw [if_neg h, ih]; simp [h]
theorem aset_setOf {l : List α} {k : α} (h : k ∉ l) : aset (setOf l) k true = setOf (l ++ [k]) := by
 induction l with
 | nil => rfl
 | cons x l ih =>
  have h1 : k ≠ x := fun e => h (by simp [e])
  have := ih (fun hm => h (by simp [hm]))
  simp only [setOf, List.map_cons, aset, List.cons_append] at this ⊢
  rw [if_neg h1, this]
end

abbrev mI {β : Type} (v : β → V) (l : List (Int × β)) : List (V × V) := l.map fun p => (V.t (.int .i64 p.1), v p.2)
abbrev mS {β : Type} (v : β → V) (l : List (List UInt8 × β)) : List (V × V) := l.map fun p => (V.t (.str p.1), v p.2)
theorem findM_I {β : Type} (v : β → V) (k : Int) (l : List (Int × β)) : findM false [1] [T.int .i64 k] (mI v l) = some ((aget l k).map v) :=
 findM_gen (fun k => V.t (.int .i64 k)) (fun k => [T.int .i64 k]) v (fun _ => rfl) (fun _ => rfl) (fun a b => by by_cases h : a = b <;> simp [eqC, h]) k l
theorem setM_I {β : Type} (v : β → V) (k : Int) (b : β) (l : List (Int × β)) : setM false [1] [T.int .i64 k] (V.t (.int .i64 k)) (v b) (mI v l) = some (mI v (aset l k b)) :=
 setM_gen (fun k => V.t (.int .i64 k)) (fun k => [T.int .i64 k]) v (fun _ => rfl) (fun _ => rfl) (fun a b => by by_cases h : a = b <;> simp [eqC, h]) k b l
theorem findM_S {β : Type} (v : β → V) (k : List UInt8) (l : List (List UInt8 × β)) : findM false [2] [T.str k] (mS v l) = some ((aget l k).map v) :=
 findM_gen (fun k => V.t (.str k)) (fun k => [T.str k]) v (fun _ => rfl) (fun _ => rfl) (fun a b => by by_cases h : a = b <;> simp [eqC, h]) k l
theorem setM_S {β : Type} (v : β → V) (k : List UInt8) (b : β) (l : List (List UInt8 × β)) : setM false [2] [T.str k] (V.t (.str k)) (v b) (mS v l) = some (mS v (aset l k b)) :=
 setM_gen (fun k => V.t (.str k)) (fun k => [T.str k]) v (fun _ => rfl) (fun _ => rfl) (fun a b => by by_cases h : a = b <;> simp [eqC, h]) k b l
theorem okNs_all {nb nt : Nat} {l : List V} (h : ∀ v ∈ l, okN nb nt v = true) : okNs nb nt l = true := by
 induction l with
 | nil => rfl
 | cons x l ih => simp [okNs, h x (by simp), ih fun v hv => h v (by simp [hv])]

theorem nodup_sub {α : Type} [DecidableEq α] : ∀ {l m : List α}, l.Nodup → (∀ x ∈ l, x ∈ m) → l.length ≤ m.length
 | [], m, _, _ => by simp
 | x :: l, m, hn, hs => by
  obtain ⟨h1, h2⟩ := List.nodup_cons.1 hn
  have hx := hs x (by simp)
  have := nodup_sub (l := l) (m := m.erase x) h2 (fun y hy => by
   have hne : y ≠ x := fun e => h1 (e ▸ hy)
   exact (List.mem_erase_of_ne hne).2 (hs y (by simp [hy])))
  rw [List.length_erase_of_mem hx] at this
  have := List.length_pos_of_mem hx
  simp; omega
@[simp] theorem setOf_length {α : Type} (l : List α) : (setOf l).length = l.length := by simp [setOf]
@[simp] theorem setOf_nil {α : Type} : setOf ([] : List α) = [] := rfl
end Go.Proofs.YtpggidmbnjfmaaaGreatDoor
