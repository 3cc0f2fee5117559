/- Chapter 33: the accounts to which a program posts, sorted and without repetitions: plain laws. -/
import Derived.Test.YtnlkppaehbopaaaDoorRsp
set_option linter.unusedSimpArgs false
set_option linter.unusedVariables false
set_option maxHeartbeats 1000000
namespace Go.Proofs.YtnlkppaehbopaaaDoor
open E

/-- The accounts of the posts of statements. -/
def accs (ss : List Stm) : List Int := (ss.filter fun s => s.kind == 3).map (·.acc)
def postL (p : List Rul) : List Int := p.flatMap fun r => r.to :: accs r.stmts
def postM (p : List Rul) : List Int := p.flatMap fun r => accs r.stmts ++ [r.to]
/-- A number put into an ascending list, once. -/
def putS : List Int → Int → List Int
  | [], n => [n]
  | x :: xs, n => if n < x then n :: x :: xs else if n = x then x :: xs else x :: putS xs n
/-- A list without the elements that are equal to the one ahead. -/
def ddA : Int → List Int → List Int
  | _, [] => []
  | p, x :: l => if x = p then ddA p l else x :: ddA x l
def ddL : List Int → List Int
  | [] => []
  | x :: l => x :: ddA x l
def Asc (l : List Int) : Prop := l.Pairwise (· < ·)

theorem accs_next {ss : List Stm} {k : Nat} {s : Stm} (h : ss[k]? = some s) : accs (ss.take (k + 1)) = accs (ss.take k) ++ accs [s] := by
  rw [take_next h]; simp [accs]
theorem postL_next {p : List Rul} {k : Nat} {r : Rul} (h : p[k]? = some r) : postL (p.take (k + 1)) = postL (p.take k) ++ (r.to :: accs r.stmts) := by
  rw [take_next h]; simp [postL]
theorem postM_next {p : List Rul} {k : Nat} {r : Rul} (h : p[k]? = some r) : postM (p.take (k + 1)) = postM (p.take k) ++ (accs r.stmts ++ [r.to]) := by
  rw [take_next h]; simp [postM]
theorem accs_len (ss : List Stm) : (accs ss).length ≤ ss.length := by
  unfold accs; rw [List.length_map]; exact List.length_filter_le _ _
theorem postL_len : ∀ (p : List Rul) (m : Nat), (∀ r ∈ p, r.stmts.length ≤ m) → (postL p).length ≤ p.length * (m + 1)
  | [], m, _ => by simp [postL]
  | r :: p, m, h => by
    have h1 := postL_len p m (fun x hx => h x (by simp [hx]))
    have h2 := accs_len r.stmts
    have h3 := h r (by simp)
    simp only [postL, List.flatMap_cons, List.length_append, List.length_cons] at h1 ⊢
    rw [Nat.add_mul]; omega
theorem postM_len : ∀ (p : List Rul) (m : Nat), (∀ r ∈ p, r.stmts.length ≤ m) → (postM p).length ≤ p.length * (m + 1)
  | [], m, _ => by simp [postM]
  | r :: p, m, h => by
    have h1 := postM_len p m (fun x hx => h x (by simp [hx]))
    have h2 := accs_len r.stmts
    have h3 := h r (by simp)
    simp only [postM, List.flatMap_cons, List.length_append, List.length_cons, List.length_nil] at h1 ⊢
    rw [Nat.add_mul]; omega
theorem post_mem (p : List Rul) (n : Int) : n ∈ postL p ↔ n ∈ postM p := by
  unfold postL postM
  simp only [List.mem_flatMap, List.mem_cons, List.mem_append, List.not_mem_nil, or_false]
  constructor
  · rintro ⟨r, hr, h⟩; exact ⟨r, hr, h.symm⟩
  · rintro ⟨r, hr, h⟩; exact ⟨r, hr, h.symm⟩
theorem putS_mem : ∀ (l : List Int) (n x : Int), x ∈ putS l n ↔ x = n ∨ x ∈ l
  | [], n, x => by simp [putS]
  | y :: l, n, x => by
    rw [putS]
    split
    · simp
    · split
      · rename_i h; subst h; simp
      · simp only [List.mem_cons, putS_mem l n x]
        constructor
        · rintro (h | h | h)
          · exact .inr (.inl h)
          · exact .inl h
          · exact .inr (.inr h)
        · rintro (h | h | h)
          · exact .inr (.inl h)
          · exact .inl h
          · exact .inr (.inr h)
theorem putS_asc : ∀ {l : List Int} (n : Int), Asc l → Asc (putS l n)
  | [], n, h => by simp [putS, Asc]
  | y :: l, n, h => by
    have h' := List.pairwise_cons.1 h
    rw [putS]
    split
    · rename_i hn
      exact List.pairwise_cons.2 ⟨fun z hz => by rcases List.mem_cons.1 hz with rfl | hz; exact hn; exact Int.lt_trans hn (h'.1 z hz), h⟩
    · split
      · exact h
      · refine List.pairwise_cons.2 ⟨fun z hz => ?_, putS_asc n h'.2⟩
        rcases (putS_mem l n z).1 hz with rfl | hz
        · omega
        · exact h'.1 z hz
theorem foldl_put : ∀ (L l : List Int), Asc l → Asc (L.foldl putS l) ∧ ∀ x, x ∈ L.foldl putS l ↔ x ∈ l ∨ x ∈ L
  | [], l, h => ⟨h, fun x => by simp⟩
  | n :: L, l, h => by
    have := foldl_put L (putS l n) (putS_asc n h)
    rw [List.foldl_cons]
    refine ⟨this.1, fun x => ?_⟩
    rw [this.2 x, putS_mem, List.mem_cons]
    constructor
    · rintro ((h | h) | h)
      · exact .inr (.inl h)
      · exact .inl h
      · exact .inr (.inr h)
    · rintro (h | h | h)
      · exact .inl (.inr h)
      · exact .inl (.inl h)
      · exact .inr h
theorem ddA_mem : ∀ (l : List Int) (p x : Int), x ∈ ddA p l ∨ x = p ↔ x ∈ l ∨ x = p
  | [], p, x => by simp [ddA]
  | y :: l, p, x => by
    rw [ddA]
    split
    · rename_i h
      subst h
      rw [ddA_mem l y x, List.mem_cons]
      constructor
      · rintro (h | h)
        · exact .inl (.inr h)
        · exact .inr h
      · rintro ((h | h) | h)
        · exact .inr h
        · exact .inl h
        · exact .inr h
    · have := ddA_mem l y x
      simp only [List.mem_cons]
      constructor
      · rintro ((h | h) | h)
        · exact .inl (.inl h)
        · rcases this.1 (.inl h) with h | h
          · exact .inl (.inr h)
          · exact .inl (.inl h)
        · exact .inr h
      · rintro ((h | h) | h)
        · exact .inl (.inl h)
        · rcases this.2 (.inl h) with h | h
          · exact .inl (.inr h)
          · exact .inl (.inl h)
        · exact .inr h
theorem ddL_mem (l : List Int) (x : Int) : x ∈ ddL l ↔ x ∈ l := by
  cases l with
  | nil => simp [ddL]
  | cons y l =>
    have := ddA_mem l y x
    simp only [ddL, List.mem_cons]
    constructor
    · rintro (h | h)
      · exact .inl h
      · exact (this.1 (.inl h)).symm
    · rintro (h | h)
      · exact .inl h
      · exact (this.2 (.inl h)).symm
theorem ddA_asc : ∀ {l : List Int} {p : Int}, (p :: l).Pairwise (· ≤ ·) → Asc (p :: ddA p l)
  | [], p, h => by simp [ddA, Asc]
  | y :: l, p, h => by
    have h1 := List.pairwise_cons.1 h
    have h2 := List.pairwise_cons.1 h1.2
    rw [ddA]
    split
    · rename_i e
      subst e
      exact ddA_asc (List.pairwise_cons.2 ⟨h2.1, h2.2⟩)
    · rename_i e
      have hr := ddA_asc (l := l) (p := y) h1.2
      have hpy : p < y := by have := h1.1 y (by simp); omega
      refine List.pairwise_cons.2 ⟨fun z hz => ?_, hr⟩
      rcases List.mem_cons.1 hz with rfl | hz
      · exact hpy
      · exact Int.lt_trans hpy ((List.pairwise_cons.1 hr).1 z hz)
theorem ddL_asc {l : List Int} (h : l.Pairwise (· ≤ ·)) : Asc (ddL l) := by
  cases l with
  | nil => simp [ddL, Asc]
  | cons y l => exact ddA_asc h
theorem asc_ext : ∀ {a b : List Int}, Asc a → Asc b → (∀ x, x ∈ a ↔ x ∈ b) → a = b
  | [], [], _, _, _ => rfl
  | [], y :: b, _, _, h => absurd ((h y).2 (by simp)) (by simp)
  | x :: a, [], _, _, h => absurd ((h x).1 (by simp)) (by simp)
  | x :: a, y :: b, ha, hb, h => by
    have ha' := List.pairwise_cons.1 ha
    have hb' := List.pairwise_cons.1 hb
    have hxy : x = y := by
      rcases List.mem_cons.1 ((h x).1 (by simp)) with e | e
      · exact e
      · rcases List.mem_cons.1 ((h y).2 (by simp)) with e' | e'
        · exact e'.symm
        · have := hb'.1 x e
          have := ha'.1 y e'
          omega
    subst hxy
    rw [asc_ext ha'.2 hb'.2 (fun z => ?_)]
    constructor
    · intro hz
      rcases List.mem_cons.1 ((h z).1 (by simp [hz])) with e | e
      · subst e; have := ha'.1 z hz; omega
      · exact e
    · intro hz
      rcases List.mem_cons.1 ((h z).2 (by simp [hz])) with e | e
      · subst e; have := hb'.1 z hz; omega
      · exact e
/-- The lists of the program's and of the reference's Posts are equal. -/
def srtI (l : List Int) : List Int := l.mergeSort fun x y => decide (x ≤ y)
theorem srtI_mem (l : List Int) (x : Int) : x ∈ srtI l ↔ x ∈ l := List.mem_mergeSort
theorem srtI_len (l : List Int) : (srtI l).length = l.length := List.length_mergeSort l
theorem srtI_pw (l : List Int) : (srtI l).Pairwise (· ≤ ·) := by
  have := List.pairwise_mergeSort (le := fun x y : Int => decide (x ≤ y)) (fun a b c h1 h2 => by simp at h1 h2 ⊢; omega) (fun a b => by simp; omega) l
  exact this.imp (fun h => by simpa using h)
theorem posts_eq (p : List Rul) : ddL (srtI (postL p)) = (postM p).foldl putS [] := by
  refine asc_ext (ddL_asc (srtI_pw _)) (foldl_put (postM p) [] List.Pairwise.nil).1 fun x => ?_
  rw [ddL_mem, srtI_mem, (foldl_put (postM p) [] List.Pairwise.nil).2 x, post_mem]
  simp
/-! ### The steps of Compact -/
theorem ddA_append : ∀ (a : List Int) (p x : Int), ddA p (a ++ [x]) = ddA p a ++ (if x = (p :: a).getLast (by simp) then [] else [x])
  | [], p, x => by by_cases h : x = p <;> simp [ddA, h]
  | y :: a, p, x => by
    rw [List.cons_append, ddA, ddA, ddA_append a p x, ddA_append a y x]
    have e1 : (p :: y :: a).getLast (by simp) = (y :: a).getLast (by simp) := by rw [List.getLast_cons (by simp)]
    rw [e1]
    by_cases h : y = p
    · subst h; rw [if_pos rfl, if_pos rfl]
    · rw [if_neg h, if_neg h]; rfl
theorem ddL_next {l : List Int} {m : Nat} {x y : Int} (hx : l[m + 1]? = some x) (hy : l[m]? = some y) : ddL (l.take (m + 2)) = ddL (l.take (m + 1)) ++ (if x = y then [] else [x]) := by
  rw [take_next hx]
  cases l with
  | nil => simp at hx
  | cons z l =>
    rw [List.take_succ_cons, List.cons_append, ddL, ddL, ddA_append]
    have hm : m < (z :: l.take m).length := by
      have := (List.getElem?_eq_some_iff.1 hx).1
      simp only [List.length_cons, List.length_take] at this ⊢
      omega
    have hlen : (z :: l.take m).length - 1 = m := by
      have := (List.getElem?_eq_some_iff.1 hx).1
      simp only [List.length_cons, List.length_take] at this ⊢
      omega
    have : (z :: l.take m).getLast (by simp) = y := by
      have h2 : (z :: l.take m)[m]? = some y := by
        rw [← List.take_succ_cons, List.getElem?_take, if_pos (by omega)]
        exact hy
      rw [List.getLast_eq_getElem]
      rw [List.getElem?_eq_getElem hm] at h2
      have h3 := Option.some.inj h2
      simp only [hlen]
      exact h3
    rw [this]; rfl
theorem ddL_len (l : List Int) : (ddL l).length ≤ l.length := by
  cases l with
  | nil => simp [ddL]
  | cons z l =>
    have : ∀ (l : List Int) (p : Int), (ddA p l).length ≤ l.length := by
      intro l
      induction l with
      | nil => intro p; simp [ddA]
      | cons y l ih =>
        intro p
        rw [ddA]
        split
        · have := ih p; simp; omega
        · have := ih y; simp; omega
    have := this l z
    simp [ddL]; omega
end Go.Proofs.YtnlkppaehbopaaaDoor
