/- Chapter 33: plain laws of what Check says: the errors, the prefixes of a program. -/
import Derived.Test.YtkapabohpfkcoaaDoorRsp
set_option linter.unusedSimpArgs false
set_option linter.unusedVariables false
set_option maxHeartbeats 1000000
namespace Go.Proofs.YtkapabohpfkcoaaDoor
open E

theorem finI_ne1 (a b c : Bool) (e k f t : Int) (he : e ≠ 1) : (finI a b c e k f t).2 ≠ 1 := by
  unfold finI
  split
  · exact he
  split
  · simp
  split
  · simp
  split
  · simp
  split <;> simp
namespace Xp
mutual
theorem inf_ne1 (q : List UInt8 → Bool) (pair : Bool) : ∀ x : Xp, (inf q pair x).2 ≠ 1
  | .mk k v f t n xs => by
    rw [inf]
    exact finI_ne1 _ _ _ _ _ _ _ (infs_ne1 q pair _ xs)
theorem infs_ne1 (q : List UInt8 → Bool) (pair : Bool) (w : Int) : ∀ xs : List Xp, (infs q pair w xs).1 ≠ 1
  | [] => by rw [infs]; simp
  | x :: xs => by
    rw [infs]
    have h1 := inf_ne1 q pair x
    have h2 := infs_ne1 q pair w xs
    split
    · exact h1
    · exact h2
end
end Xp
theorem stmE_ne1 (known : Int → Bool) (q : List UInt8 → Bool) (pair : Bool) (s : Stm) : stmE known q pair s ≠ 1 := by
  unfold stmE
  split
  · exact Xp.inf_ne1 q pair s.ex
  split
  · simp
  split
  · simp
  split <;> simp
theorem stmsE_ne1 (known : Int → Bool) (pair : Bool) : ∀ (ss : List Stm) (M : List (List UInt8)), stmsE known pair M ss ≠ 1
  | [], M => by rw [stmsE]; simp
  | s :: ss, M => by
    rw [stmsE]
    split
    · exact stmE_ne1 known _ pair s
    · exact stmsE_ne1 known pair ss _
theorem rulE_ne1 (known : Int → Bool) (r : Rul) : rulE known r ≠ 1 := by
  unfold rulE
  split
  · exact stmsE_ne1 known r.pair r.stmts []
  split <;> simp
theorem rulsE_ne1 (known : Int → Bool) : ∀ (p : List Rul) (M : List (List UInt8)) (i : Nat), (rulsE known M i p).2 ≠ 1
  | [], M, i => by rw [rulsE]; simp
  | r :: p, M, i => by
    rw [rulsE]
    split
    · simp
    split
    · exact rulE_ne1 known r
    · exact rulsE_ne1 known p _ _
theorem rulsE_zero (known : Int → Bool) : ∀ (p : List Rul) (M : List (List UInt8)) (i : Nat), (rulsE known M i p).2 = 0 → rulsE known M i p = (0, 0)
  | [], M, i => by rw [rulsE]; simp
  | r :: p, M, i => by
    rw [rulsE]
    split
    · simp
    split
    · rename_i h; exact fun h0 => absurd h0 h
    · exact rulsE_zero known p _ _
theorem rulsE_ge (known : Int → Bool) : ∀ (p : List Rul) (M : List (List UInt8)) (i : Nat), (rulsE known M i p).2 ≠ 0 → (i : Int) ≤ (rulsE known M i p).1
  | [], M, i => by rw [rulsE]; simp
  | r :: p, M, i => by
    rw [rulsE]
    split
    · simp
    split
    · simp
    · intro h; have := rulsE_ge known p _ _ h; push_cast at this; omega
theorem rulsE_lt (known : Int → Bool) : ∀ (p : List Rul) (M : List (List UInt8)) (i : Nat), (rulsE known M i p).2 ≠ 0 → (rulsE known M i p).1 < i + p.length
  | [], M, i => by rw [rulsE]; simp
  | r :: p, M, i => by
    rw [rulsE]
    split
    · intro _; simp; omega
    split
    · intro _; simp; omega
    · intro h; have := rulsE_lt known p _ _ h; simp at this ⊢; omega
/-- The first k rules. -/
theorem rulsE_take (known : Int → Bool) : ∀ (p : List Rul) (M : List (List UInt8)) (i k : Nat),
    rulsE known M i (p.take k) = if (rulsE known M i p).2 = 0 ∨ ((i + k : Nat) : Int) ≤ (rulsE known M i p).1 then (0, 0) else rulsE known M i p
  | [], M, i, k => by simp [rulsE]
  | r :: p, M, i, 0 => by
    rw [List.take_zero, rulsE]
    split
    · rfl
    · rename_i h
      have hz : (rulsE known M i (r :: p)).2 ≠ 0 := fun h0 => h (.inl h0)
      exact absurd (Or.inr (by simpa using rulsE_ge known _ _ _ hz)) h
  | r :: p, M, i, k + 1 => by
    rw [List.take_succ_cons, rulsE, rulsE]
    by_cases h1 : r.name ∈ M
    · rw [if_pos h1, if_pos h1, if_neg]; simp; omega
    rw [if_neg h1, if_neg h1]
    by_cases h2 : rulE known r ≠ 0
    · rw [if_pos h2, if_pos h2, if_neg]; simp; exact ⟨h2, by omega⟩
    rw [if_neg h2, if_neg h2, rulsE_take known p _ _ k, show i + 1 + k = i + (k + 1) by omega]
theorem prgB_take {p : List Rul} (k : Nat) (h : prgB p = true) : prgB (p.take k) = true := by
  unfold prgB at h ⊢
  simp only [Bool.and_eq_true, List.all_eq_true, decide_eq_true_eq] at h ⊢
  exact ⟨fun x hx => h.1 x (List.mem_of_mem_take hx), by simp; omega⟩
/-- What the law of prefixes says of Check. -/
theorem chkR_take (p : List Rul) (l : List Account) (k : Nat) (hk : k ≤ p.length) :
    if (chkR p l).2 = 1 then (chkR p l).1 = 0 else if (chkR p l).2 = 0 ∨ (k : Int) ≤ (chkR p l).1 then chkR (p.take k) l = (0, 0) else chkR (p.take k) l = chkR p l := by
  by_cases hv : prgB p = true ∧ Cht.validR l true = true
  · have e1 : chkR p l = rulsE (knownB l) [] 0 p := by unfold chkR; rw [if_pos hv]
    have e2 : chkR (p.take k) l = rulsE (knownB l) [] 0 (p.take k) := by unfold chkR; rw [if_pos ⟨prgB_take k hv.1, hv.2⟩]
    rw [e1, e2, rulsE_take, if_neg (rulsE_ne1 _ _ _ _)]
    simp only [Nat.zero_add]
    split
    · rfl
    · rfl
  · have e1 : chkR p l = (0, 1) := by unfold chkR; rw [if_neg hv]
    rw [e1]; rfl
end Go.Proofs.YtkapabohpfkcoaaDoor
