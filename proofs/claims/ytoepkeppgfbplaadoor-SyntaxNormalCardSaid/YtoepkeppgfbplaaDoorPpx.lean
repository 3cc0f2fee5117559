/- Chapter 32: proper expressions by their shape; decimal digits. -/
import Derived.Test.YtoepkeppgfbplaaDoorPpc
set_option linter.unusedSimpArgs false
set_option linter.unusedVariables false
set_option maxHeartbeats 1000000
namespace Go.Proofs.YtoepkeppgfbplaaDoor
open E

inductive Px : Xp → Prop where
 | num (v : Int) (h0 : 0 ≤ v) (h1 : v ≤ 1000000000000) : Px (.mk 1 v 0 0 [] [])
 | var (n : List UInt8) (h : nameB n = true) : Px (.mk 2 0 0 0 n [])
 | neg (a : Xp) (h : Px a) : Px (one 3 a)
 | f1 (k : Int) (hk : k = 4 ∨ k = 5) (a : Xp) (h : Px a) : Px (one k a)
 | not (a : Xp) (h : Px a) : Px (one 6 a)
 | f2 (k : Int) (hk : k = 10 ∨ k = 11) (a b : Xp) (h : Px a) (h' : Px b) : Px (two k a b)
 | bin (k : Int) (hk : k = 7 ∨ k = 8 ∨ k = 9 ∨ (12 ≤ k ∧ k ≤ 19)) (a b : Xp) (h : Px a) (h' : Px b) : Px (two k a b)
 | per (v : Int) (h0 : 1 ≤ v) (h1 : v ≤ 1000000000000) (a : Xp) (h : Px a) : Px (perX v a)
 | bal (k : Int) (hk : k = 21 ∨ k = 22) (f t : Int) (hf : 1 ≤ f ∧ f ≤ 99999) (ht : 1 ≤ t ∧ t ≤ 99999) : Px (.mk k 0 f t [] [])
theorem isE {n : List UInt8} (h : n.isEmpty = true) : n = [] := List.isEmpty_iff.1 h
theorem len1 {α : Type} {l : List α} (h : l.length = 1) : ∃ a, l = [a] := by
 match l, h with
 | [a], _ => exact ⟨a, rfl⟩
theorem len2 {α : Type} {l : List α} (h : l.length = 2) : ∃ a b, l = [a, b] := by
 match l, h with
 | [a, b], _ => exact ⟨a, b, rfl⟩
theorem Px.of : ∀ x : Xp, x.prop = true → Px x := by
 refine Xp.ind fun k v f t n xs ih h => ?_
 rw [Xp.prop, Bool.and_eq_true] at h
 obtain ⟨hs, hp⟩ := h
 have hps : ∀ (l : List Xp), Xp.props l = true → ∀ a ∈ l, a.prop = true := by
  intro l
  induction l with
  | nil => intro _ a ha; cases ha
  | cons y l ihl =>
   intro h a ha
   rw [Xp.props, Bool.and_eq_true] at h
   rcases List.mem_cons.1 ha with rfl | ha
   ·exact h.1
   ·exact ihl h.2 a ha
 have hps := hps xs hp
 unfold shpB kdB at hs
 simp only [Bool.and_eq_true, decide_eq_true_eq, beq_iff_eq] at hs
 obtain ⟨⟨⟨k1, k2⟩, hl⟩, hf⟩ := hs
 unfold fldB at hf
 unfold argsI at hl
 by_cases e1 : k = 1
 ·subst e1
  simp at hl hf
  subst hl
  obtain ⟨⟨⟨⟨a, b⟩, rfl⟩, rfl⟩, rfl⟩ := hf
  exact .num v a b
 rw [if_neg e1] at hf
 by_cases e2 : k = 2
 ·subst e2
  simp at hl hf
  subst hl
  obtain ⟨⟨⟨a, rfl⟩, rfl⟩, rfl⟩ := hf
  exact .var n a
 rw [if_neg e2] at hf
 by_cases e20 : k = 20
 ·subst e20
  simp at hl hf
  obtain ⟨a, rfl⟩ := len1 (show xs.length = 1 by omega)
  obtain ⟨⟨⟨⟨h0, h1⟩, rfl⟩, rfl⟩, rfl⟩ := hf
  exact .per v h0 h1 a (ih a (by simp) (hps a (by simp)))
 rw [if_neg e20] at hf
 by_cases e21 : k = 21 ∨ k = 22
 ·rw [if_pos e21] at hf
  rw [if_neg (by omega), if_neg (by omega)] at hl
  have hx : xs = [] := List.length_eq_zero_iff.1 (by omega)
  subst hx
  simp [acB] at hf
  obtain ⟨⟨⟨a, b⟩, rfl⟩, rfl⟩ := hf
  exact .bal k e21 f t a b
 rw [if_neg e21] at hf
 simp at hf
 obtain ⟨⟨⟨rfl, rfl⟩, rfl⟩, rfl⟩ := hf
 by_cases e3 : 3 ≤ k ∧ k ≤ 6
 ·rw [if_pos (Or.inl e3)] at hl
  obtain ⟨a, rfl⟩ := len1 (show xs.length = 1 by omega)
  have ha := ih a (by simp) (hps a (by simp))
  rcases (by omega : k = 3 ∨ (k = 4 ∨ k = 5) ∨ k = 6) with rfl | hk | rfl
  ·exact .neg a ha
  ·exact .f1 k hk a ha
  ·exact .not a ha
 ·rw [if_neg (by omega), if_pos (by omega)] at hl
  obtain ⟨a, b, rfl⟩ := len2 (show xs.length = 2 by omega)
  have ha := ih a (by simp) (hps a (by simp))
  have hb := ih b (by simp) (hps b (by simp))
  by_cases e10 : k = 10 ∨ k = 11
  ·exact .f2 k e10 a b ha hb
  ·exact .bin k (by omega) a b ha hb
theorem dec_small {n : Nat} (h : n < 10) : Lib.decDigits n = [UInt8.ofNat (48 + n)] := by rw [Lib.decDigits, dif_pos h]
theorem dec_big {n : Nat} (h : ¬ n < 10) : Lib.decDigits n = Lib.decDigits (n / 10) ++ [UInt8.ofNat (48 + n % 10)] := by rw [Lib.decDigits, dif_neg h]
theorem itoa_nat {v : Int} (h : 0 ≤ v) : Lib.itoa v = Lib.decDigits v.toNat := by unfold Lib.itoa; rw [if_neg (by omega)]
end Go.Proofs.YtoepkeppgfbplaaDoor
