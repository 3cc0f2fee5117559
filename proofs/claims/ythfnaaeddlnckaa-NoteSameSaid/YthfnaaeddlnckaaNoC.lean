/- Notes: sums of the derived changes; what is small. -/
import Derived.Test.YthfnaaeddlnckaaNoB
section
set_option linter.unusedSimpArgs false
set_option linter.unusedVariables false
set_option maxHeartbeats 4000000
set_option maxRecDepth 8000
namespace Go.Proofs.Ythfnaaeddlnckaa
open E

def sumD (D : Nat → Int) (k : Nat) : Int := ((List.range k).map D).sum
theorem sumD_succ (D : Nat → Int) (k : Nat) : sumD D (k + 1) = sumD D k + D k := by simp [sumD, List.range_succ]
theorem w_nSum (n : NoteS) : Pure Try.prog 16 [n.v] (vI (ww (sumD n.D 11))) := by
  obtain ⟨a, o, d, c, l, D⟩ := n
  (refine Pure.of_code mix Try.call16 k_16 (by simp) (fun hB => ?_); (try simp at hB); (try simp -implicitDefEqProofs [c_note_Sum_16]))
  refine loop_rule (X := Nat) (fun k => k ≤ 11) (fun k => [(3, vI (ww (sumD D k))), (7, .agg [vI (D 0), vI (D 1), vI (D 2), vI (D 3), vI (D 4), vI (D 5), vI (D 6), vI (D 7), vI (D 8), vI (D 9), vI (D 10)]), (8, vI k)])
    (fun k => ⟨[], []⟩) (fun k => 11 - k) 0 (by omega) ?_ ?_
  · simp [sumD, ww_eq]
  rintro k hk hbd
  have hs := sumD_succ D k
  rcases (by omega : k = 11 ∨ k = 0 ∨ k = 1 ∨ k = 2 ∨ k = 3 ∨ k = 4 ∨ k = 5 ∨ k = 6 ∨ k = 7 ∨ k = 8 ∨ k = 9 ∨ k = 10) with rfl | rfl | rfl | rfl | rfl | rfl | rfl | rfl | rfl | rfl | rfl | rfl
  · ((try simp -implicitDefEqProofs); repeat' first | (with_reducible refine gdK_em (fun hc => ?_) (fun hc => ?_) <;> (have hc' := hc; (try simp at hc'); simp -implicitDefEqProofs [hc, hc'])) | (with_reducible refine cdK_em (fun hc => ?_) (fun hc => ?_) <;> (have hc' := hc; (try simp at hc'); simp -implicitDefEqProofs [hc, hc'])) | (with_reducible refine pickK_em (fun hc => ?_) (fun hc => ?_) <;> (have hc' := hc; (try simp at hc'); simp -implicitDefEqProofs [hc, hc'])))
  all_goals
    simp only [Nat.reduceAdd] at hs
    ((try simp -implicitDefEqProofs [wrap_ww, ww_add, ← hs]); repeat' first | (with_reducible refine gdK_em (fun hc => ?_) (fun hc => ?_) <;> (have hc' := hc; (try simp at hc'); simp -implicitDefEqProofs [hc, hc', wrap_ww, ww_add, ← hs])) | (with_reducible refine cdK_em (fun hc => ?_) (fun hc => ?_) <;> (have hc' := hc; (try simp at hc'); simp -implicitDefEqProofs [hc, hc', wrap_ww, ww_add, ← hs])) | (with_reducible refine pickK_em (fun hc => ?_) (fun hc => ?_) <;> (have hc' := hc; (try simp at hc'); simp -implicitDefEqProofs [hc, hc', wrap_ww, ww_add, ← hs])))
  all_goals first | exact ⟨1, by omega, by omega, rfl, by simp⟩ | exact ⟨2, by omega, by omega, rfl, by simp⟩ | exact ⟨3, by omega, by omega, rfl, by simp⟩ | exact ⟨4, by omega, by omega, rfl, by simp⟩ | exact ⟨5, by omega, by omega, rfl, by simp⟩ | exact ⟨6, by omega, by omega, rfl, by simp⟩ | exact ⟨7, by omega, by omega, rfl, by simp⟩ | exact ⟨8, by omega, by omega, rfl, by simp⟩ | exact ⟨9, by omega, by omega, rfl, by simp⟩ | exact ⟨10, by omega, by omega, rfl, by simp⟩ | exact ⟨11, by omega, by omega, rfl, by simp⟩
theorem w_rSum (n : NoteS) : Pure Try.prog 17 [n.v] (vI (ww (sumD n.D 11))) := by
  obtain ⟨a, o, d, c, l, D⟩ := n
  (refine Pure.of_code mix Try.call17 k_17 (by simp) (fun hB => ?_); (try simp at hB); (try simp -implicitDefEqProofs [c_tallystoneref52_Sum_17]))
  refine loop_rule (X := Nat) (fun k => k ≤ 11) (fun k => [(1, .ptr 0 0), (3, vI (ww (sumD D k))), (4, vI k)])
    (fun k => ⟨[.cells (noteV a o d c l D)], []⟩) (fun k => 11 - k) 0 (by omega) ?_ ?_
  · simp [sumD, ww_eq]
  rintro k hk hbd
  have hs := sumD_succ D k
  rcases (by omega : k = 11 ∨ k = 0 ∨ k = 1 ∨ k = 2 ∨ k = 3 ∨ k = 4 ∨ k = 5 ∨ k = 6 ∨ k = 7 ∨ k = 8 ∨ k = 9 ∨ k = 10) with rfl | rfl | rfl | rfl | rfl | rfl | rfl | rfl | rfl | rfl | rfl | rfl
  · ((try simp -implicitDefEqProofs); repeat' first | (with_reducible refine gdK_em (fun hc => ?_) (fun hc => ?_) <;> (have hc' := hc; (try simp at hc'); simp -implicitDefEqProofs [hc, hc'])) | (with_reducible refine cdK_em (fun hc => ?_) (fun hc => ?_) <;> (have hc' := hc; (try simp at hc'); simp -implicitDefEqProofs [hc, hc'])) | (with_reducible refine pickK_em (fun hc => ?_) (fun hc => ?_) <;> (have hc' := hc; (try simp at hc'); simp -implicitDefEqProofs [hc, hc'])))
  all_goals
    simp only [Nat.reduceAdd] at hs
    ((try simp -implicitDefEqProofs [wrap_ww, ww_add, ← hs]); repeat' first | (with_reducible refine gdK_em (fun hc => ?_) (fun hc => ?_) <;> (have hc' := hc; (try simp at hc'); simp -implicitDefEqProofs [hc, hc', wrap_ww, ww_add, ← hs])) | (with_reducible refine cdK_em (fun hc => ?_) (fun hc => ?_) <;> (have hc' := hc; (try simp at hc'); simp -implicitDefEqProofs [hc, hc', wrap_ww, ww_add, ← hs])) | (with_reducible refine pickK_em (fun hc => ?_) (fun hc => ?_) <;> (have hc' := hc; (try simp at hc'); simp -implicitDefEqProofs [hc, hc', wrap_ww, ww_add, ← hs])))
  all_goals first | exact ⟨1, by omega, by omega, rfl, by simp⟩ | exact ⟨2, by omega, by omega, rfl, by simp⟩ | exact ⟨3, by omega, by omega, rfl, by simp⟩ | exact ⟨4, by omega, by omega, rfl, by simp⟩ | exact ⟨5, by omega, by omega, rfl, by simp⟩ | exact ⟨6, by omega, by omega, rfl, by simp⟩ | exact ⟨7, by omega, by omega, rfl, by simp⟩ | exact ⟨8, by omega, by omega, rfl, by simp⟩ | exact ⟨9, by omega, by omega, rfl, by simp⟩ | exact ⟨10, by omega, by omega, rfl, by simp⟩ | exact ⟨11, by omega, by omega, rfl, by simp⟩

def item0 : Item := ⟨0, 0, 0, 0, 0, 0, 0⟩
def part0 : Part := ⟨0, 0⟩
def post0 : Posting := ⟨0, 0, 0, 0, []⟩
def fitB (n : Int) : Bool := decide (n ≤ 1125899906842624) && decide (-1125899906842624 ≤ n)
def itAt (l : List Item) (k : Nat) : Bool := fitB (l.getD k item0).amt
def paAt (l : List Part) (k : Nat) : Bool := decide (k < 10) && fitB (l.getD k part0).amt
def poAt (l : List Posting) (k : Nat) : Bool := allB (paAt (l.getD k post0).parts) (l.getD k post0).parts.length
def few52 (r : Res) : Bool := allB (itAt r.items) r.items.length && allB (poAt r.posts) r.posts.length && (decide (r.items.length ≤ 150) && decide (r.posts.length ≤ 60))
theorem w_few52 (r : Res) : Pure Try.prog 30 [r.v] (vB (few52 r)) := by
  unfold few52
  (refine Pure.of_code mix Try.call30 k_30 (by simp) (fun hB => ?_); (try simp at hB); (try simp -implicitDefEqProofs [c_tallystoneref52_Few_30]))
  have hlm : r.items.length ≤ 9223372036854775807 := by simp [maxLen] at hB; omega
  have hpm : r.posts.length ≤ 9223372036854775807 := by simp [maxLen] at hB; omega
  have hpl : ∀ p ∈ r.posts, p.parts.length ≤ 9223372036854775807 := fun p hp => by have := hB.2.1.2 p hp; simp [maxLen] at this; omega
  refine loop_rule (X := Nat) (fun k => k ≤ r.items.length ∧ allB (itAt r.items) k = true) (fun k => [(1, .ptr 0 0), (3, vI k)])
    (fun k => ⟨[.cells (r.c.map .t)], []⟩) (fun k => r.items.length - k) 0 ⟨by simp, rfl⟩ (by simp) ?_
  rintro k ⟨hk, hn⟩ hbd
  rcases Nat.lt_or_ge k r.items.length with h | h
  · have hg : r.items.getD k item0 = r.items[k] := by simp [List.getD_eq_getElem?_getD, h]
    have e3 : IntKind.i64.wrap ((k : Int) + 1) = (k : Int) + 1 := wrap64 (by omega) (by omega)
    have hsucc := allB_succ (itAt r.items) k
    have hfl := allB_false (p := itAt r.items) h
    simp only [itAt, hn, hg, Bool.true_and] at hsucc hfl
    change allB (itAt r.items) (k + 1) = _ at hsucc
    change _ → allB (itAt r.items) r.items.length = false at hfl
    by_cases q1 : 1125899906842624 < r.items[k].amt
    · rw [hfl (by simp [fitB]; omega)]
      ((try simp -implicitDefEqProofs [h, e3, q1]); repeat' first | (with_reducible refine gdK_em (fun hc => ?_) (fun hc => ?_) <;> (have hc' := hc; (try simp at hc'); simp -implicitDefEqProofs [hc, hc', h, e3, q1])) | (with_reducible refine cdK_em (fun hc => ?_) (fun hc => ?_) <;> (have hc' := hc; (try simp at hc'); simp -implicitDefEqProofs [hc, hc', h, e3, q1])) | (with_reducible refine pickK_em (fun hc => ?_) (fun hc => ?_) <;> (have hc' := hc; (try simp at hc'); simp -implicitDefEqProofs [hc, hc', h, e3, q1])))
    by_cases q2 : r.items[k].amt < -1125899906842624
    · rw [hfl (by simp [fitB]; omega)]
      ((try simp -implicitDefEqProofs [h, e3, q1, q2]); repeat' first | (with_reducible refine gdK_em (fun hc => ?_) (fun hc => ?_) <;> (have hc' := hc; (try simp at hc'); simp -implicitDefEqProofs [hc, hc', h, e3, q1, q2])) | (with_reducible refine cdK_em (fun hc => ?_) (fun hc => ?_) <;> (have hc' := hc; (try simp at hc'); simp -implicitDefEqProofs [hc, hc', h, e3, q1, q2])) | (with_reducible refine pickK_em (fun hc => ?_) (fun hc => ?_) <;> (have hc' := hc; (try simp at hc'); simp -implicitDefEqProofs [hc, hc', h, e3, q1, q2])))
    have : fitB r.items[k].amt = true := by simp [fitB]; omega
    rw [this] at hsucc
    ((try simp -implicitDefEqProofs [h, e3, q1, q2]); repeat' first | (with_reducible refine gdK_em (fun hc => ?_) (fun hc => ?_) <;> (have hc' := hc; (try simp at hc'); simp -implicitDefEqProofs [hc, hc', h, e3, q1, q2])) | (with_reducible refine cdK_em (fun hc => ?_) (fun hc => ?_) <;> (have hc' := hc; (try simp at hc'); simp -implicitDefEqProofs [hc, hc', h, e3, q1, q2])) | (with_reducible refine pickK_em (fun hc => ?_) (fun hc => ?_) <;> (have hc' := hc; (try simp at hc'); simp -implicitDefEqProofs [hc, hc', h, e3, q1, q2])))
    exact ⟨k + 1, ⟨by omega, hsucc⟩, by omega, by omega⟩
  have : k = r.items.length := by omega
  subst this
  rw [hn]
  ((try simp -implicitDefEqProofs); repeat' first | (with_reducible refine gdK_em (fun hc => ?_) (fun hc => ?_) <;> (have hc' := hc; (try simp at hc'); simp -implicitDefEqProofs [hc, hc'])) | (with_reducible refine cdK_em (fun hc => ?_) (fun hc => ?_) <;> (have hc' := hc; (try simp at hc'); simp -implicitDefEqProofs [hc, hc'])) | (with_reducible refine pickK_em (fun hc => ?_) (fun hc => ?_) <;> (have hc' := hc; (try simp at hc'); simp -implicitDefEqProofs [hc, hc'])))
  refine loop_rule (X := Nat) (fun k => k ≤ r.posts.length ∧ allB (poAt r.posts) k = true) (fun k => [(1, .ptr 0 0), (4, vI k)])
    (fun k => ⟨[.cells (r.c.map .t)], []⟩) (fun k => r.posts.length - k) 0 ⟨by simp, rfl⟩ (by simp) ?_
  rintro i ⟨hi, hin⟩ hbd
  rcases Nat.lt_or_ge i r.posts.length with h | h
  · have hg : r.posts.getD i post0 = r.posts[i] := by simp [List.getD_eq_getElem?_getD, h]
    have e3 : IntKind.i64.wrap ((i : Int) + 1) = (i : Int) + 1 := wrap64 (by omega) (by omega)
    have hsucc := allB_succ (poAt r.posts) i
    have hfl := allB_false (p := poAt r.posts) h
    simp only [poAt, hin, hg, Bool.true_and] at hsucc hfl
    change allB (poAt r.posts) (i + 1) = _ at hsucc
    change _ → allB (poAt r.posts) r.posts.length = false at hfl
    have hpi := hpl _ (List.getElem_mem h)
    ((try simp -implicitDefEqProofs [h]); repeat' first | (with_reducible refine gdK_em (fun hc => ?_) (fun hc => ?_) <;> (have hc' := hc; (try simp at hc'); simp -implicitDefEqProofs [hc, hc', h])) | (with_reducible refine cdK_em (fun hc => ?_) (fun hc => ?_) <;> (have hc' := hc; (try simp at hc'); simp -implicitDefEqProofs [hc, hc', h])) | (with_reducible refine pickK_em (fun hc => ?_) (fun hc => ?_) <;> (have hc' := hc; (try simp at hc'); simp -implicitDefEqProofs [hc, hc', h])))
    refine loop_rule (X := Nat) (fun k => k ≤ r.posts[i].parts.length ∧ allB (paAt r.posts[i].parts) k = true) (fun k => [(1, .ptr 0 0), (4, vI i), (5, vI k)])
      (fun k => ⟨[.cells (r.c.map .t)], []⟩) (fun k => r.posts[i].parts.length - k) 0 ⟨by simp, rfl⟩ (by simp) ?_
    rintro k ⟨hk, hkn⟩ hbd2
    rcases Nat.lt_or_ge k r.posts[i].parts.length with h2 | h2
    · have hg2 : r.posts[i].parts.getD k part0 = r.posts[i].parts[k] := by simp [List.getD_eq_getElem?_getD, h2]
      have e5 : IntKind.i64.wrap ((k : Int) + 1) = (k : Int) + 1 := wrap64 (by omega) (by omega)
      have hsucc2 := allB_succ (paAt r.posts[i].parts) k
      have hfl2 := allB_false (p := paAt r.posts[i].parts) h2
      simp only [paAt, hkn, hg2, Bool.true_and] at hsucc2 hfl2
      change allB (paAt r.posts[i].parts) (k + 1) = _ at hsucc2
      change _ → allB (paAt r.posts[i].parts) r.posts[i].parts.length = false at hfl2
      by_cases q0 : k < 10
      case neg =>
        have q0' : (10 : Int) ≤ k := by omega
        rw [hfl (hfl2 (by simp [q0]))]
        ((try simp -implicitDefEqProofs [h, h2, e5, q0']); repeat' first | (with_reducible refine gdK_em (fun hc => ?_) (fun hc => ?_) <;> (have hc' := hc; (try simp at hc'); simp -implicitDefEqProofs [hc, hc', h, h2, e5, q0'])) | (with_reducible refine cdK_em (fun hc => ?_) (fun hc => ?_) <;> (have hc' := hc; (try simp at hc'); simp -implicitDefEqProofs [hc, hc', h, h2, e5, q0'])) | (with_reducible refine pickK_em (fun hc => ?_) (fun hc => ?_) <;> (have hc' := hc; (try simp at hc'); simp -implicitDefEqProofs [hc, hc', h, h2, e5, q0'])))
        all_goals (exfalso; omega)
      have q0' : ¬ (10 : Int) ≤ k := by omega
      have q0'' : ¬ 10 ≤ k := by omega
      by_cases q1 : 1125899906842624 < r.posts[i].parts[k].amt
      · rw [hfl (hfl2 (by simp [fitB]; omega))]
        ((try simp -implicitDefEqProofs [h, h2, e5, q0', q0'', q1]); repeat' first | (with_reducible refine gdK_em (fun hc => ?_) (fun hc => ?_) <;> (have hc' := hc; (try simp at hc'); simp -implicitDefEqProofs [hc, hc', h, h2, e5, q0', q0'', q1])) | (with_reducible refine cdK_em (fun hc => ?_) (fun hc => ?_) <;> (have hc' := hc; (try simp at hc'); simp -implicitDefEqProofs [hc, hc', h, h2, e5, q0', q0'', q1])) | (with_reducible refine pickK_em (fun hc => ?_) (fun hc => ?_) <;> (have hc' := hc; (try simp at hc'); simp -implicitDefEqProofs [hc, hc', h, h2, e5, q0', q0'', q1])))
        all_goals (exfalso; omega)
      by_cases q2 : r.posts[i].parts[k].amt < -1125899906842624
      · rw [hfl (hfl2 (by simp [fitB]; omega))]
        ((try simp -implicitDefEqProofs [h, h2, e5, q0', q0'', q1, q2]); repeat' first | (with_reducible refine gdK_em (fun hc => ?_) (fun hc => ?_) <;> (have hc' := hc; (try simp at hc'); simp -implicitDefEqProofs [hc, hc', h, h2, e5, q0', q0'', q1, q2])) | (with_reducible refine cdK_em (fun hc => ?_) (fun hc => ?_) <;> (have hc' := hc; (try simp at hc'); simp -implicitDefEqProofs [hc, hc', h, h2, e5, q0', q0'', q1, q2])) | (with_reducible refine pickK_em (fun hc => ?_) (fun hc => ?_) <;> (have hc' := hc; (try simp at hc'); simp -implicitDefEqProofs [hc, hc', h, h2, e5, q0', q0'', q1, q2])))
        all_goals (exfalso; omega)
      have : fitB r.posts[i].parts[k].amt = true := by simp [fitB]; omega
      simp only [this, q0, decide_true, Bool.and_self] at hsucc2
      ((try simp -implicitDefEqProofs [h, h2, e5, q0', q0'', q1, q2]); repeat' first | (with_reducible refine gdK_em (fun hc => ?_) (fun hc => ?_) <;> (have hc' := hc; (try simp at hc'); simp -implicitDefEqProofs [hc, hc', h, h2, e5, q0', q0'', q1, q2])) | (with_reducible refine cdK_em (fun hc => ?_) (fun hc => ?_) <;> (have hc' := hc; (try simp at hc'); simp -implicitDefEqProofs [hc, hc', h, h2, e5, q0', q0'', q1, q2])) | (with_reducible refine pickK_em (fun hc => ?_) (fun hc => ?_) <;> (have hc' := hc; (try simp at hc'); simp -implicitDefEqProofs [hc, hc', h, h2, e5, q0', q0'', q1, q2])))
      all_goals first | exact ⟨k + 1, ⟨by omega, hsucc2⟩, by omega, by omega⟩ | (exfalso; omega)
    · have : k = r.posts[i].parts.length := by omega
      subst this
      rw [hkn] at hsucc
      ((try simp -implicitDefEqProofs [h, e3]); repeat' first | (with_reducible refine gdK_em (fun hc => ?_) (fun hc => ?_) <;> (have hc' := hc; (try simp at hc'); simp -implicitDefEqProofs [hc, hc', h, e3])) | (with_reducible refine cdK_em (fun hc => ?_) (fun hc => ?_) <;> (have hc' := hc; (try simp at hc'); simp -implicitDefEqProofs [hc, hc', h, e3])) | (with_reducible refine pickK_em (fun hc => ?_) (fun hc => ?_) <;> (have hc' := hc; (try simp at hc'); simp -implicitDefEqProofs [hc, hc', h, e3])))
      exact ⟨i + 1, ⟨by omega, hsucc⟩, by omega, by omega⟩
  · have : i = r.posts.length := by omega
    subst this
    rw [hin]
    ((try simp -implicitDefEqProofs); repeat' first | (with_reducible refine gdK_em (fun hc => ?_) (fun hc => ?_) <;> (have hc' := hc; (try simp at hc'); simp -implicitDefEqProofs [hc, hc'])) | (with_reducible refine cdK_em (fun hc => ?_) (fun hc => ?_) <;> (have hc' := hc; (try simp at hc'); simp -implicitDefEqProofs [hc, hc'])) | (with_reducible refine pickK_em (fun hc => ?_) (fun hc => ?_) <;> (have hc' := hc; (try simp at hc'); simp -implicitDefEqProofs [hc, hc'])))
    all_goals first | omega | grind

def fewAll (g : Group) (a b : Res) : Bool := fewG g && few52 a && few52 b
theorem w_few (g : Group) (a b : Res) : Pure Try.prog 13 [g.v, a.v, b.v] (vB (fewAll g a b)) := by
  have h1 := w_gFew g
  have h2 := w_few52 a
  have h3 := w_few52 b
  unfold fewAll
  cases hf1 : fewG g <;> cases hf2 : few52 a <;> cases hf3 : few52 b <;> rw [hf1] at h1 <;> rw [hf2] at h2 <;> rw [hf3] at h3
  all_goals
    (refine Pure.of_code mix Try.call13 k_13 (by simp) (fun hB => ?_); (try simp at hB); (try simp -implicitDefEqProofs [c_tallystonelaw52_few_13]))
    ((try simp at h1); (try simp at h2); (try simp at h3); (try simp -implicitDefEqProofs); repeat' first | (with_reducible refine gdK_em (fun hc => ?_) (fun hc => ?_) <;> (have hc' := hc; (try simp at hc'); simp -implicitDefEqProofs [hc, hc'])) | (with_reducible refine cdK_em (fun hc => ?_) (fun hc => ?_) <;> (have hc' := hc; (try simp at hc'); simp -implicitDefEqProofs [hc, hc'])) | (with_reducible refine pickK_em (fun hc => ?_) (fun hc => ?_) <;> (have hc' := hc; (try simp at hc'); simp -implicitDefEqProofs [hc, hc'])) | (with_reducible apply callK_pure <;> first | (simp only [eras, era, eras_map]; first | with_reducible exact h1 | simpa using h1) | (simp -implicitDefEqProofs)) | (with_reducible apply callK_pure <;> first | (simp only [eras, era, eras_map]; first | with_reducible exact h2 | simpa using h2) | (simp -implicitDefEqProofs)) | (with_reducible apply callK_pure <;> first | (simp only [eras, era, eras_map]; first | with_reducible exact h3 | simpa using h3) | (simp -implicitDefEqProofs)))
end Go.Proofs.Ythfnaaeddlnckaa
end

/- Notes: the code and the reference make the same note. -/
section
set_option linter.unusedSimpArgs false
set_option linter.unusedVariables false
set_option maxHeartbeats 4000000
set_option maxRecDepth 8000
namespace Go.Proofs.Ythfnaaeddlnckaa
open E

/-- Every date is an int. -/
def OkI (l : List Item) : Prop := ∀ x ∈ l, early ≤ x.date ∧ x.date ≤ late
theorem rO_all {r : Res} (h : OkI r.items) (acc : Int) : rO r acc = itemsA r.items acc := by
  unfold rO itemsI itemsA
  congr 1
  apply List.map_congr_left
  intro x hx
  have := h x hx
  by_cases ha : x.acc = acc
  · rw [if_pos ⟨ha, this⟩, if_pos ha]
  · rw [if_neg (fun hh => ha hh.1), if_neg ha]
theorem itemsA_split (l : List Item) (acc frm to : Int) : itemsA l acc = itemsI l acc frm to + itemsO l acc frm to := by
  induction l with
  | nil => rfl
  | cons x l ih =>
    simp only [itemsA, itemsI, itemsO, List.map_cons, List.sum_cons] at ih ⊢
    rw [ih]
    by_cases h1 : x.acc = acc <;> by_cases h2 : frm ≤ x.date ∧ x.date ≤ to <;> (simp [h1, h2]; try omega)
theorem okK_all : okK (-1) = allK := by funext k; simp [okK, allK]
theorem okK_nat (j : Nat) : okK (j : Int) = fun k => k == (j : Int) := by
  funext k
  have : ((j : Int) == -1) = false := by simp
  simp [okK, this]
theorem note_agree {before after : Res} (hb : OkI before.items) (ha : OkI after.items) (first last acc : Int) : noteP before after first last acc = noteR before after first last acc := by
  unfold noteP noteR
  rw [rO_all hb, rO_all ha, okK_all, itemsA_split after.items acc first last]
  congr 1
  · simp only [ww_eq]; omega
  · funext j
    unfold dD dR
    by_cases hj : 1 ≤ j ∧ j ≤ 10
    · rw [if_pos hj, if_pos hj, if_pos (by omega), okK_nat]
      simp only [D0_app, ww_eq]; omega
    · rw [if_neg hj, if_neg hj, if_neg (by omega)]; rfl
theorem figs_agree (n : NoteS) (h : n.D 0 = 0) : (n.figs.any fun x => !amtB x) = (figsR n 11).any fun x => !amtB x := by
  have : amtB 0 = true := by decide
  simp [NoteS.figs, figsL, figsR, List.range, List.range.loop, h, this]
theorem make_agree (g : Group) {before after : Res} (hb : OkI before.items) (ha : OkI after.items) (acc : Int) : makeP g before after acc = makeR g before after acc := by
  unfold makeP makeR daysS
  rw [group_agree]
  cases hv : validGR g
  · simp
  · simp only [Bool.true_eq_false, if_false, reduceCtorEq]
    by_cases he : (firstS g.cal after.per).2 = 0
    · simp only [he, if_true, ne_eq, not_true_eq_false, if_false]
      rw [note_agree hb ha, figs_agree _ (by simp [noteR, dR])]
    · simp only [he, if_false, ne_eq, not_false_eq_true, if_true]
      simp
end Go.Proofs.Ythfnaaeddlnckaa
end

/- The law NoteMake. -/
section
set_option linter.unusedSimpArgs false
set_option linter.unusedVariables false
set_option maxHeartbeats 4000000
set_option maxRecDepth 8000
namespace Go.Proofs.Ythfnaaeddlnckaa
open E

/-- The texts of a group have lengths that are ints. -/
structure WfG (g : Group) : Prop where
  cur : g.cur.length ≤ 9223372036854775807
  ents : ∀ x ∈ g.ents, x.name.length ≤ 9223372036854775807 ∧ x.cur.length ≤ 9223372036854775807
theorem okG_of {g : Group} (hw : WfG g) (hf : fewG g = true) : OkG g := by
  simp only [fewG, Bool.and_eq_true, decide_eq_true_eq] at hf
  refine ⟨hw.cur, by omega, fun x hx => ⟨(hw.ents x hx).1, (hw.ents x hx).2, ?_⟩⟩
  obtain ⟨k, hk, rfl⟩ := List.getElem_of_mem hx
  have := allB_iff.1 hf.1 k hk
  have hg : g.ents.getD k ent0 = g.ents[k] := by simp [List.getD_eq_getElem?_getD, hk]
  simp only [fewAt, hg, Bool.and_eq_true, decide_eq_true_eq] at this
  omega
abbrev twoV (b a : Res) : V := .agg ((b.c ++ a.c).map .t)

theorem l_NoteMake (hw : Pure Try.prog 12 [] (vB true)) (g : Group) (b a : Res) (acc : Int) (hg : WfG g) (hb : OkI b.items) (ha : OkI a.items) :
    Pure Try.prog 4 [g.v, twoV b a, vI acc] (vB true) := by
  have hf := w_few g b a
  cases hfe : fewAll g b a
  · rw [hfe] at hf
    (refine Pure.of_code mix Try.call4 k_4 (by simp) (fun hB => ?_); (try simp at hB); (try simp -implicitDefEqProofs [c_tallystonelaw52_NoteMake_4]))
    ((try simp at hw); (try simp at hf); (try simp -implicitDefEqProofs); repeat' first | (with_reducible refine gdK_em (fun hc => ?_) (fun hc => ?_) <;> (have hc' := hc; (try simp at hc'); simp -implicitDefEqProofs [hc, hc'])) | (with_reducible refine cdK_em (fun hc => ?_) (fun hc => ?_) <;> (have hc' := hc; (try simp at hc'); simp -implicitDefEqProofs [hc, hc'])) | (with_reducible refine pickK_em (fun hc => ?_) (fun hc => ?_) <;> (have hc' := hc; (try simp at hc'); simp -implicitDefEqProofs [hc, hc'])) | (with_reducible apply callK_pure <;> first | (simp only [eras, era, eras_map]; first | with_reducible exact hw | simpa using hw) | (simp -implicitDefEqProofs)) | (with_reducible apply callK_pure <;> first | (simp only [eras, era, eras_map]; first | with_reducible exact hf | simpa using hf) | (simp -implicitDefEqProofs)))
  · rw [hfe] at hf
    simp only [fewAll, Bool.and_eq_true] at hfe
    have ok := okG_of hg hfe.1.1
    have h1 := w_nMake g ok b a acc
    have h2 := w_rMake g ok b a acc
    rw [make_agree g hb ha acc] at h1
    generalize makeR g b a acc = M at *
    obtain ⟨n, e⟩ := M
    have s1 := w_nSum n
    have s2 := w_rSum n
    (refine Pure.of_code mix Try.call4 k_4 (by simp) (fun hB => ?_); (try simp at hB); (try simp -implicitDefEqProofs [c_tallystonelaw52_NoteMake_4]))
    ((try simp at hw); (try simp at hf); (try simp at h1); (try simp at h2); (try simp at s1); (try simp at s2); (try simp -implicitDefEqProofs); repeat' first | (with_reducible refine gdK_em (fun hc => ?_) (fun hc => ?_) <;> (have hc' := hc; (try simp at hc'); simp -implicitDefEqProofs [hc, hc'])) | (with_reducible refine cdK_em (fun hc => ?_) (fun hc => ?_) <;> (have hc' := hc; (try simp at hc'); simp -implicitDefEqProofs [hc, hc'])) | (with_reducible refine pickK_em (fun hc => ?_) (fun hc => ?_) <;> (have hc' := hc; (try simp at hc'); simp -implicitDefEqProofs [hc, hc'])) | (with_reducible apply callK_pure <;> first | (simp only [eras, era, eras_map]; first | with_reducible exact hw | simpa using hw) | (simp -implicitDefEqProofs)) | (with_reducible apply callK_pure <;> first | (simp only [eras, era, eras_map]; first | with_reducible exact hf | simpa using hf) | (simp -implicitDefEqProofs)) | (with_reducible apply callK_pure <;> first | (simp only [eras, era, eras_map]; first | with_reducible exact h1 | simpa using h1) | (simp -implicitDefEqProofs)) | (with_reducible apply callK_pure <;> first | (simp only [eras, era, eras_map]; first | with_reducible exact h2 | simpa using h2) | (simp -implicitDefEqProofs)) | (with_reducible apply callK_pure <;> first | (simp only [eras, era, eras_map]; first | with_reducible exact s1 | simpa using s1) | (simp -implicitDefEqProofs)) | (with_reducible apply callK_pure <;> first | (simp only [eras, era, eras_map]; first | with_reducible exact s2 | simpa using s2) | (simp -implicitDefEqProofs)))
end Go.Proofs.Ythfnaaeddlnckaa
end
