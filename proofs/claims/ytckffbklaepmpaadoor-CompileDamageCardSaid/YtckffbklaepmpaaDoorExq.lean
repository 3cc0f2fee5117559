/- Chapter 33: the checker's types of expressions, all kinds. -/
import Derived.Test.YtckffbklaepmpaaDoorExp
section
set_option linter.unusedSimpArgs false
set_option linter.unusedVariables false
set_option maxHeartbeats 4000000
set_option maxRecDepth 8000
namespace Go.Proofs.YtckffbklaepmpaaDoor
open E

/-- Kinds whose operands are looked at. -/
theorem w_exprO (b : Nat) (M : List (List UInt8)) (pair : Bool) (kd vl fr to : Int) (nm : List UInt8) (xs : List Xp) (ih : ∀ a ∈ xs, ExpC b M pair a) (hk : kd ≠ 1 ∧ kd ≠ 2 ∧ kd ≠ 21 ∧ kd ≠ 22) : ExpC b M pair (.mk kd vl fr to nm xs) := by
  obtain ⟨m1, m2, m3, m4⟩ := hk
  intro B hB
  have hg := hB.app
  have hg0 := get0 B
  have hg1 := get1 B
  have hle := fun l l' n m h => LeBs.app' (l := l) (l' := l') (hB.le n m h)
  have hdr := fun l n m h => LeBs.drop' (n := n) (m := m) l (hB.le n m h)
  have hbl := hB.lt
  have hinf : Xp.inf (fun s => decide (s ∈ M)) pair (.mk kd vl fr to nm xs) = (if (Xp.infs (fun s => decide (s ∈ M)) pair (opdI kd) xs).1 ≠ 0 then (0, (Xp.infs (fun s => decide (s ∈ M)) pair (opdI kd) xs).1) else if (Xp.infs (fun s => decide (s ∈ M)) pair (opdI kd) xs).2 = true then (0, 16) else (ownI kd, 0)) := by
    rw [Xp.inf, finI]
    rw [if_neg (show ¬ (kd = 2 ∧ (decide (nm ∈ M)) = false) from fun h => m2 h.1), if_neg (show ¬ ((kd = 21 ∨ kd = 22) ∧ to < fr) from fun h => h.1.elim m3 m4), if_neg (show ¬ (kd = 22 ∧ pair = false) from fun h => m4 h.1)]
  rw [hinf]
  generalize hr : Xp.infs (fun s => decide (s ∈ M)) pair (opdI kd) xs = r
  have hB' : Hlds b M (B ++ [.cells [.mp b, vB pair], .cells [vI kd, vI vl, vI fr, vI to, vS nm, Xp.l xs]]) := hB.more _ (fun n m hn => by
    simp only [List.length_cons, List.length_nil] at hn
    refine ⟨⟨LeL_refl _, ?_⟩, ⟨LeL_refl _, ?_⟩, trivial⟩
    · simp [okNs, okN]; omega
    · simp [okNs, okN])
  have n1 : (kd == 1) = false := by simpa using m1
  have n2 : (kd == 2) = false := by simpa using m2
  have n3 : (kd == 21) = false := by simpa using m3
  have n4 : (kd == 22) = false := by simpa using m4
  have hcases : kd = 6 ∨ kd = 12 ∨ kd = 13 ∨ kd = 14 ∨ kd = 15 ∨ kd = 16 ∨ kd = 17 ∨ kd = 18 ∨ kd = 19 ∨ ((kd == 6) = false ∧ (kd == 12) = false ∧ (kd == 13) = false ∧ (kd == 14) = false ∧ (kd == 15) = false ∧ (kd == 16) = false ∧ (kd == 17) = false ∧ (kd == 18) = false ∧ (kd == 19) = false) := by
    simp only [beq_eq_false_iff_ne, ne_eq]; omega
  refine ⟨fun h => ?_, fun h => ?_⟩
  · have hr1 : r.1 = 0 := by
      by_cases q : r.1 = 0
      · exact q
      · rw [if_pos q] at h; exact absurd h q
    rw [if_neg (by simpa using hr1)] at h ⊢
    have hr2 : r.2 = false := by
      cases q : r.2
      · rfl
      · rw [q] at h; simp at h
    rw [hr2, if_neg (by simp)]
    have hops := w_opsOk b M pair kd vl fr to nm xs (opdI kd) ih _ hB' (by rw [hr]; exact Prod.ext hr1 hr2)
    rw [Xp.v, Xp.c_mk] at hops ⊢
    unfold opdI at hops
    unfold ownI
    rcases hcases with rfl | rfl | rfl | rfl | rfl | rfl | rfl | rfl | rfl | ⟨a6, a12, a13, a14, a15, a16, a17, a18, a19⟩
    · (refine FnS.of_code mix Tryd.call60 k_60 (by simp) (fun hB => ?_); (try simp at hB); (try simp -implicitDefEqProofs [c_check_checker__expr_60]))
      ((try simp -implicitDefEqProofs [hg, hg0, hg1, hle, hdr]); repeat' first | ((first | with_reducible refine gdK_em (fun hc => ?_) (fun hc => ?_) | with_reducible refine cdK_em (fun hc => ?_) (fun hc => ?_) | with_reducible refine pickK_em (fun hc => ?_) (fun hc => ?_)) <;> (have hc' := hc; (try simp at hc'); simp -implicitDefEqProofs [hc, hc', hg, hg0, hg1, hle, hdr])))
      refine callK_fn hops (fun hd => by cases hd) ?_
      ((try simp -implicitDefEqProofs [hg, hg0, hg1, hle, hdr]); repeat' first | ((first | with_reducible refine gdK_em (fun hc => ?_) (fun hc => ?_) | with_reducible refine cdK_em (fun hc => ?_) (fun hc => ?_) | with_reducible refine pickK_em (fun hc => ?_) (fun hc => ?_)) <;> (have hc' := hc; (try simp at hc'); simp -implicitDefEqProofs [hc, hc', hg, hg0, hg1, hle, hdr])))
    · (refine FnS.of_code mix Tryd.call60 k_60 (by simp) (fun hB => ?_); (try simp at hB); (try simp -implicitDefEqProofs [c_check_checker__expr_60]))
      ((try simp -implicitDefEqProofs [hg, hg0, hg1, hle, hdr]); repeat' first | ((first | with_reducible refine gdK_em (fun hc => ?_) (fun hc => ?_) | with_reducible refine cdK_em (fun hc => ?_) (fun hc => ?_) | with_reducible refine pickK_em (fun hc => ?_) (fun hc => ?_)) <;> (have hc' := hc; (try simp at hc'); simp -implicitDefEqProofs [hc, hc', hg, hg0, hg1, hle, hdr])))
      refine callK_fn hops (fun hd => by cases hd) ?_
      ((try simp -implicitDefEqProofs [hg, hg0, hg1, hle, hdr]); repeat' first | ((first | with_reducible refine gdK_em (fun hc => ?_) (fun hc => ?_) | with_reducible refine cdK_em (fun hc => ?_) (fun hc => ?_) | with_reducible refine pickK_em (fun hc => ?_) (fun hc => ?_)) <;> (have hc' := hc; (try simp at hc'); simp -implicitDefEqProofs [hc, hc', hg, hg0, hg1, hle, hdr])))
    · (refine FnS.of_code mix Tryd.call60 k_60 (by simp) (fun hB => ?_); (try simp at hB); (try simp -implicitDefEqProofs [c_check_checker__expr_60]))
      ((try simp -implicitDefEqProofs [hg, hg0, hg1, hle, hdr]); repeat' first | ((first | with_reducible refine gdK_em (fun hc => ?_) (fun hc => ?_) | with_reducible refine cdK_em (fun hc => ?_) (fun hc => ?_) | with_reducible refine pickK_em (fun hc => ?_) (fun hc => ?_)) <;> (have hc' := hc; (try simp at hc'); simp -implicitDefEqProofs [hc, hc', hg, hg0, hg1, hle, hdr])))
      refine callK_fn hops (fun hd => by cases hd) ?_
      ((try simp -implicitDefEqProofs [hg, hg0, hg1, hle, hdr]); repeat' first | ((first | with_reducible refine gdK_em (fun hc => ?_) (fun hc => ?_) | with_reducible refine cdK_em (fun hc => ?_) (fun hc => ?_) | with_reducible refine pickK_em (fun hc => ?_) (fun hc => ?_)) <;> (have hc' := hc; (try simp at hc'); simp -implicitDefEqProofs [hc, hc', hg, hg0, hg1, hle, hdr])))
    · (refine FnS.of_code mix Tryd.call60 k_60 (by simp) (fun hB => ?_); (try simp at hB); (try simp -implicitDefEqProofs [c_check_checker__expr_60]))
      ((try simp -implicitDefEqProofs [hg, hg0, hg1, hle, hdr]); repeat' first | ((first | with_reducible refine gdK_em (fun hc => ?_) (fun hc => ?_) | with_reducible refine cdK_em (fun hc => ?_) (fun hc => ?_) | with_reducible refine pickK_em (fun hc => ?_) (fun hc => ?_)) <;> (have hc' := hc; (try simp at hc'); simp -implicitDefEqProofs [hc, hc', hg, hg0, hg1, hle, hdr])))
      refine callK_fn hops (fun hd => by cases hd) ?_
      ((try simp -implicitDefEqProofs [hg, hg0, hg1, hle, hdr]); repeat' first | ((first | with_reducible refine gdK_em (fun hc => ?_) (fun hc => ?_) | with_reducible refine cdK_em (fun hc => ?_) (fun hc => ?_) | with_reducible refine pickK_em (fun hc => ?_) (fun hc => ?_)) <;> (have hc' := hc; (try simp at hc'); simp -implicitDefEqProofs [hc, hc', hg, hg0, hg1, hle, hdr])))
    · (refine FnS.of_code mix Tryd.call60 k_60 (by simp) (fun hB => ?_); (try simp at hB); (try simp -implicitDefEqProofs [c_check_checker__expr_60]))
      ((try simp -implicitDefEqProofs [hg, hg0, hg1, hle, hdr]); repeat' first | ((first | with_reducible refine gdK_em (fun hc => ?_) (fun hc => ?_) | with_reducible refine cdK_em (fun hc => ?_) (fun hc => ?_) | with_reducible refine pickK_em (fun hc => ?_) (fun hc => ?_)) <;> (have hc' := hc; (try simp at hc'); simp -implicitDefEqProofs [hc, hc', hg, hg0, hg1, hle, hdr])))
      refine callK_fn hops (fun hd => by cases hd) ?_
      ((try simp -implicitDefEqProofs [hg, hg0, hg1, hle, hdr]); repeat' first | ((first | with_reducible refine gdK_em (fun hc => ?_) (fun hc => ?_) | with_reducible refine cdK_em (fun hc => ?_) (fun hc => ?_) | with_reducible refine pickK_em (fun hc => ?_) (fun hc => ?_)) <;> (have hc' := hc; (try simp at hc'); simp -implicitDefEqProofs [hc, hc', hg, hg0, hg1, hle, hdr])))
    · (refine FnS.of_code mix Tryd.call60 k_60 (by simp) (fun hB => ?_); (try simp at hB); (try simp -implicitDefEqProofs [c_check_checker__expr_60]))
      ((try simp -implicitDefEqProofs [hg, hg0, hg1, hle, hdr]); repeat' first | ((first | with_reducible refine gdK_em (fun hc => ?_) (fun hc => ?_) | with_reducible refine cdK_em (fun hc => ?_) (fun hc => ?_) | with_reducible refine pickK_em (fun hc => ?_) (fun hc => ?_)) <;> (have hc' := hc; (try simp at hc'); simp -implicitDefEqProofs [hc, hc', hg, hg0, hg1, hle, hdr])))
      refine callK_fn hops (fun hd => by cases hd) ?_
      ((try simp -implicitDefEqProofs [hg, hg0, hg1, hle, hdr]); repeat' first | ((first | with_reducible refine gdK_em (fun hc => ?_) (fun hc => ?_) | with_reducible refine cdK_em (fun hc => ?_) (fun hc => ?_) | with_reducible refine pickK_em (fun hc => ?_) (fun hc => ?_)) <;> (have hc' := hc; (try simp at hc'); simp -implicitDefEqProofs [hc, hc', hg, hg0, hg1, hle, hdr])))
    · (refine FnS.of_code mix Tryd.call60 k_60 (by simp) (fun hB => ?_); (try simp at hB); (try simp -implicitDefEqProofs [c_check_checker__expr_60]))
      ((try simp -implicitDefEqProofs [hg, hg0, hg1, hle, hdr]); repeat' first | ((first | with_reducible refine gdK_em (fun hc => ?_) (fun hc => ?_) | with_reducible refine cdK_em (fun hc => ?_) (fun hc => ?_) | with_reducible refine pickK_em (fun hc => ?_) (fun hc => ?_)) <;> (have hc' := hc; (try simp at hc'); simp -implicitDefEqProofs [hc, hc', hg, hg0, hg1, hle, hdr])))
      refine callK_fn hops (fun hd => by cases hd) ?_
      ((try simp -implicitDefEqProofs [hg, hg0, hg1, hle, hdr]); repeat' first | ((first | with_reducible refine gdK_em (fun hc => ?_) (fun hc => ?_) | with_reducible refine cdK_em (fun hc => ?_) (fun hc => ?_) | with_reducible refine pickK_em (fun hc => ?_) (fun hc => ?_)) <;> (have hc' := hc; (try simp at hc'); simp -implicitDefEqProofs [hc, hc', hg, hg0, hg1, hle, hdr])))
    · (refine FnS.of_code mix Tryd.call60 k_60 (by simp) (fun hB => ?_); (try simp at hB); (try simp -implicitDefEqProofs [c_check_checker__expr_60]))
      ((try simp -implicitDefEqProofs [hg, hg0, hg1, hle, hdr]); repeat' first | ((first | with_reducible refine gdK_em (fun hc => ?_) (fun hc => ?_) | with_reducible refine cdK_em (fun hc => ?_) (fun hc => ?_) | with_reducible refine pickK_em (fun hc => ?_) (fun hc => ?_)) <;> (have hc' := hc; (try simp at hc'); simp -implicitDefEqProofs [hc, hc', hg, hg0, hg1, hle, hdr])))
      refine callK_fn hops (fun hd => by cases hd) ?_
      ((try simp -implicitDefEqProofs [hg, hg0, hg1, hle, hdr]); repeat' first | ((first | with_reducible refine gdK_em (fun hc => ?_) (fun hc => ?_) | with_reducible refine cdK_em (fun hc => ?_) (fun hc => ?_) | with_reducible refine pickK_em (fun hc => ?_) (fun hc => ?_)) <;> (have hc' := hc; (try simp at hc'); simp -implicitDefEqProofs [hc, hc', hg, hg0, hg1, hle, hdr])))
    · (refine FnS.of_code mix Tryd.call60 k_60 (by simp) (fun hB => ?_); (try simp at hB); (try simp -implicitDefEqProofs [c_check_checker__expr_60]))
      ((try simp -implicitDefEqProofs [hg, hg0, hg1, hle, hdr]); repeat' first | ((first | with_reducible refine gdK_em (fun hc => ?_) (fun hc => ?_) | with_reducible refine cdK_em (fun hc => ?_) (fun hc => ?_) | with_reducible refine pickK_em (fun hc => ?_) (fun hc => ?_)) <;> (have hc' := hc; (try simp at hc'); simp -implicitDefEqProofs [hc, hc', hg, hg0, hg1, hle, hdr])))
      refine callK_fn hops (fun hd => by cases hd) ?_
      ((try simp -implicitDefEqProofs [hg, hg0, hg1, hle, hdr]); repeat' first | ((first | with_reducible refine gdK_em (fun hc => ?_) (fun hc => ?_) | with_reducible refine cdK_em (fun hc => ?_) (fun hc => ?_) | with_reducible refine pickK_em (fun hc => ?_) (fun hc => ?_)) <;> (have hc' := hc; (try simp at hc'); simp -implicitDefEqProofs [hc, hc', hg, hg0, hg1, hle, hdr])))
    · have hw : (if kd = 6 ∨ kd = 12 ∨ kd = 13 then (2 : Int) else 1) = 1 := if_neg (by simp only [beq_eq_false_iff_ne, ne_eq] at a6 a12 a13 a14 a15 a16 a17 a18 a19; omega)
      rw [hw] at hops
      rw [if_neg (by simp only [beq_eq_false_iff_ne, ne_eq] at a6 a12 a13 a14 a15 a16 a17 a18 a19; omega)]
      (refine FnS.of_code mix Tryd.call60 k_60 (by simp) (fun hB => ?_); (try simp at hB); (try simp -implicitDefEqProofs [c_check_checker__expr_60]))
      ((try simp -implicitDefEqProofs [hg, hg0, hg1, hle, hdr, n1, n2, n3, n4, a6, a12, a13, a14, a15, a16, a17, a18, a19]); repeat' first | ((first | with_reducible refine gdK_em (fun hc => ?_) (fun hc => ?_) | with_reducible refine cdK_em (fun hc => ?_) (fun hc => ?_) | with_reducible refine pickK_em (fun hc => ?_) (fun hc => ?_)) <;> (have hc' := hc; (try simp at hc'); simp -implicitDefEqProofs [hc, hc', hg, hg0, hg1, hle, hdr, n1, n2, n3, n4, a6, a12, a13, a14, a15, a16, a17, a18, a19])))
      refine callK_fn hops (fun hd => by cases hd) ?_
      ((try simp -implicitDefEqProofs [hg, hg0, hg1, hle, hdr, n1, n2, n3, n4, a6, a12, a13, a14, a15, a16, a17, a18, a19]); repeat' first | ((first | with_reducible refine gdK_em (fun hc => ?_) (fun hc => ?_) | with_reducible refine cdK_em (fun hc => ?_) (fun hc => ?_) | with_reducible refine pickK_em (fun hc => ?_) (fun hc => ?_)) <;> (have hc' := hc; (try simp at hc'); simp -implicitDefEqProofs [hc, hc', hg, hg0, hg1, hle, hdr, n1, n2, n3, n4, a6, a12, a13, a14, a15, a16, a17, a18, a19])))
  · have hr' : r.1 ≠ 0 ∨ r.2 = true := by
      by_cases q : r.1 = 0
      · rw [if_neg (by simpa using q)] at h
        by_cases q2 : r.2 = true
        · exact .inr q2
        · rw [if_neg q2] at h; exact absurd rfl h
      · exact .inl q
    have hres : (if r.1 ≠ 0 then ((0 : Int), r.1) else if r.2 = true then (0, 16) else (ownI kd, 0)).2 = (if r.1 ≠ 0 then r.1 else 16) := by
      by_cases q : r.1 = 0
      · have q2 : r.2 = true := hr'.resolve_left (fun h => h q)
        simp [q, q2]
      · simp [q]
    rw [hres]
    have hops := w_opsPan b M pair kd vl fr to nm xs (opdI kd) ih _ hB' r hr hr'
    generalize (if r.1 ≠ 0 then r.1 else (16 : Int)) = er at *
    rw [Xp.v, Xp.c_mk] at hops ⊢
    unfold opdI at hops
    unfold mistV at hops ⊢
    rcases hcases with rfl | rfl | rfl | rfl | rfl | rfl | rfl | rfl | rfl | ⟨a6, a12, a13, a14, a15, a16, a17, a18, a19⟩
    · (refine FnP.of_code mix Tryd.call60 k_60 (by simp) (fun hB => ?_); (try simp at hB); (try simp -implicitDefEqProofs [c_check_checker__expr_60]))
      ((try simp -implicitDefEqProofs [hg, hg0, hg1, hle, hdr]); repeat' first | ((first | with_reducible refine gdK_em (fun hc => ?_) (fun hc => ?_) | with_reducible refine cdK_em (fun hc => ?_) (fun hc => ?_) | with_reducible refine pickK_em (fun hc => ?_) (fun hc => ?_)) <;> (have hc' := hc; (try simp at hc'); simp -implicitDefEqProofs [hc, hc', hg, hg0, hg1, hle, hdr])))
      refine callK_pan hops ?_
      ((try simp -implicitDefEqProofs [hg, hg0, hg1, hle, hdr]); repeat' first | ((first | with_reducible refine gdK_em (fun hc => ?_) (fun hc => ?_) | with_reducible refine cdK_em (fun hc => ?_) (fun hc => ?_) | with_reducible refine pickK_em (fun hc => ?_) (fun hc => ?_)) <;> (have hc' := hc; (try simp at hc'); simp -implicitDefEqProofs [hc, hc', hg, hg0, hg1, hle, hdr])))
    · (refine FnP.of_code mix Tryd.call60 k_60 (by simp) (fun hB => ?_); (try simp at hB); (try simp -implicitDefEqProofs [c_check_checker__expr_60]))
      ((try simp -implicitDefEqProofs [hg, hg0, hg1, hle, hdr]); repeat' first | ((first | with_reducible refine gdK_em (fun hc => ?_) (fun hc => ?_) | with_reducible refine cdK_em (fun hc => ?_) (fun hc => ?_) | with_reducible refine pickK_em (fun hc => ?_) (fun hc => ?_)) <;> (have hc' := hc; (try simp at hc'); simp -implicitDefEqProofs [hc, hc', hg, hg0, hg1, hle, hdr])))
      refine callK_pan hops ?_
      ((try simp -implicitDefEqProofs [hg, hg0, hg1, hle, hdr]); repeat' first | ((first | with_reducible refine gdK_em (fun hc => ?_) (fun hc => ?_) | with_reducible refine cdK_em (fun hc => ?_) (fun hc => ?_) | with_reducible refine pickK_em (fun hc => ?_) (fun hc => ?_)) <;> (have hc' := hc; (try simp at hc'); simp -implicitDefEqProofs [hc, hc', hg, hg0, hg1, hle, hdr])))
    · (refine FnP.of_code mix Tryd.call60 k_60 (by simp) (fun hB => ?_); (try simp at hB); (try simp -implicitDefEqProofs [c_check_checker__expr_60]))
      ((try simp -implicitDefEqProofs [hg, hg0, hg1, hle, hdr]); repeat' first | ((first | with_reducible refine gdK_em (fun hc => ?_) (fun hc => ?_) | with_reducible refine cdK_em (fun hc => ?_) (fun hc => ?_) | with_reducible refine pickK_em (fun hc => ?_) (fun hc => ?_)) <;> (have hc' := hc; (try simp at hc'); simp -implicitDefEqProofs [hc, hc', hg, hg0, hg1, hle, hdr])))
      refine callK_pan hops ?_
      ((try simp -implicitDefEqProofs [hg, hg0, hg1, hle, hdr]); repeat' first | ((first | with_reducible refine gdK_em (fun hc => ?_) (fun hc => ?_) | with_reducible refine cdK_em (fun hc => ?_) (fun hc => ?_) | with_reducible refine pickK_em (fun hc => ?_) (fun hc => ?_)) <;> (have hc' := hc; (try simp at hc'); simp -implicitDefEqProofs [hc, hc', hg, hg0, hg1, hle, hdr])))
    · (refine FnP.of_code mix Tryd.call60 k_60 (by simp) (fun hB => ?_); (try simp at hB); (try simp -implicitDefEqProofs [c_check_checker__expr_60]))
      ((try simp -implicitDefEqProofs [hg, hg0, hg1, hle, hdr]); repeat' first | ((first | with_reducible refine gdK_em (fun hc => ?_) (fun hc => ?_) | with_reducible refine cdK_em (fun hc => ?_) (fun hc => ?_) | with_reducible refine pickK_em (fun hc => ?_) (fun hc => ?_)) <;> (have hc' := hc; (try simp at hc'); simp -implicitDefEqProofs [hc, hc', hg, hg0, hg1, hle, hdr])))
      refine callK_pan hops ?_
      ((try simp -implicitDefEqProofs [hg, hg0, hg1, hle, hdr]); repeat' first | ((first | with_reducible refine gdK_em (fun hc => ?_) (fun hc => ?_) | with_reducible refine cdK_em (fun hc => ?_) (fun hc => ?_) | with_reducible refine pickK_em (fun hc => ?_) (fun hc => ?_)) <;> (have hc' := hc; (try simp at hc'); simp -implicitDefEqProofs [hc, hc', hg, hg0, hg1, hle, hdr])))
    · (refine FnP.of_code mix Tryd.call60 k_60 (by simp) (fun hB => ?_); (try simp at hB); (try simp -implicitDefEqProofs [c_check_checker__expr_60]))
      ((try simp -implicitDefEqProofs [hg, hg0, hg1, hle, hdr]); repeat' first | ((first | with_reducible refine gdK_em (fun hc => ?_) (fun hc => ?_) | with_reducible refine cdK_em (fun hc => ?_) (fun hc => ?_) | with_reducible refine pickK_em (fun hc => ?_) (fun hc => ?_)) <;> (have hc' := hc; (try simp at hc'); simp -implicitDefEqProofs [hc, hc', hg, hg0, hg1, hle, hdr])))
      refine callK_pan hops ?_
      ((try simp -implicitDefEqProofs [hg, hg0, hg1, hle, hdr]); repeat' first | ((first | with_reducible refine gdK_em (fun hc => ?_) (fun hc => ?_) | with_reducible refine cdK_em (fun hc => ?_) (fun hc => ?_) | with_reducible refine pickK_em (fun hc => ?_) (fun hc => ?_)) <;> (have hc' := hc; (try simp at hc'); simp -implicitDefEqProofs [hc, hc', hg, hg0, hg1, hle, hdr])))
    · (refine FnP.of_code mix Tryd.call60 k_60 (by simp) (fun hB => ?_); (try simp at hB); (try simp -implicitDefEqProofs [c_check_checker__expr_60]))
      ((try simp -implicitDefEqProofs [hg, hg0, hg1, hle, hdr]); repeat' first | ((first | with_reducible refine gdK_em (fun hc => ?_) (fun hc => ?_) | with_reducible refine cdK_em (fun hc => ?_) (fun hc => ?_) | with_reducible refine pickK_em (fun hc => ?_) (fun hc => ?_)) <;> (have hc' := hc; (try simp at hc'); simp -implicitDefEqProofs [hc, hc', hg, hg0, hg1, hle, hdr])))
      refine callK_pan hops ?_
      ((try simp -implicitDefEqProofs [hg, hg0, hg1, hle, hdr]); repeat' first | ((first | with_reducible refine gdK_em (fun hc => ?_) (fun hc => ?_) | with_reducible refine cdK_em (fun hc => ?_) (fun hc => ?_) | with_reducible refine pickK_em (fun hc => ?_) (fun hc => ?_)) <;> (have hc' := hc; (try simp at hc'); simp -implicitDefEqProofs [hc, hc', hg, hg0, hg1, hle, hdr])))
    · (refine FnP.of_code mix Tryd.call60 k_60 (by simp) (fun hB => ?_); (try simp at hB); (try simp -implicitDefEqProofs [c_check_checker__expr_60]))
      ((try simp -implicitDefEqProofs [hg, hg0, hg1, hle, hdr]); repeat' first | ((first | with_reducible refine gdK_em (fun hc => ?_) (fun hc => ?_) | with_reducible refine cdK_em (fun hc => ?_) (fun hc => ?_) | with_reducible refine pickK_em (fun hc => ?_) (fun hc => ?_)) <;> (have hc' := hc; (try simp at hc'); simp -implicitDefEqProofs [hc, hc', hg, hg0, hg1, hle, hdr])))
      refine callK_pan hops ?_
      ((try simp -implicitDefEqProofs [hg, hg0, hg1, hle, hdr]); repeat' first | ((first | with_reducible refine gdK_em (fun hc => ?_) (fun hc => ?_) | with_reducible refine cdK_em (fun hc => ?_) (fun hc => ?_) | with_reducible refine pickK_em (fun hc => ?_) (fun hc => ?_)) <;> (have hc' := hc; (try simp at hc'); simp -implicitDefEqProofs [hc, hc', hg, hg0, hg1, hle, hdr])))
    · (refine FnP.of_code mix Tryd.call60 k_60 (by simp) (fun hB => ?_); (try simp at hB); (try simp -implicitDefEqProofs [c_check_checker__expr_60]))
      ((try simp -implicitDefEqProofs [hg, hg0, hg1, hle, hdr]); repeat' first | ((first | with_reducible refine gdK_em (fun hc => ?_) (fun hc => ?_) | with_reducible refine cdK_em (fun hc => ?_) (fun hc => ?_) | with_reducible refine pickK_em (fun hc => ?_) (fun hc => ?_)) <;> (have hc' := hc; (try simp at hc'); simp -implicitDefEqProofs [hc, hc', hg, hg0, hg1, hle, hdr])))
      refine callK_pan hops ?_
      ((try simp -implicitDefEqProofs [hg, hg0, hg1, hle, hdr]); repeat' first | ((first | with_reducible refine gdK_em (fun hc => ?_) (fun hc => ?_) | with_reducible refine cdK_em (fun hc => ?_) (fun hc => ?_) | with_reducible refine pickK_em (fun hc => ?_) (fun hc => ?_)) <;> (have hc' := hc; (try simp at hc'); simp -implicitDefEqProofs [hc, hc', hg, hg0, hg1, hle, hdr])))
    · (refine FnP.of_code mix Tryd.call60 k_60 (by simp) (fun hB => ?_); (try simp at hB); (try simp -implicitDefEqProofs [c_check_checker__expr_60]))
      ((try simp -implicitDefEqProofs [hg, hg0, hg1, hle, hdr]); repeat' first | ((first | with_reducible refine gdK_em (fun hc => ?_) (fun hc => ?_) | with_reducible refine cdK_em (fun hc => ?_) (fun hc => ?_) | with_reducible refine pickK_em (fun hc => ?_) (fun hc => ?_)) <;> (have hc' := hc; (try simp at hc'); simp -implicitDefEqProofs [hc, hc', hg, hg0, hg1, hle, hdr])))
      refine callK_pan hops ?_
      ((try simp -implicitDefEqProofs [hg, hg0, hg1, hle, hdr]); repeat' first | ((first | with_reducible refine gdK_em (fun hc => ?_) (fun hc => ?_) | with_reducible refine cdK_em (fun hc => ?_) (fun hc => ?_) | with_reducible refine pickK_em (fun hc => ?_) (fun hc => ?_)) <;> (have hc' := hc; (try simp at hc'); simp -implicitDefEqProofs [hc, hc', hg, hg0, hg1, hle, hdr])))
    · have hw : (if kd = 6 ∨ kd = 12 ∨ kd = 13 then (2 : Int) else 1) = 1 := if_neg (by simp only [beq_eq_false_iff_ne, ne_eq] at a6 a12 a13 a14 a15 a16 a17 a18 a19; omega)
      rw [hw] at hops
      (refine FnP.of_code mix Tryd.call60 k_60 (by simp) (fun hB => ?_); (try simp at hB); (try simp -implicitDefEqProofs [c_check_checker__expr_60]))
      ((try simp -implicitDefEqProofs [hg, hg0, hg1, hle, hdr, n1, n2, n3, n4, a6, a12, a13, a14, a15, a16, a17, a18, a19]); repeat' first | ((first | with_reducible refine gdK_em (fun hc => ?_) (fun hc => ?_) | with_reducible refine cdK_em (fun hc => ?_) (fun hc => ?_) | with_reducible refine pickK_em (fun hc => ?_) (fun hc => ?_)) <;> (have hc' := hc; (try simp at hc'); simp -implicitDefEqProofs [hc, hc', hg, hg0, hg1, hle, hdr, n1, n2, n3, n4, a6, a12, a13, a14, a15, a16, a17, a18, a19])))
      refine callK_pan hops ?_
      ((try simp -implicitDefEqProofs [hg, hg0, hg1, hle, hdr, n1, n2, n3, n4, a6, a12, a13, a14, a15, a16, a17, a18, a19]); repeat' first | ((first | with_reducible refine gdK_em (fun hc => ?_) (fun hc => ?_) | with_reducible refine cdK_em (fun hc => ?_) (fun hc => ?_) | with_reducible refine pickK_em (fun hc => ?_) (fun hc => ?_)) <;> (have hc' := hc; (try simp at hc'); simp -implicitDefEqProofs [hc, hc', hg, hg0, hg1, hle, hdr, n1, n2, n3, n4, a6, a12, a13, a14, a15, a16, a17, a18, a19])))
end Go.Proofs.YtckffbklaepmpaaDoor
end

/- Chapter 33: the checker's types of expressions without operands. -/
section
set_option linter.unusedSimpArgs false
set_option linter.unusedVariables false
set_option maxHeartbeats 4000000
set_option maxRecDepth 8000
namespace Go.Proofs.YtckffbklaepmpaaDoor
open E

theorem w_exprL (b : Nat) (M : List (List UInt8)) (pair : Bool) (kd vl fr to : Int) (nm : List UInt8) (hk : kd = 1 ∨ kd = 21 ∨ kd = 22) : ExpC b M pair (.mk kd vl fr to nm []) := by
  intro B hB
  have hg := hB.app
  have hg0 := get0 B
  have hg1 := get1 B
  have hle := fun l l' n m h => LeBs.app' (l := l) (l' := l') (hB.le n m h)
  have hdr := fun l n m h => LeBs.drop' (n := n) (m := m) l (hB.le n m h)
  have hbl := hB.lt
  rw [Xp.v, Xp.c_mk]
  unfold mistV
  rcases hk with rfl | rfl | rfl
  · have hi : Xp.inf (fun s => decide (s ∈ M)) pair (.mk 1 vl fr to nm []) = (1, 0) := by simp [Xp.inf, Xp.infs, finI, ownI]
    rw [hi]
    refine ⟨fun _ => ?_, fun h => absurd rfl h⟩
    (refine FnS.of_code mix Tryd.call60 k_60 (by simp) (fun hB => ?_); (try simp at hB); (try simp -implicitDefEqProofs [c_check_checker__expr_60]))
    ((try simp -implicitDefEqProofs [hg, hg0, hg1, hle, hdr]); repeat' first | ((first | with_reducible refine gdK_em (fun hc => ?_) (fun hc => ?_) | with_reducible refine cdK_em (fun hc => ?_) (fun hc => ?_) | with_reducible refine pickK_em (fun hc => ?_) (fun hc => ?_)) <;> (have hc' := hc; (try simp at hc'); simp -implicitDefEqProofs [hc, hc', hg, hg0, hg1, hle, hdr])))
  · by_cases hft : to < fr
    · have hft' : decide (to < fr) = true := by simpa using hft
      have hi : Xp.inf (fun s => decide (s ∈ M)) pair (.mk 21 vl fr to nm []) = (0, 2) := by simp [Xp.inf, Xp.infs, finI, ownI, hft]
      rw [hi]
      refine ⟨fun h => absurd h (by simp), fun _ => ?_⟩
      (refine FnP.of_code mix Tryd.call60 k_60 (by simp) (fun hB => ?_); (try simp at hB); (try simp -implicitDefEqProofs [c_check_checker__expr_60]))
      ((try simp -implicitDefEqProofs [hg, hg0, hg1, hle, hdr, hft']); repeat' first | ((first | with_reducible refine gdK_em (fun hc => ?_) (fun hc => ?_) | with_reducible refine cdK_em (fun hc => ?_) (fun hc => ?_) | with_reducible refine pickK_em (fun hc => ?_) (fun hc => ?_)) <;> (have hc' := hc; (try simp at hc'); simp -implicitDefEqProofs [hc, hc', hg, hg0, hg1, hle, hdr, hft'])))
    · have hft' : decide (to < fr) = false := by simpa using hft
      have hi : Xp.inf (fun s => decide (s ∈ M)) pair (.mk 21 vl fr to nm []) = (1, 0) := by simp [Xp.inf, Xp.infs, finI, ownI, hft]
      rw [hi]
      refine ⟨fun _ => ?_, fun h => absurd rfl h⟩
      (refine FnS.of_code mix Tryd.call60 k_60 (by simp) (fun hB => ?_); (try simp at hB); (try simp -implicitDefEqProofs [c_check_checker__expr_60]))
      ((try simp -implicitDefEqProofs [hg, hg0, hg1, hle, hdr, hft']); repeat' first | ((first | with_reducible refine gdK_em (fun hc => ?_) (fun hc => ?_) | with_reducible refine cdK_em (fun hc => ?_) (fun hc => ?_) | with_reducible refine pickK_em (fun hc => ?_) (fun hc => ?_)) <;> (have hc' := hc; (try simp at hc'); simp -implicitDefEqProofs [hc, hc', hg, hg0, hg1, hle, hdr, hft'])))
  · by_cases hft : to < fr
    · have hft' : decide (to < fr) = true := by simpa using hft
      have hi : Xp.inf (fun s => decide (s ∈ M)) pair (.mk 22 vl fr to nm []) = (0, 2) := by simp [Xp.inf, Xp.infs, finI, ownI, hft]
      rw [hi]
      refine ⟨fun h => absurd h (by simp), fun _ => ?_⟩
      (refine FnP.of_code mix Tryd.call60 k_60 (by simp) (fun hB => ?_); (try simp at hB); (try simp -implicitDefEqProofs [c_check_checker__expr_60]))
      ((try simp -implicitDefEqProofs [hg, hg0, hg1, hle, hdr, hft']); repeat' first | ((first | with_reducible refine gdK_em (fun hc => ?_) (fun hc => ?_) | with_reducible refine cdK_em (fun hc => ?_) (fun hc => ?_) | with_reducible refine pickK_em (fun hc => ?_) (fun hc => ?_)) <;> (have hc' := hc; (try simp at hc'); simp -implicitDefEqProofs [hc, hc', hg, hg0, hg1, hle, hdr, hft'])))
    · have hft' : decide (to < fr) = false := by simpa using hft
      cases pair
      · have hi : Xp.inf (fun s => decide (s ∈ M)) false (.mk 22 vl fr to nm []) = (0, 7) := by simp [Xp.inf, Xp.infs, finI, ownI, hft]
        rw [hi]
        refine ⟨fun h => absurd h (by simp), fun _ => ?_⟩
        (refine FnP.of_code mix Tryd.call60 k_60 (by simp) (fun hB => ?_); (try simp at hB); (try simp -implicitDefEqProofs [c_check_checker__expr_60]))
        ((try simp -implicitDefEqProofs [hg, hg0, hg1, hle, hdr, hft']); repeat' first | ((first | with_reducible refine gdK_em (fun hc => ?_) (fun hc => ?_) | with_reducible refine cdK_em (fun hc => ?_) (fun hc => ?_) | with_reducible refine pickK_em (fun hc => ?_) (fun hc => ?_)) <;> (have hc' := hc; (try simp at hc'); simp -implicitDefEqProofs [hc, hc', hg, hg0, hg1, hle, hdr, hft'])))
      · have hi : Xp.inf (fun s => decide (s ∈ M)) true (.mk 22 vl fr to nm []) = (1, 0) := by simp [Xp.inf, Xp.infs, finI, ownI, hft]
        rw [hi]
        refine ⟨fun _ => ?_, fun h => absurd rfl h⟩
        (refine FnS.of_code mix Tryd.call60 k_60 (by simp) (fun hB => ?_); (try simp at hB); (try simp -implicitDefEqProofs [c_check_checker__expr_60]))
        ((try simp -implicitDefEqProofs [hg, hg0, hg1, hle, hdr, hft']); repeat' first | ((first | with_reducible refine gdK_em (fun hc => ?_) (fun hc => ?_) | with_reducible refine cdK_em (fun hc => ?_) (fun hc => ?_) | with_reducible refine pickK_em (fun hc => ?_) (fun hc => ?_)) <;> (have hc' := hc; (try simp at hc'); simp -implicitDefEqProofs [hc, hc', hg, hg0, hg1, hle, hdr, hft'])))
/-- The checker gives a proper expression its type, or panics with its error. -/
theorem w_expr (b : Nat) (M : List (List UInt8)) (pair : Bool) : ∀ (x : Xp), x.prop = true → ExpC b M pair x := by
  refine Xp.ind fun kd vl fr to nm xs ih hp => ?_
  rw [Xp.prop, Bool.and_eq_true] at hp
  obtain ⟨hs, hps⟩ := hp
  have hmem : ∀ a ∈ xs, ExpC b M pair a := fun a ha => ih a ha (by
    rw [Xp.props_all] at hps
    simp only [Bool.not_eq_true', List.any_eq_false] at hps
    simpa using hps a ha)
  have hnil : argsI kd = 0 → xs = [] := fun h => by
    simp only [shpB, Bool.and_eq_true, beq_iff_eq, h] at hs
    exact List.length_eq_zero_iff.1 (by have := hs.1.2; omega)
  by_cases h2 : kd = 2
  · have := hnil (by subst h2; rfl)
    subst h2
    exact w_exprN b M pair vl fr to nm xs this
  by_cases hk : kd = 1 ∨ kd = 21 ∨ kd = 22
  · have := hnil (by rcases hk with rfl | rfl | rfl <;> rfl)
    subst this
    exact w_exprL b M pair kd vl fr to nm hk
  · exact w_exprO b M pair kd vl fr to nm xs hmem ⟨fun h => hk (.inl h), h2, fun h => hk (.inr (.inl h)), fun h => hk (.inr (.inr h))⟩
end Go.Proofs.YtckffbklaepmpaaDoor
end
