/- Chapter 32: the law SyntaxSame. -/
import Derived.Test.YtpggidmbnjfmaaaDoorPaw
import Derived.Test.YtpggidmbnjfmaaaDoorPsq
import Derived.Test.YtpggidmbnjfmaaaDoorRsm
import Derived.Test.YtpggidmbnjfmaaaDoorPrg
import Derived.Test.YtpggidmbnjfmaaaDoorSyg
import Derived.Test.YtpggidmbnjfmaaaDoorXp
set_option linter.unusedSimpArgs false
set_option linter.unusedVariables false
set_option maxHeartbeats 4000000
set_option maxRecDepth 8000
namespace Go.Proofs.YtpggidmbnjfmaaaDoor
open E

theorem fewO_sm {p : List Rul} (h : fewB p = true) : p.length ≤ 50 ∧ (∀ r ∈ p, r.stmts.length ≤ 40) ∧ ∀ r ∈ p, ∀ s ∈ r.stmts, s.ex.cnt ≤ 200 := by
 unfold fewB fewR fewS at h
 simp only [Bool.and_eq_true, List.all_eq_true, decide_eq_true_eq] at h
 exact ⟨h.2, fun r hr => (h.1 r hr).1.2, fun r hr s hs => ((h.1 r hr).2 s hs).2⟩
theorem few_x (x : Xp) : fewB [⟨[], false, [⟨0, 0, [], x⟩], 0⟩] = decide (x.cnt ≤ 200) := by
 simp [fewB, fewR, fewS]
theorem l_same (p q : List Rul) (x : Xp) : Pure Tryd.prog 4 [Rul.l p, Rul.l q, x.v] (vB true) := by
 have ha := w_awake32
 have f1 := w_Few p
 have f2 := w_Few q
 have f3 := w_Few [⟨[], false, [⟨0, 0, [], x⟩], 0⟩]
 rw [few_x] at f3
 have e3 : Rul.l [⟨[], false, [⟨0, 0, [], x⟩], 0⟩] = .t (.sl [[.str [], .bool false, .sl [.int .i64 0 :: .int .i64 0 :: .str [] :: x.c], .int .i64 0]]) := rfl
 rw [e3] at f3
 have hlx := len_c x
 have htx := take_c x
 cases h1 : fewB p
 ·rw [h1] at f1
  (refine Pure.of_code mix Tryd.call4 k_4 (by simp) (fun hB => ?_); (try simp at hB); (try simp -implicitDefEqProofs [c_tallystonelaw32_SyntaxSame_4]))
  ((try simp at ha); (try simp at f1); (try simp -implicitDefEqProofs); repeat' first | (with_reducible apply callK_pure <;> first | (simp only [eras, era, eras_map]; first | with_reducible exact ha | with_reducible exact f1 | simpa using ha | simpa using f1) | (simp -implicitDefEqProofs)))
 cases h2 : fewB q
 ·rw [h1] at f1
  rw [h2] at f2
  (refine Pure.of_code mix Tryd.call4 k_4 (by simp) (fun hB => ?_); (try simp at hB); (try simp -implicitDefEqProofs [c_tallystonelaw32_SyntaxSame_4]))
  ((try simp at ha); (try simp at f1); (try simp at f2); (try simp -implicitDefEqProofs); repeat' first | (with_reducible apply callK_pure <;> first | (simp only [eras, era, eras_map]; first | with_reducible exact ha | with_reducible exact f1 | with_reducible exact f2 | simpa using ha | simpa using f1 | simpa using f2) | (simp -implicitDefEqProofs)))
 rw [h1] at f1
 rw [h2] at f2
 by_cases h3 : x.cnt ≤ 200
 ·rw [decide_eq_true h3] at f3
  obtain ⟨a, b, c⟩ := fewO_sm h1
  obtain ⟨a', b', c'⟩ := fewO_sm h2
  have hp := w_prog32 p (by omega) (fun r hr => by have := b r hr; omega) (fun r hr s hs => by have := c r hr s hs; omega)
  have hq := w_prog32 q (by omega) (fun r hr => by have := b' r hr; omega) (fun r hr s hs => by have := c' r hr s hs; omega)
  have s1 := w_Same p q
  have s2 := w_rSame p q (fun r hr => by have := b r hr; omega) (fun r hr s hs => by have := c r hr s hs; omega)
  have s3 := w_Same p p
  rw [eqv_self] at s3
  have o1 := w_own32 x (by omega)
  have d1 := w_Depth x (by omega)
  have d2 := w_DepthR x (by omega)
  generalize eqv p q = E at *
  cases E
  all_goals
   (refine Pure.of_code mix Tryd.call4 k_4 (by simp) (fun hB => ?_); (try simp at hB); (try simp -implicitDefEqProofs [c_tallystonelaw32_SyntaxSame_4]))
   ((try simp at ha); (try simp at f1); (try simp at f2); (try simp at f3); (try simp at hp); (try simp at hq); (try simp at s1); (try simp at s2); (try simp at s3); (try simp at o1); (try simp at d1); (try simp at d2); (try simp -implicitDefEqProofs [hlx, htx]); repeat' first | (with_reducible apply callK_pure <;> first | (simp only [eras, era, eras_map]; first | with_reducible exact ha | with_reducible exact f1 | with_reducible exact f2 | with_reducible exact f3 | with_reducible exact hp | with_reducible exact hq | with_reducible exact s1 | with_reducible exact s2 | with_reducible exact s3 | with_reducible exact o1 | with_reducible exact d1 | with_reducible exact d2 | simpa using ha | simpa using f1 | simpa using f2 | simpa using f3 | simpa using hp | simpa using hq | simpa using s1 | simpa using s2 | simpa using s3 | simpa using o1 | simpa using d1 | simpa using d2) | (simp -implicitDefEqProofs [hlx, htx])))
 ·rw [decide_eq_false h3] at f3
  (refine Pure.of_code mix Tryd.call4 k_4 (by simp) (fun hB => ?_); (try simp at hB); (try simp -implicitDefEqProofs [c_tallystonelaw32_SyntaxSame_4]))
  ((try simp at ha); (try simp at f1); (try simp at f2); (try simp at f3); (try simp -implicitDefEqProofs [hlx, htx]); repeat' first | (with_reducible apply callK_pure <;> first | (simp only [eras, era, eras_map]; first | with_reducible exact ha | with_reducible exact f1 | with_reducible exact f2 | with_reducible exact f3 | simpa using ha | simpa using f1 | simpa using f2 | simpa using f3) | (simp -implicitDefEqProofs [hlx, htx])))
end Go.Proofs.YtpggidmbnjfmaaaDoor
