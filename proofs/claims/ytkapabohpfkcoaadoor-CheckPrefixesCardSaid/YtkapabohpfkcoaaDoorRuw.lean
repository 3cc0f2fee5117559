/- Chapter 33: the checker's rules. -/
import Derived.Test.YtkapabohpfkcoaaDoorRul
import Derived.Test.YtkapabohpfkcoaaDoorSyf
set_option linter.unusedSimpArgs false
set_option linter.unusedVariables false
set_option maxHeartbeats 4000000
set_option maxRecDepth 8000
namespace Go.Proofs.YtkapabohpfkcoaaDoor
open E

theorem stmB_of {s : Stm} (h : stmB s = true) : s.ex.prop = true ∧ (s.kind = 1 ∨ s.kind = 2 ∨ s.kind = 3) := by
  unfold stmB shdB at h
  simp only [Bool.and_eq_true] at h
  refine ⟨h.2, ?_⟩
  have h1 := h.1.1
  by_cases a : s.kind = 1
  · exact .inl a
  rw [if_neg a] at h1
  by_cases b : s.kind = 2
  · exact .inr (.inl b)
  rw [if_neg b] at h1
  by_cases c : s.kind = 3
  · exact .inr (.inr c)
  rw [if_neg c] at h1
  cases h1
theorem namesOf_len (ss : List Stm) : (namesOf ss).length ≤ ss.length := by
  unfold namesOf; rw [List.length_map]; exact List.length_filter_le _ _
theorem w_rule (r : Rul) (l : List Account) (hr : rulB r = true) : Pure Tryd.prog 69 [r.v, Account.l l] (vI (rulE (knownB l) r)) := by
  obtain ⟨nm, pair, ss, to⟩ := r
  unfold rulB at hr
  simp only [Bool.and_eq_true, decide_eq_true_eq, List.all_eq_true] at hr
  obtain ⟨⟨⟨hnm, hss⟩, hto⟩, hst⟩ := hr
  generalize hE : rulE (knownB l) ⟨nm, pair, ss, to⟩ = E
  unfold rulE at hE
  simp only [] at hE
  have hrc : Rul.c ⟨nm, pair, ss, to⟩ = [T.str nm, T.bool pair, T.sl (ss.map Stm.c), T.int .i64 to] := rfl
  show FnS _ _ _ _ _ _
  (refine FnS.of_codeD mix Tryd.call69 kd_69 (by simp) (fun hB => ?_); (try simp at hB); (try simp -implicitDefEqProofs))
  ((try simp -implicitDefEqProofs [hrc]); repeat' first | ((first | with_reducible refine gdK_em (fun hc => ?_) (fun hc => ?_) | with_reducible refine cdK_em (fun hc => ?_) (fun hc => ?_) | with_reducible refine pickK_em (fun hc => ?_) (fun hc => ?_)) <;> (have hc' := hc; (try simp at hc'); simp -implicitDefEqProofs [hc, hc', hrc])))
  refine loop_rule (X := Nat) (fun k => k ≤ ss.length ∧ stmsE (knownB l) pair (namesOf (ss.take k)) (ss.drop k) = stmsE (knownB l) pair [] ss) (fun k => [(1, Account.l l), (2, .ptr 0 0), (4, .ptr 1 0), (5, .ptr 3 0), (14, Stm.l ss), (15, vI ss.length), (16, vI k)])
    (fun k => ⟨[.cells [vS nm, vB pair, Stm.l ss, vI to], .cells [vI 0], .mp (mS boolX (setOf (namesOf (ss.take k)))), .cells [.mp 2, vB pair]], []⟩) (fun k => ss.length - k) 0 ⟨by simp, by simp [namesOf]⟩ ?_ ?_
  · simp [namesOf, setOf]
  rintro k ⟨hk, hi⟩ hbd
  clear hbd
  have hbt := hlds_rule [T.str nm, T.bool pair, T.sl (ss.map Stm.c), T.int .i64 to] (namesOf (ss.take k)) pair
  rcases Nat.lt_or_ge k ss.length with h | h
  · have hx : ss[k]? = some ss[k] := by simp [h]
    have e3 : IntKind.i64.wrap ((k : Int) + 1) = (k : Int) + 1 := wrap64 (by omega) (by omega)
    have hn := namesOf_next hx
    rw [stmsE_at hx] at hi
    obtain ⟨hp, hkd⟩ := stmB_of (hst _ (List.getElem_mem h))
    have hlen : (namesOf (ss.take k)).length ≤ 1000 := by
      have := namesOf_len (ss.take k)
      simp at this; omega
    have q0 := w_stmtOk [T.str nm, T.bool pair, T.sl (ss.map Stm.c), T.int .i64 to] (namesOf (ss.take k)) pair ss[k] l hp hlen hkd
    have q1 := w_stmtPan [T.str nm, T.bool pair, T.sl (ss.map Stm.c), T.int .i64 to] (namesOf (ss.take k)) pair ss[k] l hp hlen hkd
    rw [← hn] at q0
    generalize hs : ss[k] = s at *
    generalize stmE (knownB l) (memB (namesOf (ss.take k))) pair s = e at *
    have hlc := len_sc s
    have htc := take_sc s
    simp only [List.map_cons, List.map_nil] at q0 q1
    by_cases he : e = 0
    · rw [if_neg (by simpa using he)] at hi
      have q := q0 he
      ((try simp -implicitDefEqProofs [h, hs, hlc, htc, e3]); repeat' first | ((first | with_reducible refine gdK_em (fun hc => ?_) (fun hc => ?_) | with_reducible refine cdK_em (fun hc => ?_) (fun hc => ?_) | with_reducible refine pickK_em (fun hc => ?_) (fun hc => ?_)) <;> (have hc' := hc; (try simp at hc'); simp -implicitDefEqProofs [hc, hc', h, hs, hlc, htc, e3])))
      refine callK_fn q (fun hd => by cases hd) ?_
      ((try simp -implicitDefEqProofs [h, hs, hlc, htc, e3]); repeat' first | ((first | with_reducible refine gdK_em (fun hc => ?_) (fun hc => ?_) | with_reducible refine cdK_em (fun hc => ?_) (fun hc => ?_) | with_reducible refine pickK_em (fun hc => ?_) (fun hc => ?_)) <;> (have hc' := hc; (try simp at hc'); simp -implicitDefEqProofs [hc, hc', h, hs, hlc, htc, e3])))
      exact ⟨k + 1, ⟨by omega, by rw [hn]; exact hi⟩, by omega, ⟨rfl, okNs_all (fun v hv => by obtain ⟨p, _, rfl⟩ := List.mem_map.1 hv; rfl), okNs_all (fun v hv => by obtain ⟨p, _, rfl⟩ := List.mem_map.1 hv; rfl)⟩, by push_cast; rfl⟩
    · rw [if_pos he] at hi
      have q := q1 he
      ((try simp -implicitDefEqProofs [h, hs, hlc, htc, e3]); repeat' first | ((first | with_reducible refine gdK_em (fun hc => ?_) (fun hc => ?_) | with_reducible refine cdK_em (fun hc => ?_) (fun hc => ?_) | with_reducible refine pickK_em (fun hc => ?_) (fun hc => ?_)) <;> (have hc' := hc; (try simp at hc'); simp -implicitDefEqProofs [hc, hc', h, hs, hlc, htc, e3])))
      refine callK_pan q ?_
      ((try simp -implicitDefEqProofs [h, hs, hlc, htc, e3]); repeat' first | ((first | with_reducible refine gdK_em (fun hc => ?_) (fun hc => ?_) | with_reducible refine cdK_em (fun hc => ?_) (fun hc => ?_) | with_reducible refine pickK_em (fun hc => ?_) (fun hc => ?_)) <;> (have hc' := hc; (try simp at hc'); simp -implicitDefEqProofs [hc, hc', h, hs, hlc, htc, e3])))
      refine ⟨_, DefP.of_rec Tryd.call98 (by kernel_rfl) (w_settle1 1 _ 0 _ rfl ?_), ?_⟩
      · intro n m hn
        have hq := (hbt [.cells (s.c.map V.t)] (fun n m _ => le_cells _ n m)).le n m (by simpa using hn)
        exact ⟨hq.1, ⟨LeL_refl _, by simp [okNs, okN]⟩, hq.2.2⟩
      · rw [← hi, if_pos he] at hE
        simp [hE]
  · have : k = ss.length := by omega
    subst this
    rw [List.drop_length, stmsE] at hi
    rw [← hi, if_neg (by simp)] at hE
    rw [List.take_length] at hbt
    have hH := hbt [] (fun _ _ _ => trivial)
    have ha := w_acct 2 (namesOf ss) pair to l _ hH
    simp only [List.map_cons, List.map_nil] at ha hH
    ((try simp -implicitDefEqProofs [h]); repeat' first | ((first | with_reducible refine gdK_em (fun hc => ?_) (fun hc => ?_) | with_reducible refine cdK_em (fun hc => ?_) (fun hc => ?_) | with_reducible refine pickK_em (fun hc => ?_) (fun hc => ?_)) <;> (have hc' := hc; (try simp at hc'); simp -implicitDefEqProofs [hc, hc', h])))
    cases hkn : knownB l to
    · rw [hkn, if_neg (by simp)] at hE
      refine callK_pan (ha.2 hkn) ?_
      ((try simp -implicitDefEqProofs); repeat' first | ((first | with_reducible refine gdK_em (fun hc => ?_) (fun hc => ?_) | with_reducible refine cdK_em (fun hc => ?_) (fun hc => ?_) | with_reducible refine pickK_em (fun hc => ?_) (fun hc => ?_)) <;> (have hc' := hc; (try simp at hc'); simp -implicitDefEqProofs [hc, hc'])))
      refine ⟨_, DefP.of_rec Tryd.call98 (by kernel_rfl) (w_settle1 1 _ 0 _ rfl ?_), ?_⟩
      · intro n m hn
        have hq := hH.le n m (by simpa using hn)
        exact ⟨hq.1, ⟨LeL_refl _, by simp [okNs, okN]⟩, hq.2.2⟩
      · simp [← hE]
    · rw [hkn, if_pos rfl] at hE
      refine callK_fn (ha.1 hkn) (fun hd => by cases hd) ?_
      ((try simp -implicitDefEqProofs); repeat' first | ((first | with_reducible refine gdK_em (fun hc => ?_) (fun hc => ?_) | with_reducible refine cdK_em (fun hc => ?_) (fun hc => ?_) | with_reducible refine pickK_em (fun hc => ?_) (fun hc => ?_)) <;> (have hc' := hc; (try simp at hc'); simp -implicitDefEqProofs [hc, hc'])))
      refine ⟨_, DefR.of_rec Tryd.call98 (by kernel_rfl) (w_settle0 1 _ hH.le), ?_⟩
      simp [← hE]
end Go.Proofs.YtkapabohpfkcoaaDoor
