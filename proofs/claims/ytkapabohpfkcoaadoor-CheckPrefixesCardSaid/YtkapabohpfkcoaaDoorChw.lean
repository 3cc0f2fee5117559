/- Chapter 33: check.Check. -/
import Derived.Test.YtkapabohpfkcoaaDoorRuw
set_option linter.unusedSimpArgs false
set_option linter.unusedVariables false
set_option maxHeartbeats 4000000
set_option maxRecDepth 8000
namespace Go.Proofs.YtkapabohpfkcoaaDoor
open E

theorem w_Check (p : List Rul) (l : List Account) (hc : ∀ r ∈ p, ∀ s ∈ r.stmts, s.ex.cnt ≤ 100000) (hl : l.length ≤ 1000000) :
    Pure Tryd.prog 34 [Rul.l p, Account.l l] (.tup [vI (chkR p l).1, vI (chkR p l).2]) := by
  generalize hR : V.tup [vI (chkR p l).1, vI (chkR p l).2] = R
  unfold chkR at hR
  have hv := w_Valid p hc
  have hcv := Cht.w_cValid l true hl
  rw [Cht.valid_agree] at hcv
  by_cases h1 : prgB p = true
  case neg =>
    rw [if_neg (fun h => h1 h.1)] at hR
    subst hR
    rw [Bool.not_eq_true] at h1
    rw [h1] at hv
    (refine Pure.of_code mix Tryd.call34 k_34 (by simp) (fun hB => ?_); (try simp at hB); (try simp -implicitDefEqProofs [c_check_Check_34]))
    ((try simp at hv); (try simp -implicitDefEqProofs); repeat' first | ((first | with_reducible refine gdK_em (fun hc => ?_) (fun hc => ?_) | with_reducible refine cdK_em (fun hc => ?_) (fun hc => ?_) | with_reducible refine pickK_em (fun hc => ?_) (fun hc => ?_)) <;> (have hc' := hc; (try simp at hc'); simp -implicitDefEqProofs [hc, hc'])) | (with_reducible apply callK_pure <;> first | (simp only [eras, era, eras_map]; first | with_reducible exact hv | simpa using hv) | (simp -implicitDefEqProofs)))
  by_cases h2 : Cht.validR l true = true
  case neg =>
    rw [if_neg (fun h => h2 h.2)] at hR
    subst hR
    rw [Bool.not_eq_true] at h2
    rw [h1] at hv
    rw [h2] at hcv
    (refine Pure.of_code mix Tryd.call34 k_34 (by simp) (fun hB => ?_); (try simp at hB); (try simp -implicitDefEqProofs [c_check_Check_34]))
    ((try simp at hv); (try simp at hcv); (try simp -implicitDefEqProofs); repeat' first | ((first | with_reducible refine gdK_em (fun hc => ?_) (fun hc => ?_) | with_reducible refine cdK_em (fun hc => ?_) (fun hc => ?_) | with_reducible refine pickK_em (fun hc => ?_) (fun hc => ?_)) <;> (have hc' := hc; (try simp at hc'); simp -implicitDefEqProofs [hc, hc'])) | (with_reducible apply callK_pure <;> first | (simp only [eras, era, eras_map]; first | with_reducible exact hv | with_reducible exact hcv | simpa using hv | simpa using hcv) | (simp -implicitDefEqProofs)))
  rw [if_pos ⟨h1, h2⟩] at hR
  rw [h2] at hcv
  have h3 := h1
  rw [h1] at hv
  unfold prgB at h3
  simp only [Bool.and_eq_true, decide_eq_true_eq, List.all_eq_true] at h3
  obtain ⟨hrs, hpl⟩ := h3
  (refine Pure.of_code mix Tryd.call34 k_34 (by simp) (fun hB => ?_); (try simp at hB); (try simp -implicitDefEqProofs [c_check_Check_34]))
  ((try simp at hv); (try simp at hcv); (try simp -implicitDefEqProofs); repeat' first | ((first | with_reducible refine gdK_em (fun hc => ?_) (fun hc => ?_) | with_reducible refine cdK_em (fun hc => ?_) (fun hc => ?_) | with_reducible refine pickK_em (fun hc => ?_) (fun hc => ?_)) <;> (have hc' := hc; (try simp at hc'); simp -implicitDefEqProofs [hc, hc'])) | (with_reducible apply callK_pure <;> first | (simp only [eras, era, eras_map]; first | with_reducible exact hv | with_reducible exact hcv | simpa using hv | simpa using hcv) | (simp -implicitDefEqProofs)))
  refine loop_rule (X := Nat) (fun k => k ≤ p.length ∧ rulsE (knownB l) ((p.map (·.name)).take k) k (p.drop k) = rulsE (knownB l) [] 0 p) (fun k => [(1, Account.l l), (6, .mp 0), (19, Rul.l p), (20, vI p.length), (21, vI k)])
    (fun k => ⟨[.mp (mS boolX (setOf ((p.map (·.name)).take k)))], []⟩) (fun k => p.length - k) 0 ⟨by simp, by simp⟩ (by simp [setOf]) ?_
  rintro k ⟨hk, hi⟩ hbd
  clear hbd
  rcases Nat.lt_or_ge k p.length with h | h
  · have hx : p[k]? = some p[k] := by simp [h]
    have e3 : IntKind.i64.wrap ((k : Int) + 1) = (k : Int) + 1 := wrap64 (by omega) (by omega)
    rw [rulsE_at hx] at hi
    have hrule := w_rule p[k] l (hrs _ (List.getElem_mem h))
    have htk := take_next hx
    have hN : (p.map (·.name)).take (k + 1) = (p.map (·.name)).take k ++ [p[k].name] := take_next (by simp [h])
    have hlen : ((p.map (·.name)).take k).length ≤ 1000 := by simp; omega
    obtain ⟨nm, pr, ss, to, hr⟩ : ∃ nm pr ss to, p[k] = ⟨nm, pr, ss, to⟩ := ⟨_, _, _, _, rfl⟩
    have hrk : (p.map Rul.c)[k]? = some [.str nm, .bool pr, .sl (ss.map Stm.c), .int .i64 to] := by simp [h, hr, Rul.c]
    have hcc : p[k].c = [.str nm, .bool pr, .sl (ss.map Stm.c), .int .i64 to] := by rw [hr]; rfl
    rw [hr] at hrule hi hN
    generalize hE : rulE (knownB l) ⟨nm, pr, ss, to⟩ = E at *
    simp only [Rul.v, Rul.c, List.map] at hrule hN
    simp only [] at hi
    generalize hM : (p.map (·.name)).take k = M at *
    have hfm := findM_S boolX nm (setOf M)
    rw [aget_setOf] at hfm
    have hsm := setM_S boolX nm true (setOf M)
    by_cases hin : nm ∈ M
    · rw [if_pos hin] at hfm hi
      rw [← hi] at hR
      subst hR
      ((try simp -implicitDefEqProofs [h, hrk, hcc, hfm]); repeat' first | ((first | with_reducible refine gdK_em (fun hc => ?_) (fun hc => ?_) | with_reducible refine cdK_em (fun hc => ?_) (fun hc => ?_) | with_reducible refine pickK_em (fun hc => ?_) (fun hc => ?_)) <;> (have hc' := hc; (try simp at hc'); simp -implicitDefEqProofs [hc, hc', h, hrk, hcc, hfm])))
    · rw [if_neg hin] at hfm hi
      rw [aset_setOf hin] at hsm
      by_cases he : E = 0
      · rw [if_neg (by simpa using he)] at hi
        subst he
        ((try simp -implicitDefEqProofs [h, hrk, hcc, hfm, hsm, e3]); repeat' first | ((first | with_reducible refine gdK_em (fun hc => ?_) (fun hc => ?_) | with_reducible refine cdK_em (fun hc => ?_) (fun hc => ?_) | with_reducible refine pickK_em (fun hc => ?_) (fun hc => ?_)) <;> (have hc' := hc; (try simp at hc'); simp -implicitDefEqProofs [hc, hc', h, hrk, hcc, hfm, hsm, e3])))
        refine ⟨by unfold maxLen; omega, ?_⟩
        ((try simp at hrule); (try simp -implicitDefEqProofs [h, hrk, hcc, hfm, hsm, e3]); repeat' first | ((first | with_reducible refine gdK_em (fun hc => ?_) (fun hc => ?_) | with_reducible refine cdK_em (fun hc => ?_) (fun hc => ?_) | with_reducible refine pickK_em (fun hc => ?_) (fun hc => ?_)) <;> (have hc' := hc; (try simp at hc'); simp -implicitDefEqProofs [hc, hc', h, hrk, hcc, hfm, hsm, e3])) | (with_reducible apply callK_pure <;> first | (simp only [eras, era, eras_map]; first | with_reducible exact hrule | simpa using hrule) | (simp -implicitDefEqProofs [h, hrk, hcc, hfm, hsm, e3])))
        exact ⟨k + 1, ⟨by omega, by rw [hN]; exact hi⟩, by omega, ⟨by rw [hN], okNs_all (fun v hv => by obtain ⟨p, _, rfl⟩ := List.mem_map.1 hv; rfl), okNs_all (fun v hv => by obtain ⟨p, _, rfl⟩ := List.mem_map.1 hv; rfl)⟩, by push_cast; rfl⟩
      · rw [if_pos he] at hi
        rw [← hi] at hR
        subst hR
        have he' : (E == 0) = false := by simpa using he
        have he2 : (E != 0) = true := by simpa using he
        ((try simp -implicitDefEqProofs [h, hrk, hcc, hfm, hsm, e3]); repeat' first | ((first | with_reducible refine gdK_em (fun hc => ?_) (fun hc => ?_) | with_reducible refine cdK_em (fun hc => ?_) (fun hc => ?_) | with_reducible refine pickK_em (fun hc => ?_) (fun hc => ?_)) <;> (have hc' := hc; (try simp at hc'); simp -implicitDefEqProofs [hc, hc', h, hrk, hcc, hfm, hsm, e3])))
        refine ⟨by unfold maxLen; omega, ?_⟩
        ((try simp at hrule); (try simp -implicitDefEqProofs [h, hrk, hcc, hfm, hsm, e3, he, he', he2]); repeat' first | ((first | with_reducible refine gdK_em (fun hc => ?_) (fun hc => ?_) | with_reducible refine cdK_em (fun hc => ?_) (fun hc => ?_) | with_reducible refine pickK_em (fun hc => ?_) (fun hc => ?_)) <;> (have hc' := hc; (try simp at hc'); simp -implicitDefEqProofs [hc, hc', h, hrk, hcc, hfm, hsm, e3, he, he', he2])) | (with_reducible apply callK_pure <;> first | (simp only [eras, era, eras_map]; first | with_reducible exact hrule | simpa using hrule) | (simp -implicitDefEqProofs [h, hrk, hcc, hfm, hsm, e3, he, he', he2])))
  · have : k = p.length := by omega
    subst this
    rw [List.drop_length, rulsE] at hi
    rw [← hi] at hR
    subst hR
    ((try simp -implicitDefEqProofs [h]); repeat' first | ((first | with_reducible refine gdK_em (fun hc => ?_) (fun hc => ?_) | with_reducible refine cdK_em (fun hc => ?_) (fun hc => ?_) | with_reducible refine pickK_em (fun hc => ?_) (fun hc => ?_)) <;> (have hc' := hc; (try simp at hc'); simp -implicitDefEqProofs [hc, hc', h])))
    trace_state
end Go.Proofs.YtkapabohpfkcoaaDoor
