/- Chapter 32: small functions of both sides. -/
import Derived.Test.YtkapabohpfkcoaaDoorNam
import Derived.Test.YtkapabohpfkcoaaDoorXp
set_option linter.unusedSimpArgs false
set_option linter.unusedVariables false
set_option maxHeartbeats 2000000
set_option maxRecDepth 8000
namespace Go.Proofs.YtkapabohpfkcoaaDoor
open E

theorem w_In (l : List (List UInt8)) (s : List UInt8) : Pure Tryd.prog 37 [vSL l, vS s] (vB (inS l s)) := by
  generalize hR : vB (inS l s) = R
  (refine Pure.of_code mix Tryd.call37 k_37 (by simp) (fun hB => ?_); (try simp at hB); (try simp -implicitDefEqProofs [c_tallystoneref31_In_37]))
  refine loop_rule (X := Nat) (fun k => k ≤ l.length ∧ ∀ y ∈ l.take k, ¬ y = s) (fun k => [(0, vSL l), (1, vS s), (5, vI k)]) (fun _ => St0) (fun k => l.length - k) 0 ⟨by simp, by simp⟩ (by simp) ?_
  rintro k ⟨hk, hn⟩ hbd
  rcases Nat.lt_or_ge k l.length with hlt | hge
  · have hx : l[k]? = some l[k] := by simp [hlt]
    have e3 : IntKind.i64.wrap ((k : Int) + 1) = (k : Int) + 1 := wrap64 (by omega) (by simp [maxLen] at hB; omega)
    by_cases hq : l[k] = s
    · have hb : inS l s = true := by simp only [inS, List.any_eq_true]; exact ⟨l[k], List.getElem_mem hlt, by simpa using hq⟩
      rw [hb] at hR
      subst hR
      have hq' : (l[k] == s) = true := by simpa using hq
      ((try simp -implicitDefEqProofs [hlt, hq', e3]); repeat' first | ((first | with_reducible refine gdK_em (fun hc => ?_) (fun hc => ?_) | with_reducible refine cdK_em (fun hc => ?_) (fun hc => ?_) | with_reducible refine pickK_em (fun hc => ?_) (fun hc => ?_)) <;> (have hc' := hc; (try simp at hc'); simp -implicitDefEqProofs [hc, hc', hlt, hq', e3])))
    · have hq' : (l[k] == s) = false := by simpa using hq
      ((try simp -implicitDefEqProofs [hlt, hq', e3]); repeat' first | ((first | with_reducible refine gdK_em (fun hc => ?_) (fun hc => ?_) | with_reducible refine cdK_em (fun hc => ?_) (fun hc => ?_) | with_reducible refine pickK_em (fun hc => ?_) (fun hc => ?_)) <;> (have hc' := hc; (try simp at hc'); simp -implicitDefEqProofs [hc, hc', hlt, hq', e3])))
      refine ⟨k + 1, ⟨by omega, fun y hy => ?_⟩, by omega, by push_cast; rfl⟩
      rw [take_next hx] at hy
      rcases List.mem_append.1 hy with h1 | h1
      · exact hn y h1
      · simp at h1; subst h1; exact hq
  · have : k = l.length := by omega
    subst this
    rw [List.take_length] at hn
    have hb : inS l s = false := by
      cases h : inS l s
      · rfl
      · simp only [inS, List.any_eq_true, decide_eq_true_eq] at h
        obtain ⟨y, h1, h2⟩ := h
        exact absurd h2 (hn y h1)
    rw [hb] at hR
    subst hR
    ((try simp -implicitDefEqProofs); repeat' first | ((first | with_reducible refine gdK_em (fun hc => ?_) (fun hc => ?_) | with_reducible refine cdK_em (fun hc => ?_) (fun hc => ?_) | with_reducible refine pickK_em (fun hc => ?_) (fun hc => ?_)) <;> (have hc' := hc; (try simp at hc'); simp -implicitDefEqProofs [hc, hc'])))
theorem w_kwR (s : List UInt8) : Pure Tryd.prog 104 [vS s] (vB (kwB s)) := by
  have h := w_In kwL s
  have e : inS kwL s = kwB s := by
    unfold inS kwB
    generalize kwL = l
    induction l with
    | nil => rfl
    | cons x l ih =>
      rw [List.any_cons, ih, List.contains_cons]
      congr 1
      by_cases hx : x = s
      · subst hx; simp
      · have : ¬ s = x := fun h => hx h.symm
        simp [hx, this]
  rw [e] at h
  unfold kwL at h
  simp only [vSL, List.map] at h
  generalize kwB s = b at *
  (refine Pure.of_code mix Tryd.call104 k_104 (by simp) (fun hB => ?_); (try simp at hB); (try simp -implicitDefEqProofs [c_tallystoneref31_Keyword_104]))
  ((try simp at h); (try simp -implicitDefEqProofs); repeat' first | ((first | with_reducible refine gdK_em (fun hc => ?_) (fun hc => ?_) | with_reducible refine cdK_em (fun hc => ?_) (fun hc => ?_) | with_reducible refine pickK_em (fun hc => ?_) (fun hc => ?_)) <;> (have hc' := hc; (try simp at hc'); simp -implicitDefEqProofs [hc, hc'])) | (with_reducible apply callK_pure <;> first | (simp only [eras, era, eras_map]; first | with_reducible exact h | simpa using h) | (simp -implicitDefEqProofs)))
/-- The bytes before k are as in a name. -/
theorem w_nameR (s : List UInt8) (hs : s.length ≤ maxLen) : Pure Tryd.prog 73 [vS s] (vB (nameB s)) := by
  have hkw := w_kwR s
  unfold nameB
  generalize kwB s = kw at *
  generalize hR : vB (nfB s && !kw) = R
  have hrun := runR_at nmcI s
  have hhd : byteAt s 0 = headI s ∨ s = [] := by rcases s with _ | ⟨c, s⟩; exact .inr rfl; exact .inl rfl
  have hrl := runR_le nmcI s
  (refine Pure.of_code mix Tryd.call73 k_73 (by simp) (fun hB => ?_); (try simp at hB); (try simp -implicitDefEqProofs [c_tallystoneref32_name_73]))
  refine loop_rule (X := Nat) (fun k => k ≤ s.length ∧ (∀ j : Nat, j < k → nmcI (byteAt s j) = true) ∧ (1 ≤ k → ltrI (byteAt s 0) = true)) (fun k => [(0, vS s), (3, vI k)]) (fun _ => St0) (fun k => s.length - k) 0 ⟨by simp, fun j hj => by omega, fun h => by omega⟩ (by simp) ?_
  rintro k ⟨hk, hn, hl⟩ hbd
  clear hbd
  rcases Nat.lt_or_ge k s.length with h | h
  · have e3 : IntKind.i64.wrap ((k : Int) + 1) = (k : Int) + 1 := wrap64 (by omega) (by simp [maxLen] at hs; omega)
    have hne : ¬ s = [] := by rintro rfl; simp at h
    have hhd := hhd.resolve_right hne
    by_cases hk0 : k = 0
    · subst hk0
      have hc0 : (((0 : Nat) : Int) == 0) = true := rfl
      have hb : byteAt s ((0 : Nat) : Int) = byteAt s 0 := rfl
      by_cases c1 : 97 ≤ byteAt s 0
      · by_cases c2 : byteAt s 0 ≤ 122
        · ((try simp -implicitDefEqProofs [h, e3, c1, c2]); repeat' first | ((first | with_reducible refine gdK_em (fun hc => ?_) (fun hc => ?_) | with_reducible refine cdK_em (fun hc => ?_) (fun hc => ?_) | with_reducible refine pickK_em (fun hc => ?_) (fun hc => ?_)) <;> (have hc' := hc; (try simp at hc'); simp -implicitDefEqProofs [hc, hc', h, e3, c1, c2])))
          refine ⟨1, ⟨by omega, fun j hj => ?_, fun _ => ?_⟩, by omega, rfl⟩
          · have : j = 0 := by omega
            subst this
            rw [hb]; simp [nmcI, ltrI, c1, c2]
          · simp [ltrI, c1, c2]
        · have hf : nfB s = false := by simp [nfB, ← hhd, ltrI, c2]
          rw [hf] at hR
          subst hR
          ((try simp -implicitDefEqProofs [h, e3, c1, c2]); repeat' first | ((first | with_reducible refine gdK_em (fun hc => ?_) (fun hc => ?_) | with_reducible refine cdK_em (fun hc => ?_) (fun hc => ?_) | with_reducible refine pickK_em (fun hc => ?_) (fun hc => ?_)) <;> (have hc' := hc; (try simp at hc'); simp -implicitDefEqProofs [hc, hc', h, e3, c1, c2])))
      · have hf : nfB s = false := by simp [nfB, ← hhd, ltrI, c1]
        rw [hf] at hR
        subst hR
        ((try simp -implicitDefEqProofs [h, e3, c1]); repeat' first | ((first | with_reducible refine gdK_em (fun hc => ?_) (fun hc => ?_) | with_reducible refine cdK_em (fun hc => ?_) (fun hc => ?_) | with_reducible refine pickK_em (fun hc => ?_) (fun hc => ?_)) <;> (have hc' := hc; (try simp at hc'); simp -implicitDefEqProofs [hc, hc', h, e3, c1])))
    · have hk0' : ((k : Int) == 0) = false := by simp; omega
      have hstep : nmcI (byteAt s k) = true → ∃ z' : Nat, (z' ≤ s.length ∧ (∀ j : Nat, j < z' → nmcI (byteAt s j) = true) ∧ (1 ≤ z' → ltrI (byteAt s 0) = true)) ∧ s.length - z' < s.length - k ∧ (z' : Int) = (k : Int) + 1 := by
        intro hc
        refine ⟨k + 1, ⟨by omega, fun j hj => ?_, fun _ => hl (by omega)⟩, by omega, by push_cast; rfl⟩
        rcases Nat.lt_or_ge j k with h1 | h1
        · exact hn j h1
        · have : j = k := by omega
          subst this; exact hc
      have hout : nmcI (byteAt s k) = false → nfB s = false := by
        intro hc
        have := hrun k hk hn (.inr hc)
        unfold nfB
        rw [this]
        have : ¬ k = s.length := by omega
        simp [this]
      have hcs : nmcI (byteAt s k) = (ltrI (byteAt s k) || digI (byteAt s k) || (byteAt s k == 95)) := rfl
      by_cases c0 : ltrI (byteAt s k) = true
      · have hstep := hstep (by rw [hcs, c0]; rfl)
        simp only [ltrI, Bool.and_eq_true, decide_eq_true_eq] at c0
        obtain ⟨c1, c2⟩ := c0
        ((try simp -implicitDefEqProofs [h, e3, c1, c2, hk0']); repeat' first | ((first | with_reducible refine gdK_em (fun hc => ?_) (fun hc => ?_) | with_reducible refine cdK_em (fun hc => ?_) (fun hc => ?_) | with_reducible refine pickK_em (fun hc => ?_) (fun hc => ?_)) <;> (have hc' := hc; (try simp at hc'); simp -implicitDefEqProofs [hc, hc', h, e3, c1, c2, hk0'])))
        exact hstep
      · by_cases c3 : digI (byteAt s k) = true
        · have hstep := hstep (by rw [hcs, c3]; simp)
          simp only [ltrI, digI, Bool.and_eq_true, decide_eq_true_eq] at c0 c3
          obtain ⟨c3, c4⟩ := c3
          have c1 : ¬ 97 ≤ byteAt s k := by omega
          ((try simp -implicitDefEqProofs [h, e3, c1, c3, c4, hk0']); repeat' first | ((first | with_reducible refine gdK_em (fun hc => ?_) (fun hc => ?_) | with_reducible refine cdK_em (fun hc => ?_) (fun hc => ?_) | with_reducible refine pickK_em (fun hc => ?_) (fun hc => ?_)) <;> (have hc' := hc; (try simp at hc'); simp -implicitDefEqProofs [hc, hc', h, e3, c1, c3, c4, hk0'])))
          exact hstep
        · by_cases c5 : byteAt s k = 95
          · have hstep := hstep (by rw [hcs, c5]; rfl)
            have c5' : (byteAt s k != 95) = false := by simpa using c5
            have c1 : ¬ 97 ≤ byteAt s k := by omega
            have c3' : 48 ≤ byteAt s k := by omega
            have c4 : ¬ byteAt s k ≤ 57 := by omega
            ((try simp -implicitDefEqProofs [h, e3, hk0', c1, c3', c4, c5']); repeat' first | ((first | with_reducible refine gdK_em (fun hc => ?_) (fun hc => ?_) | with_reducible refine cdK_em (fun hc => ?_) (fun hc => ?_) | with_reducible refine pickK_em (fun hc => ?_) (fun hc => ?_)) <;> (have hc' := hc; (try simp at hc'); simp -implicitDefEqProofs [hc, hc', h, e3, hk0', c1, c3', c4, c5'])))
            exact hstep
          · have hf := hout (by rw [hcs]; simp [c0, c3, c5])
            rw [hf] at hR
            subst hR
            have c5' : (byteAt s k != 95) = true := by simpa using c5
            simp only [ltrI, digI, Bool.and_eq_true, decide_eq_true_eq] at c0 c3
            by_cases c1 : 97 ≤ byteAt s k
            · have c2 : ¬ byteAt s k ≤ 122 := fun h => c0 ⟨c1, h⟩
              have c3' : 48 ≤ byteAt s k := by omega
              have c4 : ¬ byteAt s k ≤ 57 := by omega
              ((try simp -implicitDefEqProofs [h, e3, c1, c2, c3', c4, c5', hk0']); repeat' first | ((first | with_reducible refine gdK_em (fun hc => ?_) (fun hc => ?_) | with_reducible refine cdK_em (fun hc => ?_) (fun hc => ?_) | with_reducible refine pickK_em (fun hc => ?_) (fun hc => ?_)) <;> (have hc' := hc; (try simp at hc'); simp -implicitDefEqProofs [hc, hc', h, e3, c1, c2, c3', c4, c5', hk0'])))
            · by_cases c3' : 48 ≤ byteAt s k
              · have c4 : ¬ byteAt s k ≤ 57 := fun h => c3 ⟨c3', h⟩
                ((try simp -implicitDefEqProofs [h, e3, c1, c3', c4, c5', hk0']); repeat' first | ((first | with_reducible refine gdK_em (fun hc => ?_) (fun hc => ?_) | with_reducible refine cdK_em (fun hc => ?_) (fun hc => ?_) | with_reducible refine pickK_em (fun hc => ?_) (fun hc => ?_)) <;> (have hc' := hc; (try simp at hc'); simp -implicitDefEqProofs [hc, hc', h, e3, c1, c3', c4, c5', hk0'])))
              · ((try simp -implicitDefEqProofs [h, e3, c1, c3', c5', hk0']); repeat' first | ((first | with_reducible refine gdK_em (fun hc => ?_) (fun hc => ?_) | with_reducible refine cdK_em (fun hc => ?_) (fun hc => ?_) | with_reducible refine pickK_em (fun hc => ?_) (fun hc => ?_)) <;> (have hc' := hc; (try simp at hc'); simp -implicitDefEqProofs [hc, hc', h, e3, c1, c3', c5', hk0'])))
  · have hks : k = s.length := by omega
    have hr := hrun k hk hn (.inl hks)
    subst hks
    rcases hhd with hhd | rfl
    · by_cases h1 : 1 ≤ s.length
      · have hl := hl h1
        have h1' : decide ((1 : Int) ≤ s.length) = true := by simp; omega
        have hf : nfB s = decide (s.length ≤ 16) := by simp [nfB, hr, ← hhd, hl, h1]
        by_cases h16 : s.length ≤ 16
        · have h16' : decide ((s.length : Int) ≤ 16) = true := by simp; omega
          rw [hf, decide_eq_true h16] at hR
          subst hR
          ((try simp at hkw); (try simp -implicitDefEqProofs [h1', h16']); repeat' first | ((first | with_reducible refine gdK_em (fun hc => ?_) (fun hc => ?_) | with_reducible refine cdK_em (fun hc => ?_) (fun hc => ?_) | with_reducible refine pickK_em (fun hc => ?_) (fun hc => ?_)) <;> (have hc' := hc; (try simp at hc'); simp -implicitDefEqProofs [hc, hc', h1', h16'])) | (with_reducible apply callK_pure <;> first | (simp only [eras, era, eras_map]; first | with_reducible exact hkw | simpa using hkw) | (simp -implicitDefEqProofs [h1', h16'])))
        · have h16' : decide ((s.length : Int) ≤ 16) = false := by simp; omega
          rw [hf, decide_eq_false h16] at hR
          subst hR
          ((try simp at hkw); (try simp -implicitDefEqProofs [h1', h16']); repeat' first | ((first | with_reducible refine gdK_em (fun hc => ?_) (fun hc => ?_) | with_reducible refine cdK_em (fun hc => ?_) (fun hc => ?_) | with_reducible refine pickK_em (fun hc => ?_) (fun hc => ?_)) <;> (have hc' := hc; (try simp at hc'); simp -implicitDefEqProofs [hc, hc', h1', h16'])) | (with_reducible apply callK_pure <;> first | (simp only [eras, era, eras_map]; first | with_reducible exact hkw | simpa using hkw) | (simp -implicitDefEqProofs [h1', h16'])))
      · have h1' : decide ((1 : Int) ≤ s.length) = false := by simp; omega
        have hf : nfB s = false := by simp [nfB, h1]
        rw [hf] at hR
        subst hR
        ((try simp at hkw); (try simp -implicitDefEqProofs [h1']); repeat' first | ((first | with_reducible refine gdK_em (fun hc => ?_) (fun hc => ?_) | with_reducible refine cdK_em (fun hc => ?_) (fun hc => ?_) | with_reducible refine pickK_em (fun hc => ?_) (fun hc => ?_)) <;> (have hc' := hc; (try simp at hc'); simp -implicitDefEqProofs [hc, hc', h1'])) | (with_reducible apply callK_pure <;> first | (simp only [eras, era, eras_map]; first | with_reducible exact hkw | simpa using hkw) | (simp -implicitDefEqProofs [h1'])))
    · have hf : nfB [] = false := rfl
      rw [hf] at hR
      subst hR
      ((try simp at hkw); (try simp -implicitDefEqProofs); repeat' first | ((first | with_reducible refine gdK_em (fun hc => ?_) (fun hc => ?_) | with_reducible refine cdK_em (fun hc => ?_) (fun hc => ?_) | with_reducible refine pickK_em (fun hc => ?_) (fun hc => ?_)) <;> (have hc' := hc; (try simp at hc'); simp -implicitDefEqProofs [hc, hc'])) | (with_reducible apply callK_pure <;> first | (simp only [eras, era, eras_map]; first | with_reducible exact hkw | simpa using hkw) | (simp -implicitDefEqProofs)))
end Go.Proofs.YtkapabohpfkcoaaDoor
