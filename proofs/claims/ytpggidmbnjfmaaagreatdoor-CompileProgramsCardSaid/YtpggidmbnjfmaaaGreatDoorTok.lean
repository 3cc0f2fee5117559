/- Walks of chapter 31: letters, digits, runs, keywords. -/
import Derived.Test.YtpggidmbnjfmaaaGreatDoorCodeB
import Derived.Test.YtpggidmbnjfmaaaGreatDoorApi
import Derived.Test.YtpggidmbnjfmaaaGreatDoorSlices
section
set_option linter.unusedSimpArgs false
set_option linter.unusedVariables false
set_option maxHeartbeats 1000000
set_option maxRecDepth 8000
namespace Go.Proofs.YtpggidmbnjfmaaaGreatDoor
open E

def ltrI (c : Int) : Bool := decide (97 ≤ c) && decide (c ≤ 122)
def digI (c : Int) : Bool := decide (48 ≤ c) && decide (c ≤ 57)
def nmcI (c : Int) : Bool := ltrI c || digI c || (c == 95)
abbrev vY (c : Int) : V := .t (.int .u8 c)
theorem w_letter (c : Int) : Pure Tryz.prog 99 [vY c] (vB (ltrI c)) := by
 unfold ltrI
 (refine Pure.of_code mix Tryz.call99 k_99 (by simp) (fun hB => ?_); (try simp at hB); (try simp -implicitDefEqProofs [qc_99]))
 ((try simp -implicitDefEqProofs); repeat' first | ((with_reducible first | apply gdK_em | apply cdK_em | apply pickK_em) <;> (intro hc; have hc' := hc; (try simp at hc'); simp -implicitDefEqProofs [hc, hc'])))
theorem w_digit (c : Int) : Pure Tryz.prog 102 [vY c] (vB (digI c)) := by
 unfold digI
 (refine Pure.of_code mix Tryz.call102 k_102 (by simp) (fun hB => ?_); (try simp at hB); (try simp -implicitDefEqProofs [qc_102]))
 ((try simp -implicitDefEqProofs); repeat' first | ((with_reducible first | apply gdK_em | apply cdK_em | apply pickK_em) <;> (intro hc; have hc' := hc; (try simp at hc'); simp -implicitDefEqProofs [hc, hc'])))
theorem w_nmc (c : Int) : Pure Tryz.prog 101 [vY c] (vB (nmcI c)) := by
 unfold nmcI
 have h1 := w_letter c
 have h2 := w_digit c
 generalize ltrI c = a at *
 generalize digI c = b at *
 (refine Pure.of_code mix Tryz.call101 k_101 (by simp) (fun hB => ?_); (try simp at hB); (try simp -implicitDefEqProofs [qc_101]))
 cases a <;> cases b <;> ((try simp at h1); (try simp at h2); (try simp -implicitDefEqProofs); repeat' first | (with_reducible apply callK_pure <;> first | (simp only [eras, era, eras_map]; first | with_reducible exact h1 | with_reducible exact h2 | simpa using h1 | simpa using h2) | (simp -implicitDefEqProofs)))

def runR (p : Int → Bool) : List UInt8 → Nat
 | [] => 0
 | c :: s => if p c.toNat = true then 1 + runR p s else 0
theorem runR_le (p : Int → Bool) (s : List UInt8) : runR p s ≤ s.length := by
 induction s with
 | nil => simp [runR]
 | cons c s ih => simp only [runR, List.length_cons]; split <;> omega
theorem byteAt_succ (c : UInt8) (s : List UInt8) (k : Nat) : byteAt (c :: s) ((k : Int) + 1) = byteAt s k := by
 unfold byteAt
 rw [show ((k : Int) + 1).toNat = k + 1 from by omega, show ((k : Int)).toNat = k from by omega]
 simp
theorem runR_at (p : Int → Bool) : ∀ (s : List UInt8) (k : Nat), k ≤ s.length → (∀ j : Nat, j < k → p (byteAt s j) = true) → (k = s.length ∨ p (byteAt s k) = false) → runR p s = k
 | [], k, hk, _, _ => by simp at hk; subst hk; rfl
 | c :: s, 0, hk, h1, h2 => by
  have : p (byteAt (c :: s) ((0 : Nat) : Int)) = false := h2.resolve_left (by simp)
  simp only [runR]
  rw [if_neg]
  have e : byteAt (c :: s) ((0 : Nat) : Int) = (c.toNat : Int) := rfl
  rw [e] at this
  simp [this]
 | c :: s, k + 1, hk, h1, h2 => by
  have h0 := h1 0 (by omega)
  have e : byteAt (c :: s) ((0 : Nat) : Int) = (c.toNat : Int) := rfl
  rw [e] at h0
  simp only [runR, h0, if_true]
  have := runR_at p s k (by simpa using hk) (fun j hj => by
   have := h1 (j + 1) (by omega)
   rwa [show (((j + 1 : Nat)) : Int) = (j : Int) + 1 from by push_cast; rfl, byteAt_succ] at this) (h2.imp (fun h => by simpa using h) (fun h => by
   rwa [show (((k + 1 : Nat)) : Int) = (k : Int) + 1 from by push_cast; rfl, byteAt_succ] at h))
  omega
theorem w_run (p : Int → Bool) (f : Nat) (hf : ∀ c : Int, Pure Tryz.prog f [vY c] (vB (p c))) (s : List UInt8) (hs : s.length ≤ 1000000) : Pure Tryz.prog 100 [vS s, .fn (.func f) []] (vI (runR p s)) := by
 generalize hR : vI (runR p s) = R
 (refine Pure.of_code mix Tryz.call100 k_100 (by simp) (fun hB => ?_); (try simp at hB); (try simp -implicitDefEqProofs [qc_100]))
 refine loop_rule (X := Nat) (fun k => k ≤ s.length ∧ ∀ j : Nat, j < k → p (byteAt s j) = true) (fun k => [(0, vS s), (1, .fn (.func f) []), (7, vI s.length), (8, vI k)]) (fun _ => St0) (fun k => s.length - k) 0 ⟨by omega, fun j hj => by omega⟩ (by simp) ?_
 rintro k ⟨hk, hp⟩ hbd
 rcases Nat.lt_or_ge k s.length with h | h
 ·have hc := hf (byteAt s k)
  have e3 : IntKind.i64.wrap ((k : Int) + 1) = (k : Int) + 1 := wrap64 (by omega) (by omega)
  cases hpk : p (byteAt s k)
  ·rw [runR_at p s k hk hp (.inr hpk)] at hR
   subst hR
   rw [hpk] at hc
   ((try simp at hc); (try simp -implicitDefEqProofs [h, e3]); repeat' first | (with_reducible apply callK_pure <;> first | (simp only [eras, era, eras_map]; first | with_reducible exact hc | simpa using hc) | (simp -implicitDefEqProofs [h, e3])))
  ·rw [hpk] at hc
   ((try simp at hc); (try simp -implicitDefEqProofs [h, e3]); repeat' first | (with_reducible apply callK_pure <;> first | (simp only [eras, era, eras_map]; first | with_reducible exact hc | simpa using hc) | (simp -implicitDefEqProofs [h, e3])))
   refine ⟨k + 1, ⟨by omega, fun j hj => ?_⟩, by omega, by push_cast; rfl⟩
   rcases Nat.lt_or_ge j k with h1 | h1
   ·exact hp j h1
   ·have : j = k := by omega
    subst this; exact hpk
 ·have : k = s.length := by omega
  rw [runR_at p s k hk hp (.inl this)] at hR
  subst this
  subst hR
  (try simp -implicitDefEqProofs)

def kwL : List (List UInt8) := [[114, 117, 108, 101], [101, 97, 99, 104], [101, 110, 116, 105, 116, 121], [112, 97, 105, 114], [108, 101, 116], [114, 101, 113, 117, 105, 114, 101], [112, 111, 115, 116], [116, 111], [112, 101, 114], [97, 110, 100], [111, 114], [110, 111, 116], [109, 105, 110], [109, 97, 120], [97, 98, 115], [98, 97, 108, 97, 110, 99, 101], [112, 97, 114, 116, 110, 101, 114], [115, 104, 97, 114, 101]]
def kwB (s : List UInt8) : Bool := kwL.contains s
theorem w_kw (s : List UInt8) : Pure Tryz.prog 112 [vS s] (vB (kwB s)) := by
 generalize hR : vB (kwB s) = R
 (refine Pure.of_code mix Tryz.call112 k_112 (by simp) (fun hB => ?_); (try simp at hB); (try simp -implicitDefEqProofs [qc_112]))
 ((try simp -implicitDefEqProofs); repeat' first | ((with_reducible first | apply gdK_em | apply cdK_em | apply pickK_em) <;> (intro hc; have hc' := hc; (try simp at hc'); simp -implicitDefEqProofs [hc, hc'])))
 all_goals (subst hR; simp_all [kwB, kwL])
end Go.Proofs.YtpggidmbnjfmaaaGreatDoor
end

/- Chapter 31: what is skipped ahead of a token. -/
section
set_option linter.unusedSimpArgs false
set_option linter.unusedVariables false
set_option maxHeartbeats 2000000
set_option maxRecDepth 8000
namespace Go.Proofs.YtpggidmbnjfmaaaGreatDoor
open E

theorem get_mk (l : List UInt8) (k : Nat) : (⟨l.toArray⟩ : ByteArray).get! k = l.getD k 0 := by
 show (l.toArray)[k]! = _
 rw [getElem!_def]
 simp only [List.getElem?_toArray, List.getD_eq_getElem?_getD]
 cases l[k]? <;> rfl
theorem decode_lo {l : List UInt8} {p : Nat} (h : (l.getD p 0).toNat < 128) : runeAt l p = ((l.getD p 0).toNat : Int) ∧ wideAt l p = 1 := by
 unfold runeAt wideAt Utf8.decode
 simp only [get_mk, Nat.add_zero]
 rw [if_pos (by exact h)]
 exact ⟨rfl, rfl⟩
theorem decode_hi {l : List UInt8} {p : Nat} (hp : p < l.length) (h : 128 ≤ (l.getD p 0).toNat) : 128 ≤ runeAt l p ∧ 1 ≤ wideAt l p ∧ p + wideAt l p ≤ l.length ∧ ∀ j, j < wideAt l p → 128 ≤ (l.getD (p + j) 0).toNat := by
 have hsz : (⟨l.toArray⟩ : ByteArray).size = l.length := by simp [ByteArray.size]
 unfold runeAt wideAt Utf8.decode
 simp only [get_mk, Nat.add_zero, hsz]
 rw [if_neg (by omega)]
 repeat' split
 all_goals have hsz2 : (⟨l.toArray⟩ : ByteArray).size = l.length := by simp [ByteArray.size]
 all_goals rename_i hcond
 all_goals (try simp only [Bool.and_eq_true, decide_eq_true_eq, beq_iff_eq] at hcond)
 all_goals refine ⟨?_, ?_, ?_, fun j hj => ?_⟩
 all_goals (try simp only [Bool.and_eq_true, decide_eq_true_eq, beq_iff_eq, Utf8.runeError, Nat.add_zero] at *)
 all_goals (try omega)
 all_goals (rcases j with _ | _ | _ | _ | j <;> (try simp only [Nat.zero_add, Nat.reduceAdd, Nat.add_zero] at *) <;> first | exact h | omega)

def skR : List UInt8 → Bool → Nat
 | [], _ => 0
 | c :: s, com => if c.toNat = 10 then 1 + skR s false else if com = true ∨ c.toNat = 32 ∨ c.toNat = 9 ∨ c.toNat = 13 then 1 + skR s com else if c.toNat = 35 then 1 + skR s true else 0
theorem skR_le : ∀ (s : List UInt8) (com : Bool), skR s com ≤ s.length
 | [], _ => by simp [skR]
 | c :: s, com => by
  have h1 := skR_le s false
  have h2 := skR_le s com
  have h3 := skR_le s true
  simp only [skR, List.length_cons]
  (repeat' split) <;> omega
theorem skR_hi : ∀ (w : Nat) (s : List UInt8) (p : Nat), p + w ≤ s.length → (∀ j, j < w → 128 ≤ (s.getD (p + j) 0).toNat) → skR (s.drop p) true = w + skR (s.drop (p + w)) true
 | 0, s, p, _, _ => by simp
 | w + 1, s, p, h, hj => by
  have hx : s.drop p = s.getD p 0 :: s.drop (p + 1) := by
   rw [List.drop_eq_getElem_cons (by omega)]
   simp [List.getD_eq_getElem?_getD, show p < s.length by omega]
  have h0 := hj 0 (by omega)
  simp only [Nat.add_zero] at h0
  rw [hx, skR, if_neg (by omega), if_pos (.inl rfl), skR_hi w s (p + 1) (by omega) (fun j hj' => by have := hj (j + 1) (by omega); rwa [show p + (j + 1) = p + 1 + j from by omega] at this)]
  rw [show p + 1 + w = p + (w + 1) from by omega]
  omega

theorem w_blank (s : List UInt8) (hs : s.length ≤ 1000000) : Pure Tryz.prog 57 [vS s] (vI (skR s false)) := by
 generalize hR : vI (skR s false) = R
 (refine Pure.of_code mix Tryz.call57 k_57 (by simp) (fun hB => ?_); (try simp at hB); (try simp -implicitDefEqProofs [qc_57]))
 refine loop_rule (X := Nat × Bool) (fun X => X.1 ≤ s.length ∧ X.1 + skR (s.drop X.1) X.2 = skR s false) (fun X => [(0, vS s), (3, vB X.2), (7, .ptr 0 0)]) (fun X => ⟨[.itr s X.1], []⟩) (fun X => s.length - X.1) (0, false) ⟨by omega, by simp⟩ (by simp) ?_
 rintro ⟨p, com⟩ ⟨hp, hk⟩ hbd
 simp only [] at hp hk
 clear hbd
 rcases Nat.lt_or_ge p s.length with h | h
 ·have hx : s.drop p = s.getD p 0 :: s.drop (p + 1) := by
   rw [List.drop_eq_getElem_cons h]
   simp [List.getD_eq_getElem?_getD, h]
  rcases Nat.lt_or_ge (s.getD p 0).toNat 128 with hlo | hhi
  ·obtain ⟨d1, d2⟩ := decode_lo hlo
   have hn : (s.getD p 0).toNat = (s.getD p 0).toNat := rfl
   generalize hc : (s.getD p 0).toNat = c at *
   rw [hx, skR, hc] at hk
   by_cases c10 : c = 10
   ·rw [if_pos c10] at hk
    subst c10
    cases com
    ·(try simp -implicitDefEqProofs [h, d1, d2])
     exact ⟨⟨by omega, by omega⟩, by omega⟩
    ·(try simp -implicitDefEqProofs [h, d1, d2])
     exact ⟨⟨by omega, by omega⟩, by omega⟩
   rw [if_neg c10] at hk
   have k10 : ((c : Int) == 10) = false := by simp; omega
   cases com
   ·by_cases c3 : c = 32 ∨ c = 9 ∨ c = 13
    ·rw [if_pos (.inr c3)] at hk
     rcases c3 with rfl | rfl | rfl <;> ((try simp -implicitDefEqProofs [h, d1, d2]); exact ⟨⟨by omega, by omega⟩, by omega⟩)
    ·rw [if_neg (by simp [c3])] at hk
     have k32 : ((c : Int) == 32) = false := by simp; omega
     have k9 : ((c : Int) == 9) = false := by simp; omega
     have k13 : ((c : Int) == 13) = false := by simp; omega
     by_cases c35 : c = 35
     ·rw [if_pos c35] at hk
      subst c35
      (try simp -implicitDefEqProofs [h, d1, d2])
      exact ⟨⟨by omega, by omega⟩, by omega⟩
     ·rw [if_neg c35] at hk
      have k35 : ((c : Int) == 35) = false := by simp; omega
      have hp0 : skR s false = p := by omega
      rw [hp0] at hR
      subst hR
      (try simp -implicitDefEqProofs [h, d1, d2, k10, k32, k9, k13, k35])
   ·rw [if_pos (.inl rfl)] at hk
    (try simp -implicitDefEqProofs [h, d1, d2, k10])
    exact ⟨⟨by omega, by omega⟩, by omega⟩
  ·obtain ⟨d1, d2, d3, d4⟩ := decode_hi h hhi
   generalize hr : runeAt s p = r at *
   generalize hw : wideAt s p = w at *
   have k10 : (r == 10) = false := by simp; omega
   have k32 : (r == 32) = false := by simp; omega
   have k9 : (r == 9) = false := by simp; omega
   have k13 : (r == 13) = false := by simp; omega
   have k35 : (r == 35) = false := by simp; omega
   cases com
   ·have h0 : skR (s.drop p) false = 0 := by
     rw [hx, skR, if_neg (by omega), if_neg (by rintro (h | h | h | h) <;> first | (cases h; done) | omega), if_neg (by omega)]
    have hp0 : skR s false = p := by omega
    rw [hp0] at hR
    subst hR
    (try simp -implicitDefEqProofs [h, hr, hw, k10, k32, k9, k13, k35])
   ·have h0 := skR_hi w s p d3 d4
    (try simp -implicitDefEqProofs [h, hr, hw, k10])
    exact ⟨⟨by omega, by omega⟩, by omega⟩
 ·have : p = s.length := by omega
  subst this
  have h0 : skR (s.drop s.length) com = 0 := by simp [skR]
  have hp0 : skR s false = s.length := by omega
  rw [hp0] at hR
  subst hR
  (try simp -implicitDefEqProofs)
end Go.Proofs.YtpggidmbnjfmaaaGreatDoor
end
