/- Chapter 32: the reference's number, level, operator and Text. -/
import Derived.Test.YtpggidmbnjfmaaaDoorPra
import Derived.Test.YtpggidmbnjfmaaaDoorCodeC
set_option linter.unusedSimpArgs false
set_option linter.unusedVariables false
set_option maxHeartbeats 4000000
set_option maxRecDepth 8000
namespace Go.Proofs.YtpggidmbnjfmaaaDoor
open E

theorem rd_at {d : Nat} (h : d < 10) : (([48, 49, 50, 51, 52, 53, 54, 55, 56, 57] : List UInt8).take (d + 1)).drop d = [UInt8.ofNat (48 + d)] := by
 rcases (by omega : d = 0 ∨ d = 1 ∨ d = 2 ∨ d = 3 ∨ d = 4 ∨ d = 5 ∨ d = 6 ∨ d = 7 ∨ d = 8 ∨ d = 9) with rfl | rfl | rfl | rfl | rfl | rfl | rfl | rfl | rfl | rfl <;> rfl
def rnI (n m : Nat) (s : List UInt8) : Prop := (s = [] ∧ m = n) ∨ (s ≠ [] ∧ (if m = 0 then [] else Lib.decDigits m) ++ s = Lib.decDigits n)
theorem rn_step {n m : Nat} {s : List UInt8} (h : rnI n m s) (hg : ¬ (m = 0 ∧ s ≠ [])) : rnI n (m / 10) ([UInt8.ofNat (48 + m % 10)] ++ s) := by
 refine .inr ⟨by simp, ?_⟩
 have e : (if m / 10 = 0 then [] else Lib.decDigits (m / 10)) ++ [UInt8.ofNat (48 + m % 10)] = Lib.decDigits m := by
  by_cases h10 : m < 10
  ·rw [dec_small h10, if_pos (by omega), Nat.mod_eq_of_lt h10]; rfl
  ·rw [dec_big h10, if_neg (by omega)]
 rw [← List.append_assoc, e]
 rcases h with ⟨rfl, rfl⟩ | ⟨h1, h2⟩
 ·simp
 ·rw [if_neg (fun h0 => hg ⟨h0, h1⟩)] at h2
  exact h2
theorem rn_end {n : Nat} {s : List UInt8} (h : rnI n 0 s) (hs : s ≠ []) : s = Lib.decDigits n := by
 rcases h with ⟨h1, _⟩ | ⟨_, h2⟩
 ·exact absurd h1 hs
 ·simpa using h2
theorem w_rnumN (n : Nat) (h : n ≤ 1000000000000000) : Pure Tryd.prog 26 [vI n] (vS (Lib.decDigits n)) := by
 generalize hR : vS (Lib.decDigits n) = R
 (refine Pure.of_code mix Tryd.call26 k_26 (by simp) (fun hB => ?_); (try simp at hB); (try simp -implicitDefEqProofs [c_tallystoneref32_number_26]))
 refine loop_rule (X := Nat × List UInt8) (fun X => X.1 ≤ n ∧ X.2.length ≤ n - X.1 + (if X.2 = [] then 0 else 1) ∧ rnI n X.1 X.2) (fun X => [(0, vI X.1), (3, vS [48, 49, 50, 51, 52, 53, 54, 55, 56, 57]), (4, vS X.2)]) (fun _ => St0) (fun X => X.1 + (if X.2 = [] then 1 else 0)) (n, []) ⟨Nat.le_refl _, by simp, .inl ⟨rfl, rfl⟩⟩ (by simp) ?_
 rintro ⟨m, s⟩ ⟨hm, hl, hI⟩ hbd
 simp only [] at hm hl hI
 clear hbd
 by_cases hg : m = 0 ∧ s ≠ []
 ·obtain ⟨rfl, hs⟩ := hg
  rw [← rn_end hI hs] at hR
  subst hR
  have hs' : (s == ([] : List UInt8)) = false := by simpa using hs
  ((try simp -implicitDefEqProofs [hs, hs']); repeat' first | ((with_reducible first | apply gdK_em | apply cdK_em | apply pickK_em) <;> (intro hc; have hc' := hc; (try simp at hc'); simp -implicitDefEqProofs [hc, hc', hs, hs'])))
 ·have hd10 : m % 10 < 10 := Nat.mod_lt _ (by omega)
  have e1 : ((m : Int).tmod 10) = ((m % 10 : Nat) : Int) := by rw [Int.tmod_eq_emod_of_nonneg (by omega)]; omega
  have e2 : IntKind.i64.wrap (((m % 10 : Nat) : Int) + 1) = ((m % 10 : Nat) : Int) + 1 := wrap64 (by omega) (by omega)
  have e3 : IntKind.i64.wrap ((m : Int).tdiv 10) = ((m / 10 : Nat) : Int) := by
   have : (m : Int).tdiv 10 = ((m / 10 : Nat) : Int) := by rw [Int.tdiv_eq_ediv_of_nonneg (by omega)]; omega
   rw [this, wrap64 (by omega) (by omega)]
  have hst := rn_step hI hg
  have hdg := rd_at hd10
  have hlen : s.length ≤ 1000000000000001 := by
   split at hl <;> omega
  rcases Nat.eq_zero_or_pos m with hz | hz
  ·subst hz
   have hs : s = [] := by
    cases s with
    | nil => rfl
    | cons a s => exact absurd ⟨rfl, by simp⟩ hg
   subst hs
   ((try simp -implicitDefEqProofs [e1, e2, e3, hdg, maxLen]); repeat' first | ((with_reducible first | apply gdK_em | apply cdK_em | apply pickK_em) <;> (intro hc; have hc' := hc; (try simp at hc'); simp -implicitDefEqProofs [hc, hc', e1, e2, e3, hdg, maxLen])))
   exact ⟨0, [48], ⟨by omega, by simp, by simpa using hst⟩, ⟨rfl, by simp⟩, rfl, rfl⟩
  ·have hz' : (0 : Int) < m := by omega
   have g1 : IntKind.i64.wrap ((m : Int) % 10 + 1) = (m : Int) % 10 + 1 := wrap64 (by omega) (by omega)
   have g2 : ((m : Int) % 10).toNat = m % 10 := by omega
   have g3 : ((m : Int) % 10 + 1).toNat = m % 10 + 1 := by omega
   have g4 : IntKind.i64.wrap ((m : Int) / 10) = (m : Int) / 10 := wrap64 (by omega) (by omega)
   have g0 : (m : Int).tmod 10 = (m : Int) % 10 := Int.tmod_eq_emod_of_nonneg (by omega)
   ((try simp -implicitDefEqProofs [hz, hz', g0, g1, g2, g3, g4, hdg, maxLen]); repeat' first | ((with_reducible first | apply gdK_em | apply cdK_em | apply pickK_em) <;> (intro hc; have hc' := hc; (try simp at hc'); simp -implicitDefEqProofs [hc, hc', hz, hz', g0, g1, g2, g3, g4, hdg, maxLen])))
   refine ⟨⟨by omega, by omega⟩, by omega, m / 10, UInt8.ofNat (48 + m % 10) :: s, ⟨by omega, ?_, hst⟩, ?_, by omega, congrArg (· ++ s) hdg.symm⟩
   ·simp only [List.length_cons, reduceCtorEq, if_false]
    split at hl <;> omega
   ·simp only [reduceCtorEq, if_false]
    split <;> omega
theorem w_rnumI (v : Int) (h0 : 0 ≤ v) (h1 : v ≤ 1000000000000) : Pure Tryd.prog 26 [vI v] (vS (Lib.itoa v)) := by
 obtain ⟨n, rfl⟩ : ∃ n : Nat, v = n := ⟨v.toNat, by omega⟩
 rw [itoa_nat h0]
 exact w_rnumN n (by omega)
theorem w_rlevel (k : Int) : Pure Tryd.prog 48 [vI k] (vI (lvl k)) := by
 have h : (k = 13 ∨ k = 12 ∨ k = 6 ∨ k = 9 ∨ k = 20 ∨ k = 7 ∨ k = 8 ∨ k = 3) ∨ (14 ≤ k ∧ k ≤ 19) ∨ ((k = 13) = False ∧ (k = 12) = False ∧ (k = 6) = False ∧ (k = 9) = False ∧ (k = 20) = False ∧ (k = 7) = False ∧ (k = 8) = False ∧ (k = 3) = False ∧ (14 ≤ k ∧ k ≤ 19) = False) := by
  simp only [eq_iff_iff, iff_false]; omega
 rcases h with h | ⟨h1, h2⟩ | ⟨c1, c2, c3, c4, c5, c6, c7, c8, c9⟩
 ·rcases h with rfl | rfl | rfl | rfl | rfl | rfl | rfl | rfl
  all_goals
   (refine Pure.of_code mix Tryd.call48 k_48 (by simp) (fun hB => ?_); (try simp at hB); (try simp -implicitDefEqProofs [c_tallystoneref32_level_48]))
   (try simp -implicitDefEqProofs)
   try rfl
 ·have e : lvl k = 4 := by unfold lvl; rw [if_neg (by omega), if_neg (by omega), if_neg (by omega), if_pos ⟨h1, h2⟩]
  have c1 : ¬ k = 13 := by omega
  have c2 : ¬ k = 12 := by omega
  have c3 : ¬ k = 6 := by omega
  rw [e]
  (refine Pure.of_code mix Tryd.call48 k_48 (by simp) (fun hB => ?_); (try simp at hB); (try simp -implicitDefEqProofs [c_tallystoneref32_level_48]))
  ((try simp -implicitDefEqProofs [h1, h2, c1, c2, c3]); repeat' first | ((with_reducible first | apply gdK_em | apply cdK_em | apply pickK_em) <;> (intro hc; have hc' := hc; (try simp at hc'); simp -implicitDefEqProofs [hc, hc', h1, h2, c1, c2, c3])))
  all_goals (exfalso; omega)
 ·have e : lvl k = 8 := by unfold lvl; simp only [c1, c2, c3, c4, c5, c6, c7, c8, c9, if_false, false_or]
  simp only [eq_iff_iff, iff_false] at c1 c2 c3 c4 c5 c6 c7 c8 c9
  rw [e]
  (refine Pure.of_code mix Tryd.call48 k_48 (by simp) (fun hB => ?_); (try simp at hB); (try simp -implicitDefEqProofs [c_tallystoneref32_level_48]))
  ((try simp -implicitDefEqProofs [c1, c2, c3, c4, c5, c6, c7, c8]); repeat' first | ((with_reducible first | apply gdK_em | apply cdK_em | apply pickK_em) <;> (intro hc; have hc' := hc; (try simp at hc'); simp -implicitDefEqProofs [hc, hc', c1, c2, c3, c4, c5, c6, c7, c8])))
  all_goals (exfalso; omega)
def opN (k : Int) : List UInt8 := if k = 4 then sAbs else if k = 5 then sShare else if k = 10 then sMin else if k = 11 then sMax else if k = 21 then sBal else if k = 22 then sPart else opX k
theorem w_roperator (k : Int) (h : k = 4 ∨ k = 5 ∨ (7 ≤ k ∧ k ≤ 19) ∨ k = 21 ∨ k = 22) : Pure Tryd.prog 49 [vI k] (vS (opN k)) := by
 have h' : k = 4 ∨ k = 5 ∨ k = 7 ∨ k = 8 ∨ k = 9 ∨ k = 10 ∨ k = 11 ∨ k = 12 ∨ k = 13 ∨ k = 14 ∨ k = 15 ∨ k = 16 ∨ k = 17 ∨ k = 18 ∨ k = 19 ∨ k = 21 ∨ k = 22 := by omega
 rcases h' with rfl | rfl | rfl | rfl | rfl | rfl | rfl | rfl | rfl | rfl | rfl | rfl | rfl | rfl | rfl | rfl | rfl
 all_goals
  (refine Pure.of_code mix Tryd.call49 k_49 (by simp) (fun hB => ?_); (try simp at hB); (try simp -implicitDefEqProofs [c_tallystoneref32_operator_49]))
  (try simp -implicitDefEqProofs)
  try rfl

def RtB (x : Xp) : Prop := ∀ l : Nat, l ≤ lvl x.kind → Pure Tryd.prog 27 [x.v, vI l] (vS (txt (bare x)))
def RtC (x : Xp) : Prop := ∀ l : Nat, l ≤ 9 → Pure Tryd.prog 27 [x.v, vI l] (vS (txt (pcs x l)))
theorem rt_of {x : Xp} (h : RtB x) (hl : (txt (bare x)).length ≤ 10000000) : RtC x := by
 intro l hl9
 by_cases hc : l ≤ lvl x.kind
 ·have := h l hc
  unfold pcs
  rw [wrap_le hc]
  exact this
 ·have h1 := h 1 (lvl_le _).1
  have e : txt (pcs x l) = [40] ++ (txt (bare x) ++ [41]) := by
   unfold pcs wrapP
   rw [if_pos (by omega), txt_cons, txt_append, txt_one]; rfl
  rw [e]
  have hlv := w_rlevel x.kind
  generalize txt (bare x) = t at *
  have hcc : lvl x.kind < l := by omega
  generalize hL : lvl x.kind = L at *
  obtain ⟨k, v, f, g, n, xs⟩ := x
  change Pure _ _ [vI k] _ at hlv
  rw [Xp.v, Xp.c_mk] at h1 ⊢
  (refine Pure.of_code mix Tryd.call27 k_27 (by simp) (fun hB => ?_); (try simp at hB); (try simp -implicitDefEqProofs [c_tallystoneref32_Text_27]))
  ((try simp at hlv); (try simp at h1); (try simp -implicitDefEqProofs [hcc]); repeat' first | (with_reducible apply callK_pure <;> first | (simp only [eras, era, eras_map]; first | with_reducible exact hlv | with_reducible exact h1 | simpa using hlv | simpa using h1) | (simp -implicitDefEqProofs [hcc])))
  exact ⟨by unfold maxLen; omega, by unfold maxLen; omega⟩
theorem nlt {L l : Nat} (h : l ≤ L) : (L < l) = False := by simp; omega
theorem rt_num (v : Int) (h0 : 0 ≤ v) (h1 : v ≤ 1000000000000) : RtB (.mk 1 v 0 0 [] []) := by
 intro l hl
 have hi := w_rnumI v h0 h1
 have hlv := w_rlevel 1
 have hcc := nlt hl
 change (lvl 1 < l) = False at hcc
 generalize lvl 1 = L at *
 rw [show txt (bare (.mk 1 v 0 0 [] [])) = Lib.itoa v from txt_one _, Xp.v, Xp.c_mk]
 (refine Pure.of_code mix Tryd.call27 k_27 (by simp) (fun hB => ?_); (try simp at hB); (try simp -implicitDefEqProofs [c_tallystoneref32_Text_27]))
 ((try simp at hlv); (try simp at hi); (try simp -implicitDefEqProofs [hcc]); repeat' first | (with_reducible apply callK_pure <;> first | (simp only [eras, era, eras_map]; first | with_reducible exact hlv | with_reducible exact hi | simpa using hlv | simpa using hi) | (simp -implicitDefEqProofs [hcc])))
theorem rt_var (n : List UInt8) : RtB (.mk 2 0 0 0 n []) := by
 intro l hl
 have hlv := w_rlevel 2
 have hcc := nlt hl
 change (lvl 2 < l) = False at hcc
 generalize lvl 2 = L at *
 rw [show txt (bare (.mk 2 0 0 0 n [])) = n from txt_one _, Xp.v, Xp.c_mk]
 (refine Pure.of_code mix Tryd.call27 k_27 (by simp) (fun hB => ?_); (try simp at hB); (try simp -implicitDefEqProofs [c_tallystoneref32_Text_27]))
 ((try simp at hlv); (try simp -implicitDefEqProofs [hcc]); repeat' first | (with_reducible apply callK_pure <;> first | (simp only [eras, era, eras_map]; first | with_reducible exact hlv | simpa using hlv) | (simp -implicitDefEqProofs [hcc])))
theorem rt_neg (a : Xp) (ha : RtC a) (la : (txt (bare a)).length ≤ 10000000) : RtB (one 3 a) := by
 intro l hl
 have h1 := ha 7 (by omega)
 have w1 : (txt (pcs a 7)).length ≤ (txt (bare a)).length + 2 := wrap_len (lvl a.kind) 7 (bare a)
 have hr : txt (bare (one 3 a)) = [45] ++ txt (pcs a 7) := by
  rw [show bare (one 3 a) = (3, [45]) :: pcs a 7 from rfl]; rfl
 have hla := len_c a
 have hta := take_c a
 have hlv := w_rlevel 3
 have hcc := nlt hl
 change (lvl 3 < l) = False at hcc
 generalize lvl 3 = L at *
 rw [hr, Xp.v, c_one']
 (refine Pure.of_code mix Tryd.call27 k_27 (by simp) (fun hB => ?_); (try simp at hB); (try simp -implicitDefEqProofs [c_tallystoneref32_Text_27]))
 ((try simp at hlv); (try simp at h1); (try simp -implicitDefEqProofs [hcc, hla, hta]); repeat' first | (with_reducible apply callK_pure <;> first | (simp only [eras, era, eras_map]; first | with_reducible exact hlv | with_reducible exact h1 | simpa using hlv | simpa using h1) | (simp -implicitDefEqProofs [hcc, hla, hta])))
 repeat' (refine And.intro (by ((try simp only [List.length_append, List.length_cons, List.length_nil, sp, lp, rp, sOr, sAnd, sNot, sPer, sAbs, sShare, sMin, sMax, sBal, sPart]); unfold maxLen; omega)) ?_; ((try simp at hlv); (try simp at h1); (try simp -implicitDefEqProofs [hcc, hla, hta]); repeat' first | (with_reducible apply callK_pure <;> first | (simp only [eras, era, eras_map]; first | with_reducible exact hlv | with_reducible exact h1 | simpa using hlv | simpa using h1) | (simp -implicitDefEqProofs [hcc, hla, hta]))))
 all_goals ((try simp only [List.length_append, List.length_cons, List.length_nil, sp, lp, rp, sOr, sAnd, sNot, sPer, sAbs, sShare, sMin, sMax, sBal, sPart]); unfold maxLen; omega)
theorem rt_not (a : Xp) (ha : RtC a) (la : (txt (bare a)).length ≤ 10000000) : RtB (one 6 a) := by
 intro l hl
 have h1 := ha 3 (by omega)
 have w1 : (txt (pcs a 3)).length ≤ (txt (bare a)).length + 2 := wrap_len (lvl a.kind) 3 (bare a)
 have hr : txt (bare (one 6 a)) = [110, 111, 116, 32] ++ txt (pcs a 3) := by
  rw [show bare (one 6 a) = (1, sNot) :: sp :: pcs a 3 from rfl]; rfl
 have hla := len_c a
 have hta := take_c a
 have hlv := w_rlevel 6
 have hcc := nlt hl
 change (lvl 6 < l) = False at hcc
 generalize lvl 6 = L at *
 rw [hr, Xp.v, c_one']
 (refine Pure.of_code mix Tryd.call27 k_27 (by simp) (fun hB => ?_); (try simp at hB); (try simp -implicitDefEqProofs [c_tallystoneref32_Text_27]))
 ((try simp at hlv); (try simp at h1); (try simp -implicitDefEqProofs [hcc, hla, hta]); repeat' first | (with_reducible apply callK_pure <;> first | (simp only [eras, era, eras_map]; first | with_reducible exact hlv | with_reducible exact h1 | simpa using hlv | simpa using h1) | (simp -implicitDefEqProofs [hcc, hla, hta])))
 repeat' (refine And.intro (by ((try simp only [List.length_append, List.length_cons, List.length_nil, sp, lp, rp, sOr, sAnd, sNot, sPer, sAbs, sShare, sMin, sMax, sBal, sPart]); unfold maxLen; omega)) ?_; ((try simp at hlv); (try simp at h1); (try simp -implicitDefEqProofs [hcc, hla, hta]); repeat' first | (with_reducible apply callK_pure <;> first | (simp only [eras, era, eras_map]; first | with_reducible exact hlv | with_reducible exact h1 | simpa using hlv | simpa using h1) | (simp -implicitDefEqProofs [hcc, hla, hta]))))
 all_goals ((try simp only [List.length_append, List.length_cons, List.length_nil, sp, lp, rp, sOr, sAnd, sNot, sPer, sAbs, sShare, sMin, sMax, sBal, sPart]); unfold maxLen; omega)
theorem rt_per (v : Int) (h0 : 1 ≤ v) (h1 : v ≤ 1000000000000) (a : Xp) (ha : RtC a) (la : (txt (bare a)).length ≤ 10000000) : RtB (perX v a) := by
 intro l hl
 have h2 := ha 6 (by omega)
 have w1 := wrap_len (lvl a.kind) 6 (bare a)
 have hi := w_rnumI v (by omega) h1
 have li := itoa_len (v := v) (by omega) h1
 have hr : txt (bare (perX v a)) = txt (pcs a 6) ++ [32, 112, 101, 114, 32] ++ Lib.itoa v := by
  rw [show bare (perX v a) = pcs a 6 ++ [sp, (1, sPer), sp, numP v] from rfl, txt_append, txt_cons, txt_cons, txt_cons, txt_one, List.append_assoc]; rfl
 have hla := len_c a
 have hta := take_c a
 unfold pcs at h2 hr
 generalize Lib.itoa v = I at *
 have hlv := w_rlevel 20
 have hcc := nlt hl
 change (lvl 20 < l) = False at hcc
 generalize lvl 20 = L at *
 rw [hr, Xp.v, c_per']
 (refine Pure.of_code mix Tryd.call27 k_27 (by simp) (fun hB => ?_); (try simp at hB); (try simp -implicitDefEqProofs [c_tallystoneref32_Text_27]))
 ((try simp at hlv); (try simp at h2); (try simp at hi); (try simp -implicitDefEqProofs [hcc, hla, hta]); repeat' first | (with_reducible apply callK_pure <;> first | (simp only [eras, era, eras_map]; first | with_reducible exact hlv | with_reducible exact h2 | with_reducible exact hi | simpa using hlv | simpa using h2 | simpa using hi) | (simp -implicitDefEqProofs [hcc, hla, hta])))
 repeat' (refine And.intro (by ((try simp only [List.length_append, List.length_cons, List.length_nil, sp, lp, rp, sOr, sAnd, sNot, sPer, sAbs, sShare, sMin, sMax, sBal, sPart]); unfold maxLen; omega)) ?_; ((try simp at hlv); (try simp at h2); (try simp at hi); (try simp -implicitDefEqProofs [hcc, hla, hta]); repeat' first | (with_reducible apply callK_pure <;> first | (simp only [eras, era, eras_map]; first | with_reducible exact hlv | with_reducible exact h2 | with_reducible exact hi | simpa using hlv | simpa using h2 | simpa using hi) | (simp -implicitDefEqProofs [hcc, hla, hta]))))
 all_goals ((try simp only [List.length_append, List.length_cons, List.length_nil, sp, lp, rp, sOr, sAnd, sNot, sPer, sAbs, sShare, sMin, sMax, sBal, sPart]); unfold maxLen; omega)
theorem rt_f1 (k : Int) (hk : k = 4 ∨ k = 5) (a : Xp) (ha : RtC a) (la : (txt (bare a)).length ≤ 10000000) : RtB (one k a) := by
 intro l hl
 have h1 := ha 1 (by omega)
 rw [pcs1] at h1
 have ho := w_roperator k (by omega)
 have hr : txt (bare (one k a)) = opN k ++ [40] ++ txt (bare a) ++ [41] := by
  rw [bare_f1 hk, txt_cons, txt_cons, txt_append, txt_one]
  rcases hk with rfl | rfl <;> simp [opN, lp, rp]
 have hol : (opN k).length ≤ 10 := by rcases hk with rfl | rfl <;> simp [opN, sAbs, sShare]
 have hla := len_c a
 have hta := take_c a
 have hlv := w_rlevel k
 have hcc := nlt hl
 change (lvl k < l) = False at hcc
 generalize lvl k = L at *
 rw [hr, Xp.v, c_one']
 generalize opN k = O at *
 generalize txt (bare a) = A at *
 rcases hk with rfl | rfl
 all_goals
  (refine Pure.of_code mix Tryd.call27 k_27 (by simp) (fun hB => ?_); (try simp at hB); (try simp -implicitDefEqProofs [c_tallystoneref32_Text_27]))
  ((try simp at hlv); (try simp at h1); (try simp at ho); (try simp -implicitDefEqProofs [hcc, hla, hta]); repeat' first | (with_reducible apply callK_pure <;> first | (simp only [eras, era, eras_map]; first | with_reducible exact hlv | with_reducible exact h1 | with_reducible exact ho | simpa using hlv | simpa using h1 | simpa using ho) | (simp -implicitDefEqProofs [hcc, hla, hta])))
  repeat' (refine And.intro (by ((try simp only [List.length_append, List.length_cons, List.length_nil, sp, lp, rp, sOr, sAnd, sNot, sPer, sAbs, sShare, sMin, sMax, sBal, sPart]); unfold maxLen; omega)) ?_; ((try simp at hlv); (try simp at h1); (try simp at ho); (try simp -implicitDefEqProofs [hcc, hla, hta]); repeat' first | (with_reducible apply callK_pure <;> first | (simp only [eras, era, eras_map]; first | with_reducible exact hlv | with_reducible exact h1 | with_reducible exact ho | simpa using hlv | simpa using h1 | simpa using ho) | (simp -implicitDefEqProofs [hcc, hla, hta]))))
  all_goals ((try simp only [List.length_append, List.length_cons, List.length_nil, sp, lp, rp, sOr, sAnd, sNot, sPer, sAbs, sShare, sMin, sMax, sBal, sPart]); unfold maxLen; omega)
theorem rt_f2 (k : Int) (hk : k = 10 ∨ k = 11) (a b : Xp) (ha : RtC a) (hb : RtC b) (la : (txt (bare a)).length ≤ 10000000) (lb : (txt (bare b)).length ≤ 10000000) : RtB (two k a b) := by
 intro l hl
 have h1 := ha 1 (by omega)
 have h2 := hb 1 (by omega)
 rw [pcs1] at h1 h2
 have ho := w_roperator k (by omega)
 have hr : txt (bare (two k a b)) = opN k ++ [40] ++ txt (bare a) ++ [44, 32] ++ txt (bare b) ++ [41] := by
  rw [bare_f2 hk, txt_cons, txt_cons, txt_append, txt_cons, txt_cons, txt_append, txt_one]
  rcases hk with rfl | rfl <;> simp [opN, lp, rp, sp]
 have hol : (opN k).length ≤ 10 := by rcases hk with rfl | rfl <;> simp [opN, sMin, sMax]
 have hla := len_c a
 have hta := take_c a
 have hlb := len_c b
 have htb := take_c b
 have hlv := w_rlevel k
 have hcc := nlt hl
 change (lvl k < l) = False at hcc
 generalize lvl k = L at *
 rw [hr, Xp.v, show (two k a b).c = _ from c_two' k a b]
 generalize opN k = O at *
 generalize txt (bare a) = A at *
 generalize txt (bare b) = D at *
 rcases hk with rfl | rfl
 all_goals
  (refine Pure.of_code mix Tryd.call27 k_27 (by simp) (fun hB => ?_); (try simp at hB); (try simp -implicitDefEqProofs [c_tallystoneref32_Text_27]))
  ((try simp at hlv); (try simp at h1); (try simp at h2); (try simp at ho); (try simp -implicitDefEqProofs [hcc, hla, hta, hlb, htb]); repeat' first | (with_reducible apply callK_pure <;> first | (simp only [eras, era, eras_map]; first | with_reducible exact hlv | with_reducible exact h1 | with_reducible exact h2 | with_reducible exact ho | simpa using hlv | simpa using h1 | simpa using h2 | simpa using ho) | (simp -implicitDefEqProofs [hcc, hla, hta, hlb, htb])))
  repeat' (refine And.intro (by ((try simp only [List.length_append, List.length_cons, List.length_nil, sp, lp, rp, sOr, sAnd, sNot, sPer, sAbs, sShare, sMin, sMax, sBal, sPart]); unfold maxLen; omega)) ?_; ((try simp at hlv); (try simp at h1); (try simp at h2); (try simp at ho); (try simp -implicitDefEqProofs [hcc, hla, hta, hlb, htb]); repeat' first | (with_reducible apply callK_pure <;> first | (simp only [eras, era, eras_map]; first | with_reducible exact hlv | with_reducible exact h1 | with_reducible exact h2 | with_reducible exact ho | simpa using hlv | simpa using h1 | simpa using h2 | simpa using ho) | (simp -implicitDefEqProofs [hcc, hla, hta, hlb, htb]))))
  all_goals ((try simp only [List.length_append, List.length_cons, List.length_nil, sp, lp, rp, sOr, sAnd, sNot, sPer, sAbs, sShare, sMin, sMax, sBal, sPart]); unfold maxLen; omega)
theorem rt_bal (k : Int) (hk : k = 21 ∨ k = 22) (f t : Int) (hf : 1 ≤ f ∧ f ≤ 99999) (ht : 1 ≤ t ∧ t ≤ 99999) : RtB (.mk k 0 f t [] []) := by
 intro l hl
 have h1 := w_rnumI f (by omega) (by omega)
 have h2 := w_rnumI t (by omega) (by omega)
 have l1 := itoa_len (v := f) (by omega) (by omega)
 have l2 := itoa_len (v := t) (by omega) (by omega)
 have ho := w_roperator k (by omega)
 have hr : txt (bare (.mk k 0 f t [] [])) = opN k ++ [40] ++ Lib.itoa f ++ [46, 46] ++ Lib.itoa t ++ [41] := by
  rw [show bare (.mk k 0 f t [] []) = [(1, if k = 22 then sPart else sBal), lp, numP f, (3, [46, 46]), numP t, rp] by rcases hk with rfl | rfl <;> rfl]
  rcases hk with rfl | rfl <;> simp [txt, opN, lp, rp, numP]
 have hol : (opN k).length ≤ 10 := by rcases hk with rfl | rfl <;> simp [opN, sBal, sPart]
 have hlv := w_rlevel k
 have hcc := nlt hl
 change (lvl k < l) = False at hcc
 generalize lvl k = L at *
 rw [hr, Xp.v, Xp.c_mk]
 generalize opN k = O at *
 generalize Lib.itoa f = F at *
 generalize Lib.itoa t = G at *
 rcases hk with rfl | rfl
 all_goals
  (refine Pure.of_code mix Tryd.call27 k_27 (by simp) (fun hB => ?_); (try simp at hB); (try simp -implicitDefEqProofs [c_tallystoneref32_Text_27]))
  ((try simp at hlv); (try simp at h1); (try simp at h2); (try simp at ho); (try simp -implicitDefEqProofs [hcc]); repeat' first | (with_reducible apply callK_pure <;> first | (simp only [eras, era, eras_map]; first | with_reducible exact hlv | with_reducible exact h1 | with_reducible exact h2 | with_reducible exact ho | simpa using hlv | simpa using h1 | simpa using h2 | simpa using ho) | (simp -implicitDefEqProofs [hcc])))
  repeat' (refine And.intro (by ((try simp only [List.length_append, List.length_cons, List.length_nil, sp, lp, rp, sOr, sAnd, sNot, sPer, sAbs, sShare, sMin, sMax, sBal, sPart]); unfold maxLen; omega)) ?_; ((try simp at hlv); (try simp at h1); (try simp at h2); (try simp at ho); (try simp -implicitDefEqProofs [hcc]); repeat' first | (with_reducible apply callK_pure <;> first | (simp only [eras, era, eras_map]; first | with_reducible exact hlv | with_reducible exact h1 | with_reducible exact h2 | with_reducible exact ho | simpa using hlv | simpa using h1 | simpa using h2 | simpa using ho) | (simp -implicitDefEqProofs [hcc]))))
  all_goals ((try simp only [List.length_append, List.length_cons, List.length_nil, sp, lp, rp, sOr, sAnd, sNot, sPer, sAbs, sShare, sMin, sMax, sBal, sPart]); unfold maxLen; omega)
theorem rt_bin (k : Int) (hk : k = 7 ∨ k = 8 ∨ k = 9 ∨ (12 ≤ k ∧ k ≤ 19)) (a b : Xp) (ha : RtC a) (hb : RtC b) (la : (txt (bare a)).length ≤ 10000000) (lb : (txt (bare b)).length ≤ 10000000) : RtB (two k a b) := by
 intro l hl
 have hll := lvl_le k
 have h6 : lvl k ≤ 6 := by unfold lvl; (repeat' split) <;> omega
 have h1 := ha (if lvl k = 4 then 5 else lvl k) (by split <;> omega)
 have h2 := hb (lvl k + 1) (by omega)
 have ho := w_roperator k (by omega)
 have hr : txt (bare (two k a b)) = txt (pcs a (if lvl k = 4 then 5 else lvl k)) ++ [32] ++ opN k ++ [32] ++ txt (pcs b (lvl k + 1)) := by
  rw [tb_bin hk, txt_append, txt_cons, txt_cons, txt_cons]
  have : opN k = opX k := by unfold opN; rw [if_neg (by omega), if_neg (by omega), if_neg (by omega), if_neg (by omega), if_neg (by omega), if_neg (by omega)]
  rw [this]; simp [sp, opc]
 have hol : (opN k).length ≤ 10 := by
  have : opN k = opX k := by unfold opN; rw [if_neg (by omega), if_neg (by omega), if_neg (by omega), if_neg (by omega), if_neg (by omega), if_neg (by omega)]
  rw [this]; unfold opX; (repeat' split) <;> simp [sAnd, sOr]
 have w1 := wrap_len (lvl a.kind) (if lvl k = 4 then 5 else lvl k) (bare a)
 have w2 := wrap_len (lvl b.kind) (lvl k + 1) (bare b)
 have hla := len_c a
 have hta := take_c a
 have hlb := len_c b
 have htb := take_c b
 have hlv := w_rlevel k
 have hcc := nlt hl
 change (lvl k < l) = False at hcc
 rw [hr, Xp.v, show (two k a b).c = _ from c_two' k a b]
 generalize opN k = O at *
 change (txt (pcs a (if lvl k = 4 then 5 else lvl k))).length ≤ _ at w1
 change (txt (pcs b (lvl k + 1))).length ≤ _ at w2
 generalize hA : txt (pcs a (if lvl k = 4 then 5 else lvl k)) = A at *
 generalize hD : txt (pcs b (lvl k + 1)) = D at *
 have e1 : IntKind.i64.wrap ((lvl k : Int) + 1) = ((lvl k + 1 : Nat) : Int) := by rw [wrap64 (by omega) (by omega)]; push_cast; rfl
 have n1 : (k == 1) = false := by simp; omega
 have n2 : (k == 2) = false := by simp; omega
 have n3 : (k == 3) = false := by simp; omega
 have n4 : (k == 4) = false := by simp; omega
 have n5 : (k == 5) = false := by simp; omega
 have n6 : (k == 6) = false := by simp; omega
 have n10 : (k == 10) = false := by simp; omega
 have n11 : (k == 11) = false := by simp; omega
 have n20 : (k == 20) = false := by simp; omega
 have n21 : (k == 21) = false := by simp; omega
 have n22 : (k == 22) = false := by simp; omega
 by_cases h4 : lvl k = 4
 ·rw [if_pos h4] at h1
  rw [h4] at hlv hcc e1 h2
  have hc2 : ((4 : Int) < (l : Int)) = False := by
   have := of_eq_false hcc
   exact eq_false (by omega)
  (refine Pure.of_code mix Tryd.call27 k_27 (by simp) (fun hB => ?_); (try simp at hB); (try simp -implicitDefEqProofs [c_tallystoneref32_Text_27]))
  ((try simp at hlv); (try simp at h1); (try simp at h2); (try simp at ho); (try simp -implicitDefEqProofs [hcc, hc2, e1, hla, hta, hlb, htb, n1, n2, n3, n4, n5, n6, n10, n11, n20, n21, n22]); repeat' first | (with_reducible apply callK_pure <;> first | (simp only [eras, era, eras_map]; first | with_reducible exact hlv | with_reducible exact h1 | with_reducible exact h2 | with_reducible exact ho | simpa using hlv | simpa using h1 | simpa using h2 | simpa using ho) | (simp -implicitDefEqProofs [hcc, hc2, e1, hla, hta, hlb, htb, n1, n2, n3, n4, n5, n6, n10, n11, n20, n21, n22])))
  repeat' (refine And.intro (by ((try simp only [List.length_append, List.length_cons, List.length_nil, sp, lp, rp, sOr, sAnd, sNot, sPer, sAbs, sShare, sMin, sMax, sBal, sPart]); unfold maxLen; omega)) ?_; ((try simp at hlv); (try simp at h1); (try simp at h2); (try simp at ho); (try simp -implicitDefEqProofs [hcc, hc2, e1, hla, hta, hlb, htb, n1, n2, n3, n4, n5, n6, n10, n11, n20, n21, n22]); repeat' first | (with_reducible apply callK_pure <;> first | (simp only [eras, era, eras_map]; first | with_reducible exact hlv | with_reducible exact h1 | with_reducible exact h2 | with_reducible exact ho | simpa using hlv | simpa using h1 | simpa using h2 | simpa using ho) | (simp -implicitDefEqProofs [hcc, hc2, e1, hla, hta, hlb, htb, n1, n2, n3, n4, n5, n6, n10, n11, n20, n21, n22]))))
  all_goals ((try simp only [List.length_append, List.length_cons, List.length_nil, sp, lp, rp, sOr, sAnd, sNot, sPer, sAbs, sShare, sMin, sMax, sBal, sPart]); unfold maxLen; omega)
 ·rw [if_neg h4] at h1
  have h4' : (((lvl k : Nat) : Int) == 4) = false := by simp; omega
  generalize lvl k = L at *
  (refine Pure.of_code mix Tryd.call27 k_27 (by simp) (fun hB => ?_); (try simp at hB); (try simp -implicitDefEqProofs [c_tallystoneref32_Text_27]))
  ((try simp at hlv); (try simp at h1); (try simp at h2); (try simp at ho); (try simp -implicitDefEqProofs [hcc, e1, h4', hla, hta, hlb, htb, n1, n2, n3, n4, n5, n6, n10, n11, n20, n21, n22]); repeat' first | (with_reducible apply callK_pure <;> first | (simp only [eras, era, eras_map]; first | with_reducible exact hlv | with_reducible exact h1 | with_reducible exact h2 | with_reducible exact ho | simpa using hlv | simpa using h1 | simpa using h2 | simpa using ho) | (simp -implicitDefEqProofs [hcc, e1, h4', hla, hta, hlb, htb, n1, n2, n3, n4, n5, n6, n10, n11, n20, n21, n22])))
  repeat' (refine And.intro (by ((try simp only [List.length_append, List.length_cons, List.length_nil, sp, lp, rp, sOr, sAnd, sNot, sPer, sAbs, sShare, sMin, sMax, sBal, sPart]); unfold maxLen; omega)) ?_; ((try simp at hlv); (try simp at h1); (try simp at h2); (try simp at ho); (try simp -implicitDefEqProofs [hcc, e1, h4', hla, hta, hlb, htb, n1, n2, n3, n4, n5, n6, n10, n11, n20, n21, n22]); repeat' first | (with_reducible apply callK_pure <;> first | (simp only [eras, era, eras_map]; first | with_reducible exact hlv | with_reducible exact h1 | with_reducible exact h2 | with_reducible exact ho | simpa using hlv | simpa using h1 | simpa using h2 | simpa using ho) | (simp -implicitDefEqProofs [hcc, e1, h4', hla, hta, hlb, htb, n1, n2, n3, n4, n5, n6, n10, n11, n20, n21, n22]))))
  all_goals ((try simp only [List.length_append, List.length_cons, List.length_nil, sp, lp, rp, sOr, sAnd, sNot, sPer, sAbs, sShare, sMin, sMax, sBal, sPart]); unfold maxLen; omega)
theorem rt_ok {x : Xp} (hx : Px x) : x.cnt ≤ 10000 → RtB x := by
 induction hx with
 | num v h0 h1 => intro _; exact rt_num v h0 h1
 | var n h => intro _; exact rt_var n
 | neg a h ih =>
  intro hc
  rw [cnt_one] at hc
  have hl := txt_len h
  exact rt_neg a (rt_of (ih (by omega)) (by omega)) (by omega)
 | f1 k hk a h ih =>
  intro hc
  rw [cnt_one] at hc
  have hl := txt_len h
  exact rt_f1 k hk a (rt_of (ih (by omega)) (by omega)) (by omega)
 | not a h ih =>
  intro hc
  rw [cnt_one] at hc
  have hl := txt_len h
  exact rt_not a (rt_of (ih (by omega)) (by omega)) (by omega)
 | f2 k hk a b h h' ih ih' =>
  intro hc
  rw [cnt_two] at hc
  have hl := txt_len h
  have hl' := txt_len h'
  exact rt_f2 k hk a b (rt_of (ih (by omega)) (by omega)) (rt_of (ih' (by omega)) (by omega)) (by omega) (by omega)
 | per v h0 h1 a h ih =>
  intro hc
  rw [cnt_per] at hc
  have hl := txt_len h
  exact rt_per v h0 h1 a (rt_of (ih (by omega)) (by omega)) (by omega)
 | bin k hk a b h h' ih ih' =>
  intro hc
  rw [cnt_two] at hc
  have hl := txt_len h
  have hl' := txt_len h'
  exact rt_bin k hk a b (rt_of (ih (by omega)) (by omega)) (rt_of (ih' (by omega)) (by omega)) (by omega) (by omega)
 | bal k hk f t hf ht => intro _; exact rt_bal k hk f t hf ht
theorem w_rText {x : Xp} (hx : Px x) (hc : x.cnt ≤ 10000) : Pure Tryd.prog 27 [x.v, vI (1 : Nat)] (vS (txt (bare x))) := rt_ok hx hc 1 (lvl_le _).1
end Go.Proofs.YtpggidmbnjfmaaaDoor
