/- The reference of chapter 31: Skip, next, Value. -/
import Derived.Test.YtpggidmbnjfmaaaGreatDoorSya
import Derived.Test.YtpggidmbnjfmaaaGreatDoorCodeD
set_option linter.unusedSimpArgs false
set_option linter.unusedVariables false
set_option maxHeartbeats 4000000
set_option maxRecDepth 8000
namespace Go.Proofs.YtpggidmbnjfmaaaGreatDoor
open E

theorem w_rletter (c : Int) : Pure Tryz.prog 116 [vY c] (vB (ltrI c)) := by
 unfold ltrI
 (refine Pure.of_code mix Tryz.call116 k_116 (by simp) (fun hB => ?_); (try simp at hB); (try simp -implicitDefEqProofs [qc_116]))
 ((try simp -implicitDefEqProofs); repeat' first | ((with_reducible first | apply gdK_em | apply cdK_em | apply pickK_em) <;> (intro hc; have hc' := hc; (try simp at hc'); simp -implicitDefEqProofs [hc, hc'])))
theorem w_rdigit (c : Int) : Pure Tryz.prog 117 [vY c] (vB (digI c)) := by
 unfold digI
 (refine Pure.of_code mix Tryz.call117 k_117 (by simp) (fun hB => ?_); (try simp at hB); (try simp -implicitDefEqProofs [qc_117]))
 ((try simp -implicitDefEqProofs); repeat' first | ((with_reducible first | apply gdK_em | apply cdK_em | apply pickK_em) <;> (intro hc; have hc' := hc; (try simp at hc'); simp -implicitDefEqProofs [hc, hc'])))
theorem byteAt_drop : ∀ (s : List UInt8) (p j : Nat), byteAt (s.drop p) j = byteAt s ((p + j : Nat) : Int)
 | s, 0, j => by simp
 | [], p + 1, j => by simp [byteAt]
 | c :: s, p + 1, j => by
  rw [List.drop_succ_cons, byteAt_drop s p j, show ((p + 1 + j : Nat) : Int) = ((p + j : Nat) : Int) + 1 by omega, byteAt_succ]
theorem dropc_at {s : List UInt8} {p : Nat} (h : p < s.length) : ∃ c : UInt8, s.drop p = c :: s.drop (p + 1) ∧ byteAt s p = (c.toNat : Int) := by
 refine ⟨s[p], List.drop_eq_getElem_cons h, ?_⟩
 have h1 := byteAt_drop s p 0
 rw [Nat.add_zero, List.drop_eq_getElem_cons h] at h1
 rw [← h1]
 rfl
theorem w_Skip (s : List UInt8) (hs : s.length ≤ 1000000) (a : Nat) (ha : a ≤ s.length) : Pure Tryz.prog 66 [vS s, vI a] (vI ((a + skR (s.drop a) false : Nat) : Int)) := by
 generalize hT : a + skR (s.drop a) false = T
 (refine Pure.of_code mix Tryz.call66 k_66 (by simp) (fun hB => ?_); (try simp at hB); (try simp -implicitDefEqProofs [qc_66]))
 refine loop_rule (X := Nat) (fun p => p ≤ s.length ∧ p + skR (s.drop p) false = T) (fun p => [(0, vS s), (1, vI p)]) (fun _ => St0) (fun p => s.length - p) a ⟨ha, hT⟩ (by simp) ?_
 rintro p ⟨hp, hk⟩ hbd
 clear hbd
 rcases Nat.lt_or_ge p s.length with h | h
 ·obtain ⟨c, hx, hb⟩ := dropc_at h
  have e3 : IntKind.i64.wrap ((p : Int) + 1) = (p : Int) + 1 := wrap64 (by omega) (by omega)
  rw [hx, skR] at hk
  generalize hc : c.toNat = n at *
  by_cases c35 : n = 35
  ·subst c35
   rw [if_neg (by omega), if_neg (by simp), if_pos rfl] at hk
   ((try simp -implicitDefEqProofs [h, hb]); repeat' first | ((with_reducible first | apply gdK_em | apply cdK_em | apply pickK_em) <;> (intro hc; have hc' := hc; (try simp at hc'); simp -implicitDefEqProofs [hc, hc', h, hb])))
   refine loop_rule (X := Nat) (fun q => p ≤ q ∧ q ≤ s.length ∧ q + skR (s.drop q) true = T) (fun q => [(0, vS s), (1, vI q)]) (fun _ => St0) (fun q => s.length - q) p ⟨Nat.le_refl _, hp, by rw [hx, skR, hc, if_neg (by omega), if_pos (.inl rfl)]; exact hk⟩ (by simp) ?_
   rintro q ⟨hpq, hq, hkq⟩ hbd
   clear hbd
   rcases Nat.lt_or_ge q s.length with g | g
   ·obtain ⟨d, gx, gb⟩ := dropc_at g
    have g3 : IntKind.i64.wrap ((q : Int) + 1) = (q : Int) + 1 := wrap64 (by omega) (by omega)
    rw [gx, skR] at hkq
    by_cases d10 : d.toNat = 10
    ·rw [if_pos d10] at hkq
     have z : byteAt s q = 10 := by rw [gb, d10]; rfl
     ((try simp -implicitDefEqProofs [g, z]); repeat' first | ((with_reducible first | apply gdK_em | apply cdK_em | apply pickK_em) <;> (intro hc; have hc' := hc; (try simp at hc'); simp -implicitDefEqProofs [hc, hc', g, z])))
     refine ⟨q, ⟨by omega, by rw [gx, skR, if_pos d10]; exact hkq⟩, ?_, rfl⟩
     have : q ≠ p := by rintro rfl; rw [hb] at z; exact absurd z (by decide)
     omega
    ·rw [if_neg d10, if_pos (.inl rfl)] at hkq
     have z : (byteAt s q != 10) = true := by rw [gb]; simp; omega
     have z' : ¬ byteAt s q = 10 := by rw [gb]; omega
     ((try simp -implicitDefEqProofs [g, z, z', g3]); repeat' first | ((with_reducible first | apply gdK_em | apply cdK_em | apply pickK_em) <;> (intro hc; have hc' := hc; (try simp at hc'); simp -implicitDefEqProofs [hc, hc', g, z, z', g3])))
     exact ⟨q + 1, ⟨by omega, by omega, by omega⟩, by omega, by push_cast; rfl⟩
   ·have : q = s.length := by omega
    subst this
    ((try simp -implicitDefEqProofs); repeat' first | ((with_reducible first | apply gdK_em | apply cdK_em | apply pickK_em) <;> (intro hc; have hc' := hc; (try simp at hc'); simp -implicitDefEqProofs [hc, hc'])))
    exact ⟨s.length, ⟨Nat.le_refl _, by simpa [skR] using hkq⟩, by omega, rfl⟩
  ·have k35 : (byteAt s p == 35) = false := by rw [hb]; simp; omega
   have k35' : ¬ byteAt s p = 35 := by rw [hb]; omega
   by_cases cw : n = 32 ∨ n = 9 ∨ n = 10 ∨ n = 13
   ·have hk' : p + 1 + skR (s.drop (p + 1)) false = T := by
     rcases cw with rfl | rfl | rfl | rfl
     ·rw [if_neg (by omega), if_pos (by simp)] at hk; omega
     ·rw [if_neg (by omega), if_pos (by simp)] at hk; omega
     ·rw [if_pos rfl] at hk; omega
     ·rw [if_neg (by omega), if_pos (by simp)] at hk; omega
    rcases cw with rfl | rfl | rfl | rfl <;> (((try simp -implicitDefEqProofs [h, hb, e3]); repeat' first | ((with_reducible first | apply gdK_em | apply cdK_em | apply pickK_em) <;> (intro hc; have hc' := hc; (try simp at hc'); simp -implicitDefEqProofs [hc, hc', h, hb, e3]))); exact ⟨p + 1, ⟨by omega, hk'⟩, by omega, by push_cast; rfl⟩)
   ·rw [if_neg (by omega), if_neg (by simp; omega), if_neg c35] at hk
    have hpT : p = T := by omega
    subst hpT
    have z1 : (byteAt s p == 32) = false := by rw [hb]; simp; omega
    have z2 : (byteAt s p == 9) = false := by rw [hb]; simp; omega
    have z3 : (byteAt s p == 10) = false := by rw [hb]; simp; omega
    have z4 : (byteAt s p == 13) = false := by rw [hb]; simp; omega
    ((try simp -implicitDefEqProofs [h, k35, z1, z2, z3, z4]); repeat' first | ((with_reducible first | apply gdK_em | apply cdK_em | apply pickK_em) <;> (intro hc; have hc' := hc; (try simp at hc'); simp -implicitDefEqProofs [hc, hc', h, k35, z1, z2, z3, z4])))
 ·have : p = s.length := by omega
  subst this
  have : s.length = T := by simpa [skR] using hk
  subst this
  ((try simp -implicitDefEqProofs); repeat' first | ((with_reducible first | apply gdK_em | apply cdK_em | apply pickK_em) <;> (intro hc; have hc' := hc; (try simp at hc'); simp -implicitDefEqProofs [hc, hc'])))
theorem sgl_in : ∀ n : Fin 256, inS [[123], [125], [40], [41], [44], [59], [61], [43], [45], [42], [60], [62]] [UInt8.ofNat n.val] = decide (0 ≤ Lib.indexByte sglL (UInt8.ofNat n.val)) := by decide +kernel
theorem sgl_in' (c : UInt8) : inS [[123], [125], [40], [41], [44], [59], [61], [43], [45], [42], [60], [62]] [c] = decide (0 ≤ Lib.indexByte sglL c) := by
 have h := sgl_in ⟨c.toNat, c.toNat_lt⟩
 simpa using h
def rtk (s : List UInt8) (p : Nat) : List T := if (nextR (s.drop p)).1 = 0 then [.int .i64 0, .str [], .int .i64 0] else [.int .i64 (nextR (s.drop p)).1, .str ((s.take (p + (nextR (s.drop p)).2)).drop p), .int .i64 p]
theorem w_rnext (s : List UInt8) (hs : s.length ≤ 1000000) (p : Nat) (hp : p < s.length) : Pure Tryz.prog 67 [vS s, vI p] (.agg ((rtk s p).map .t)) := by
 obtain ⟨c, hx, hb⟩ := dropc_at hp
 have hh : headI (s.drop p) = (c.toNat : Int) := by rw [hx]; rfl
 have hcc : (c.toNat : Int).toNat.toUInt8 = c := by simp
 generalize hR : V.agg ((rtk s p).map .t) = R
 unfold rtk nextR at hR
 rw [hh, hcc] at hR
 have h1 := w_rletter (c.toNat : Int)
 have h2 := w_rdigit (c.toNat : Int)
 cases ha : ltrI (c.toNat : Int)
 ·rw [ha] at h1
  cases hd : digI (c.toNat : Int)
  ·rw [hd] at h2
   rw [ha, hd] at hR
   rw [if_neg (show ¬ (false = true) by simp), if_neg (show ¬ (false = true) by simp)] at hR
   have hsg := sgl_in' c
   have i1 := w_In [[46, 46], [60, 61], [62, 61], [33, 61]] ((s.take (p + 2)).drop p)
   have i2 := w_In [[123], [125], [40], [41], [44], [59], [61], [43], [45], [42], [60], [62]] ((s.take (p + 1)).drop p)
   have t1 : (s.take (p + 1)).drop p = [c] := by
    rw [List.drop_take, hx, show p + 1 - p = 1 by omega]; rfl
   have t2 : (s.take (p + 2)).drop p = (s.drop p).take 2 := by
    rw [List.drop_take, show p + 2 - p = 2 by omega]
   have e1 : IntKind.i64.wrap ((p : Int) + 1) = (p : Int) + 1 := wrap64 (by omega) (by omega)
   have e2 : IntKind.i64.wrap ((p : Int) + 2) = (p : Int) + 2 := wrap64 (by omega) (by omega)
   have n1 : ((p : Int) + 1).toNat = p + 1 := by omega
   have n2 : ((p : Int) + 2).toNat = p + 2 := by omega
   have g1 : (p : Int) ≤ p + 1 := by omega
   have g2 : (p : Int) ≤ p + 2 := by omega
   have g3 : (p : Int) + 1 ≤ s.length := by omega
   have hdb : inS [[46, 46], [60, 61], [62, 61], [33, 61]] ((s.drop p).take 2) = dblL.any (fun y => decide ((s.drop p).take 2 = y)) := by
    unfold inS dblL
    simp [eq_comm]
   simp only [vSL, List.map] at i1 i2
   rw [t1, hsg] at i2
   rw [t2, hdb] at i1
   rw [List.length_drop] at hR
   generalize hq2 : (s.drop p).take 2 = q2 at *
   generalize (dblL.any fun y => decide (q2 = y)) = d at *
   by_cases hlen : p + 2 ≤ s.length
   ·have l1 : decide (1 < s.length - p) = true := by simp; omega
    have g4 : (p : Int) + 2 ≤ s.length := by omega
    rw [l1, Bool.true_and] at hR
    cases d
    ·rw [if_neg (show ¬ (false = true) by simp)] at hR
     by_cases hg : 0 ≤ Lib.indexByte sglL c
     ·rw [if_pos (decide_eq_true hg), if_neg (show ¬ (3 : Int) = 0 by decide), t1] at hR
      rw [decide_eq_true hg] at i2
      subst hR
      (refine Pure.of_code mix Tryz.call67 k_67 (by simp) (fun hB => ?_); (try simp at hB); (try simp -implicitDefEqProofs [qc_67]))
      ((try simp at h1); (try simp at h2); (try simp at i1); (try simp at i2); (try simp -implicitDefEqProofs [hp, hb, e1, e2, n1, n2, g1, g2, g3, g4, t1, t2, hq2]); repeat' first | ((with_reducible first | apply gdK_em | apply cdK_em | apply pickK_em) <;> (intro hc; have hc' := hc; (try simp at hc'); simp -implicitDefEqProofs [hc, hc', hp, hb, e1, e2, n1, n2, g1, g2, g3, g4, t1, t2, hq2])) | (with_reducible apply callK_pure <;> first | (simp only [eras, era, eras_map]; first | with_reducible exact h1 | with_reducible exact h2 | with_reducible exact i1 | with_reducible exact i2 | simpa using h1 | simpa using h2 | simpa using i1 | simpa using i2) | (simp -implicitDefEqProofs [hp, hb, e1, e2, n1, n2, g1, g2, g3, g4, t1, t2, hq2])))
     ·rw [if_neg (show ¬ (decide (0 ≤ Lib.indexByte sglL c) = true) by simpa using hg), if_pos rfl] at hR
      rw [decide_eq_false hg] at i2
      subst hR
      (refine Pure.of_code mix Tryz.call67 k_67 (by simp) (fun hB => ?_); (try simp at hB); (try simp -implicitDefEqProofs [qc_67]))
      ((try simp at h1); (try simp at h2); (try simp at i1); (try simp at i2); (try simp -implicitDefEqProofs [hp, hb, e1, e2, n1, n2, g1, g2, g3, g4, t1, t2, hq2]); repeat' first | ((with_reducible first | apply gdK_em | apply cdK_em | apply pickK_em) <;> (intro hc; have hc' := hc; (try simp at hc'); simp -implicitDefEqProofs [hc, hc', hp, hb, e1, e2, n1, n2, g1, g2, g3, g4, t1, t2, hq2])) | (with_reducible apply callK_pure <;> first | (simp only [eras, era, eras_map]; first | with_reducible exact h1 | with_reducible exact h2 | with_reducible exact i1 | with_reducible exact i2 | simpa using h1 | simpa using h2 | simpa using i1 | simpa using i2) | (simp -implicitDefEqProofs [hp, hb, e1, e2, n1, n2, g1, g2, g3, g4, t1, t2, hq2])))
    ·rw [if_pos rfl, if_neg (show ¬ (3 : Int) = 0 by decide), t2] at hR
     subst hR
     (refine Pure.of_code mix Tryz.call67 k_67 (by simp) (fun hB => ?_); (try simp at hB); (try simp -implicitDefEqProofs [qc_67]))
     ((try simp at h1); (try simp at h2); (try simp at i1); (try simp at i2); (try simp -implicitDefEqProofs [hp, hb, e1, e2, n1, n2, g1, g2, g3, g4, t1, t2, hq2]); repeat' first | ((with_reducible first | apply gdK_em | apply cdK_em | apply pickK_em) <;> (intro hc; have hc' := hc; (try simp at hc'); simp -implicitDefEqProofs [hc, hc', hp, hb, e1, e2, n1, n2, g1, g2, g3, g4, t1, t2, hq2])) | (with_reducible apply callK_pure <;> first | (simp only [eras, era, eras_map]; first | with_reducible exact h1 | with_reducible exact h2 | with_reducible exact i1 | with_reducible exact i2 | simpa using h1 | simpa using h2 | simpa using i1 | simpa using i2) | (simp -implicitDefEqProofs [hp, hb, e1, e2, n1, n2, g1, g2, g3, g4, t1, t2, hq2])))
   ·have l1 : decide (1 < s.length - p) = false := by simp; omega
    have g4 : ¬ (p : Int) + 2 ≤ s.length := by omega
    have g4' : decide ((p : Int) + 2 ≤ s.length) = false := by simp; omega
    rw [l1, Bool.false_and, if_neg (show ¬ (false = true) by simp)] at hR
    by_cases hg : 0 ≤ Lib.indexByte sglL c
    ·rw [if_pos (decide_eq_true hg), if_neg (show ¬ (3 : Int) = 0 by decide), t1] at hR
     rw [decide_eq_true hg] at i2
     subst hR
     (refine Pure.of_code mix Tryz.call67 k_67 (by simp) (fun hB => ?_); (try simp at hB); (try simp -implicitDefEqProofs [qc_67]))
     ((try simp at h1); (try simp at h2); (try simp at i1); (try simp at i2); (try simp -implicitDefEqProofs [hp, hb, e1, e2, n1, n2, g1, g2, g3, g4, g4', t1, t2, hq2]); repeat' first | ((with_reducible first | apply gdK_em | apply cdK_em | apply pickK_em) <;> (intro hc; have hc' := hc; (try simp at hc'); simp -implicitDefEqProofs [hc, hc', hp, hb, e1, e2, n1, n2, g1, g2, g3, g4, g4', t1, t2, hq2])) | (with_reducible apply callK_pure <;> first | (simp only [eras, era, eras_map]; first | with_reducible exact h1 | with_reducible exact h2 | with_reducible exact i1 | with_reducible exact i2 | simpa using h1 | simpa using h2 | simpa using i1 | simpa using i2) | (simp -implicitDefEqProofs [hp, hb, e1, e2, n1, n2, g1, g2, g3, g4, g4', t1, t2, hq2])))
    ·rw [if_neg (show ¬ (decide (0 ≤ Lib.indexByte sglL c) = true) by simpa using hg), if_pos rfl] at hR
     rw [decide_eq_false hg] at i2
     subst hR
     (refine Pure.of_code mix Tryz.call67 k_67 (by simp) (fun hB => ?_); (try simp at hB); (try simp -implicitDefEqProofs [qc_67]))
     ((try simp at h1); (try simp at h2); (try simp at i1); (try simp at i2); (try simp -implicitDefEqProofs [hp, hb, e1, e2, n1, n2, g1, g2, g3, g4, g4', t1, t2, hq2]); repeat' first | ((with_reducible first | apply gdK_em | apply cdK_em | apply pickK_em) <;> (intro hc; have hc' := hc; (try simp at hc'); simp -implicitDefEqProofs [hc, hc', hp, hb, e1, e2, n1, n2, g1, g2, g3, g4, g4', t1, t2, hq2])) | (with_reducible apply callK_pure <;> first | (simp only [eras, era, eras_map]; first | with_reducible exact h1 | with_reducible exact h2 | with_reducible exact i1 | with_reducible exact i2 | simpa using h1 | simpa using h2 | simpa using i1 | simpa using i2) | (simp -implicitDefEqProofs [hp, hb, e1, e2, n1, n2, g1, g2, g3, g4, g4', t1, t2, hq2])))
  ·rw [hd] at h2
   rw [ha, hd] at hR
   rw [if_neg (show ¬ (false = true) by simp), if_pos rfl, if_neg (show ¬ (2 : Int) = 0 by decide)] at hR
   (refine Pure.of_code mix Tryz.call67 k_67 (by simp) (fun hB => ?_); (try simp at hB); (try simp -implicitDefEqProofs [qc_67]))
   ((try simp at h1); (try simp at h2); (try simp -implicitDefEqProofs [hp, hb]); repeat' first | ((with_reducible first | apply gdK_em | apply cdK_em | apply pickK_em) <;> (intro hc; have hc' := hc; (try simp at hc'); simp -implicitDefEqProofs [hc, hc', hp, hb])) | (with_reducible apply callK_pure <;> first | (simp only [eras, era, eras_map]; first | with_reducible exact h1 | with_reducible exact h2 | simpa using h1 | simpa using h2) | (simp -implicitDefEqProofs [hp, hb])))
   refine loop_rule (X := Nat) (fun k => k ≤ (s.drop p).length ∧ ∀ j : Nat, j < k → digI (byteAt (s.drop p) j) = true) (fun k => [(0, vS s), (1, vI p), (4, .ptr 0 0), (5, vI ((p : Int) + k))]) (fun _ => ⟨[.cells [vI 0, vS [], vI 0]], []⟩) (fun k => s.length - p - k) 0 ⟨by omega, fun j hj => by omega⟩ (by simp) ?_
   rintro k ⟨hk, hj⟩ hbd
   clear hbd
   have hk' := hk
   rw [List.length_drop] at hk'
   rcases Nat.lt_or_ge (p + k) s.length with h | h
   ·have z := w_rdigit (byteAt s ((p : Int) + k))
    have e3 : IntKind.i64.wrap ((p : Int) + k + 1) = (p : Int) + k + 1 := wrap64 (by omega) (by omega)
    have hI : (p : Int) + k < s.length := by omega
    have hI' : decide ((p : Int) + k < s.length) = true := by simpa using hI
    have tN : ((p : Int) + k).toNat = p + k := by omega
    have g0 : (0 : Int) ≤ (p : Int) + k := by omega
    have g1 : (p : Int) ≤ (p : Int) + k := by omega
    have g2 : (p : Int) + k ≤ s.length := by omega
    have y : byteAt (s.drop p) k = byteAt s ((p : Int) + k) := by rw [byteAt_drop]; push_cast; rfl
    cases hz : digI (byteAt s ((p : Int) + k))
    ·rw [hz] at z
     rw [runR_at digI (s.drop p) k hk hj (.inr (by rw [y]; exact hz))] at hR
     subst hR
     ((try simp at z); (try simp -implicitDefEqProofs [h, hI, hI', tN, g0, g1, g2]); repeat' first | ((with_reducible first | apply gdK_em | apply cdK_em | apply pickK_em) <;> (intro hc; have hc' := hc; (try simp at hc'); simp -implicitDefEqProofs [hc, hc', h, hI, hI', tN, g0, g1, g2])) | (with_reducible apply callK_pure <;> first | (simp only [eras, era, eras_map]; first | with_reducible exact z | simpa using z) | (simp -implicitDefEqProofs [h, hI, hI', tN, g0, g1, g2])))
    ·rw [hz] at z
     ((try simp at z); (try simp -implicitDefEqProofs [h, hI, hI', tN, g0, g1, g2, e3]); repeat' first | ((with_reducible first | apply gdK_em | apply cdK_em | apply pickK_em) <;> (intro hc; have hc' := hc; (try simp at hc'); simp -implicitDefEqProofs [hc, hc', h, hI, hI', tN, g0, g1, g2, e3])) | (with_reducible apply callK_pure <;> first | (simp only [eras, era, eras_map]; first | with_reducible exact z | simpa using z) | (simp -implicitDefEqProofs [h, hI, hI', tN, g0, g1, g2, e3])))
     refine ⟨k + 1, ⟨by omega, fun j hjk => ?_⟩, by omega, by push_cast; omega⟩
     rcases Nat.lt_or_ge j k with h1 | h1
     ·exact hj j h1
     ·have : j = k := by omega
      subst this; rw [y]; exact hz
   ·have hkl : k = (s.drop p).length := by rw [List.length_drop]; omega
    rw [runR_at digI (s.drop p) k hk hj (.inl hkl)] at hR
    have hpk : p + k = s.length := by omega
    subst hR
    have hI : ((p : Int) + k) = s.length := by omega
    rw [hpk, hI]
    have g1 : (p : Int) ≤ s.length := by omega
    ((try simp -implicitDefEqProofs [g1]); repeat' first | ((with_reducible first | apply gdK_em | apply cdK_em | apply pickK_em) <;> (intro hc; have hc' := hc; (try simp at hc'); simp -implicitDefEqProofs [hc, hc', g1])))
 ·rw [ha] at h1
  rw [ha, if_pos rfl, if_neg (show ¬ (1 : Int) = 0 by decide)] at hR
  (refine Pure.of_code mix Tryz.call67 k_67 (by simp) (fun hB => ?_); (try simp at hB); (try simp -implicitDefEqProofs [qc_67]))
  ((try simp at h1); (try simp at h2); (try simp -implicitDefEqProofs [hp, hb]); repeat' first | ((with_reducible first | apply gdK_em | apply cdK_em | apply pickK_em) <;> (intro hc; have hc' := hc; (try simp at hc'); simp -implicitDefEqProofs [hc, hc', hp, hb])) | (with_reducible apply callK_pure <;> first | (simp only [eras, era, eras_map]; first | with_reducible exact h1 | with_reducible exact h2 | simpa using h1 | simpa using h2) | (simp -implicitDefEqProofs [hp, hb])))
  refine loop_rule (X := Nat) (fun k => k ≤ (s.drop p).length ∧ ∀ j : Nat, j < k → nmcI (byteAt (s.drop p) j) = true) (fun k => [(0, vS s), (1, vI p), (4, .ptr 0 0), (5, vI ((p : Int) + k))]) (fun _ => ⟨[.cells [vI 0, vS [], vI 0]], []⟩) (fun k => s.length - p - k) 0 ⟨by omega, fun j hj => by omega⟩ (by simp) ?_
  rintro k ⟨hk, hj⟩ hbd
  clear hbd
  have hk' := hk
  rw [List.length_drop] at hk'
  rcases Nat.lt_or_ge (p + k) s.length with h | h
  ·have z1 := w_rletter (byteAt s ((p : Int) + k))
   have z2 := w_rdigit (byteAt s ((p : Int) + k))
   have e3 : IntKind.i64.wrap ((p : Int) + k + 1) = (p : Int) + k + 1 := wrap64 (by omega) (by omega)
   have hI : (p : Int) + k < s.length := by omega
   have hI' : decide ((p : Int) + k < s.length) = true := by simpa using hI
   have tN : ((p : Int) + k).toNat = p + k := by omega
   have g0 : (0 : Int) ≤ (p : Int) + k := by omega
   have g1 : (p : Int) ≤ (p : Int) + k := by omega
   have g2 : (p : Int) + k ≤ s.length := by omega
   have y : byteAt (s.drop p) k = byteAt s ((p : Int) + k) := by rw [byteAt_drop]; push_cast; rfl
   have hn : nmcI (byteAt s ((p : Int) + k)) = (ltrI (byteAt s ((p : Int) + k)) || digI (byteAt s ((p : Int) + k)) || (byteAt s ((p : Int) + k) == 95)) := rfl
   cases hz : nmcI (byteAt s ((p : Int) + k))
   ·rw [runR_at nmcI (s.drop p) k hk hj (.inr (by rw [y]; exact hz))] at hR
    subst hR
    rw [hz] at hn
    have hn' := hn.symm
    simp only [Bool.or_eq_false_iff] at hn'
    obtain ⟨⟨q1, q2⟩, q3⟩ := hn'
    rw [q1] at z1
    rw [q2] at z2
    ((try simp at z1); (try simp at z2); (try simp -implicitDefEqProofs [h, hI, hI', tN, g0, g1, g2, q3]); repeat' first | ((with_reducible first | apply gdK_em | apply cdK_em | apply pickK_em) <;> (intro hc; have hc' := hc; (try simp at hc'); simp -implicitDefEqProofs [hc, hc', h, hI, hI', tN, g0, g1, g2, q3])) | (with_reducible apply callK_pure <;> first | (simp only [eras, era, eras_map]; first | with_reducible exact z1 | with_reducible exact z2 | simpa using z1 | simpa using z2) | (simp -implicitDefEqProofs [h, hI, hI', tN, g0, g1, g2, q3])))
   ·have hnext : ∃ z' : Nat, (z' ≤ s.length - p ∧ ∀ j : Nat, j < z' → nmcI (byteAt (s.drop p) j) = true) ∧ s.length - p - z' < s.length - p - k ∧ ((p : Int) + z') = (p : Int) + k + 1 := by
     refine ⟨k + 1, ⟨by omega, fun j hjk => ?_⟩, by omega, by push_cast; omega⟩
     rcases Nat.lt_or_ge j k with h1 | h1
     ·exact hj j h1
     ·have : j = k := by omega
      subst this; rw [y]; exact hz
    rw [hz] at hn
    generalize ltrI (byteAt s ((p : Int) + k)) = a1 at *
    generalize digI (byteAt s ((p : Int) + k)) = a2 at *
    cases a1
    ·cases a2
     ·have q3 : (byteAt s ((p : Int) + k) == 95) = true := by simpa using hn.symm
      ((try simp at z1); (try simp at z2); (try simp -implicitDefEqProofs [h, hI, hI', tN, g0, g1, g2, e3, q3]); repeat' first | ((with_reducible first | apply gdK_em | apply cdK_em | apply pickK_em) <;> (intro hc; have hc' := hc; (try simp at hc'); simp -implicitDefEqProofs [hc, hc', h, hI, hI', tN, g0, g1, g2, e3, q3])) | (with_reducible apply callK_pure <;> first | (simp only [eras, era, eras_map]; first | with_reducible exact z1 | with_reducible exact z2 | simpa using z1 | simpa using z2) | (simp -implicitDefEqProofs [h, hI, hI', tN, g0, g1, g2, e3, q3])))
      exact hnext
     ·((try simp at z1); (try simp at z2); (try simp -implicitDefEqProofs [h, hI, hI', tN, g0, g1, g2, e3]); repeat' first | ((with_reducible first | apply gdK_em | apply cdK_em | apply pickK_em) <;> (intro hc; have hc' := hc; (try simp at hc'); simp -implicitDefEqProofs [hc, hc', h, hI, hI', tN, g0, g1, g2, e3])) | (with_reducible apply callK_pure <;> first | (simp only [eras, era, eras_map]; first | with_reducible exact z1 | with_reducible exact z2 | simpa using z1 | simpa using z2) | (simp -implicitDefEqProofs [h, hI, hI', tN, g0, g1, g2, e3])))
      exact hnext
    ·((try simp at z1); (try simp at z2); (try simp -implicitDefEqProofs [h, hI, hI', tN, g0, g1, g2, e3]); repeat' first | ((with_reducible first | apply gdK_em | apply cdK_em | apply pickK_em) <;> (intro hc; have hc' := hc; (try simp at hc'); simp -implicitDefEqProofs [hc, hc', h, hI, hI', tN, g0, g1, g2, e3])) | (with_reducible apply callK_pure <;> first | (simp only [eras, era, eras_map]; first | with_reducible exact z1 | with_reducible exact z2 | simpa using z1 | simpa using z2) | (simp -implicitDefEqProofs [h, hI, hI', tN, g0, g1, g2, e3])))
     exact hnext
  ·have hkl : k = (s.drop p).length := by rw [List.length_drop]; omega
   rw [runR_at nmcI (s.drop p) k hk hj (.inl hkl)] at hR
   have hpk : p + k = s.length := by omega
   subst hR
   have hI : ((p : Int) + k) = s.length := by omega
   rw [hpk, hI]
   have g1 : (p : Int) ≤ s.length := by omega
   ((try simp -implicitDefEqProofs [g1]); repeat' first | ((with_reducible first | apply gdK_em | apply cdK_em | apply pickK_em) <;> (intro hc; have hc' := hc; (try simp at hc'); simp -implicitDefEqProofs [hc, hc', g1])))
theorem w_rValue (k : Int) (s : List UInt8) (fr : Int) (hs : s.length ≤ 1000000) : Pure Tryz.prog 68 [.agg [vI k, vS s, vI fr]] (.tup [vI (valR k s).1, vB (valR k s).2]) := by
 have hR := rfl (a := valR k s)
 conv at hR => lhs; unfold valR
 generalize valR k s = R at *
 by_cases hk : k = 2
 ·subst hk
  by_cases hn : s = []
  ·subst hn
   rw [if_neg (by simp)] at hR
   subst hR
   (refine Pure.of_code mix Tryz.call68 k_68 (by simp) (fun hB => ?_); (try simp at hB); (try simp -implicitDefEqProofs [qc_68]))
   ((try simp -implicitDefEqProofs); repeat' first | ((with_reducible first | apply gdK_em | apply cdK_em | apply pickK_em) <;> (intro hc; have hc' := hc; (try simp at hc'); simp -implicitDefEqProofs [hc, hc'])))
  ·have hn' : s.length ≠ 0 := by simpa using hn
   have hnA : ((s.length : Int) == 0) = false := by simpa using hn'
   (refine Pure.of_code mix Tryz.call68 k_68 (by simp) (fun hB => ?_); (try simp at hB); (try simp -implicitDefEqProofs [qc_68]))
   ((try simp -implicitDefEqProofs [hn, hn', hnA]); repeat' first | ((with_reducible first | apply gdK_em | apply cdK_em | apply pickK_em) <;> (intro hc; have hc' := hc; (try simp at hc'); simp -implicitDefEqProofs [hc, hc', hn, hn', hnA])))
   refine loop_rule (X := Nat × Nat) (fun X => X.1 ≤ s.length ∧ X.2 ≤ 1000000000000 ∧ numR X.2 (s.drop X.1) = numR 0 s ∧ ∀ j : Nat, j < X.1 → digI (byteAt s j) = true) (fun X => [(1, .ptr 0 0), (4, vI X.2), (5, vI X.1)]) (fun X => ⟨[.cells [vI 2, vS s, vI fr]], []⟩) (fun X => s.length - X.1) (0, 0) ⟨by omega, by omega, by simp, fun j hj => by omega⟩ (by simp) ?_
   rintro ⟨p, n⟩ ⟨hp, hnm, hnum, hdg⟩ hbd
   simp only [] at hp hnm hnum hdg
   clear hbd
   rcases Nat.lt_or_ge p s.length with h | h
   ·obtain ⟨c, hx, hb⟩ := dropc_at h
    have hd := w_rdigit (byteAt s p)
    have e5 : IntKind.i64.wrap ((p : Int) + 1) = (p : Int) + 1 := wrap64 (by omega) (by omega)
    cases hz : digI (byteAt s p)
    ·rw [hz] at hd
     have hr : runR digI s = p := runR_at digI s p hp hdg (.inr hz)
     rw [if_neg (fun q => by have := q.2.2; omega)] at hR
     subst hR
     ((try simp at hd); (try simp -implicitDefEqProofs [h]); repeat' first | ((with_reducible first | apply gdK_em | apply cdK_em | apply pickK_em) <;> (intro hc; have hc' := hc; (try simp at hc'); simp -implicitDefEqProofs [hc, hc', h])) | (with_reducible apply callK_pure <;> first | (simp only [eras, era, eras_map]; first | with_reducible exact hd | simpa using hd) | (simp -implicitDefEqProofs [h])))
    ·rw [hz] at hd
     have hdp := hz
     rw [hb] at hdp
     simp only [digI, Bool.and_eq_true, decide_eq_true_eq] at hdp
     rw [hx, numR] at hnum
     have hdg' : ∀ j : Nat, j < p + 1 → digI (byteAt s j) = true := fun j hj => by
      rcases Nat.lt_or_ge j p with h1 | h1
      ·exact hdg j h1
      ·have : j = p := by omega
       subst this; exact hz
     generalize c.toNat = d at *
     have e1 : IntKind.i64.wrap (10 * (n : Int)) = 10 * (n : Int) := wrap64 (by omega) (by omega)
     have e2 : IntKind.u8.wrap ((d : Int) - 48) = (d : Int) - 48 := by
      unfold IntKind.wrap; simp [IntKind.signed, IntKind.bits]; omega
     have e3 : IntKind.i64.wrap ((d : Int) - 48) = (d : Int) - 48 := wrap64 (by omega) (by omega)
     have e4 : IntKind.i64.wrap (10 * (n : Int) + ((d : Int) - 48)) = 10 * (n : Int) + ((d : Int) - 48) := wrap64 (by omega) (by omega)
     by_cases hbg : 1000000000000 < 10 * n + (d - 48)
     ·rw [if_pos hbg] at hnum
      rw [← hnum] at hR
      have hR' : R = (0, false) := by rw [← hR]; split <;> rfl
      subst hR'
      have hb' : decide ((1000000000000 : Int) < 10 * (n : Int) + ((d : Int) - 48)) = true := by simp; omega
      rw [hb] at hd
      ((try simp at hd); (try simp -implicitDefEqProofs [h, hb, e1, e2, e3, e4, hb']); repeat' first | ((with_reducible first | apply gdK_em | apply cdK_em | apply pickK_em) <;> (intro hc; have hc' := hc; (try simp at hc'); simp -implicitDefEqProofs [hc, hc', h, hb, e1, e2, e3, e4, hb'])) | (with_reducible apply callK_pure <;> first | (simp only [eras, era, eras_map]; first | with_reducible exact hd | simpa using hd) | (simp -implicitDefEqProofs [h, hb, e1, e2, e3, e4, hb'])))
     ·rw [if_neg hbg] at hnum
      have hb' : decide ((1000000000000 : Int) < 10 * (n : Int) + ((d : Int) - 48)) = false := by simp; omega
      rw [hb] at hd
      ((try simp at hd); (try simp -implicitDefEqProofs [h, hb, e1, e2, e3, e4, e5, hb']); repeat' first | ((with_reducible first | apply gdK_em | apply cdK_em | apply pickK_em) <;> (intro hc; have hc' := hc; (try simp at hc'); simp -implicitDefEqProofs [hc, hc', h, hb, e1, e2, e3, e4, e5, hb'])) | (with_reducible apply callK_pure <;> first | (simp only [eras, era, eras_map]; first | with_reducible exact hd | simpa using hd) | (simp -implicitDefEqProofs [h, hb, e1, e2, e3, e4, e5, hb'])))
      exact ⟨p + 1, 10 * n + (d - 48), ⟨by omega, by omega, hnum, hdg'⟩, by omega, by omega, by push_cast; rfl⟩
   ·have : p = s.length := by omega
    subst this
    have hr : runR digI s = s.length := runR_at digI s s.length hp hdg (.inl rfl)
    have : numR n (s.drop s.length) = some n := by simp [numR]
    rw [this] at hnum
    rw [if_pos ⟨rfl, hn, hr⟩, ← hnum] at hR
    subst hR
    ((try simp -implicitDefEqProofs); repeat' first | ((with_reducible first | apply gdK_em | apply cdK_em | apply pickK_em) <;> (intro hc; have hc' := hc; (try simp at hc'); simp -implicitDefEqProofs [hc, hc'])))
 ·rw [if_neg (fun h => hk h.1)] at hR
  subst hR
  have hk' : (k != 2) = true := by simpa using hk
  (refine Pure.of_code mix Tryz.call68 k_68 (by simp) (fun hB => ?_); (try simp at hB); (try simp -implicitDefEqProofs [qc_68]))
  ((try simp -implicitDefEqProofs [hk, hk']); repeat' first | ((with_reducible first | apply gdK_em | apply cdK_em | apply pickK_em) <;> (intro hc; have hc' := hc; (try simp at hc'); simp -implicitDefEqProofs [hc, hc', hk, hk'])))
end Go.Proofs.YtpggidmbnjfmaaaGreatDoor
