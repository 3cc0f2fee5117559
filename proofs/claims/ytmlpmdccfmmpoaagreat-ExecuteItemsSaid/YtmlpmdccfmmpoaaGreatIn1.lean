/- Integers of any length: signs, limbs in order, comparisons; the program's and the reference's. -/
import Derived.Test.YtmlpmdccfmmpoaaGreatSlices
import Derived.Test.YtmlpmdccfmmpoaaGreatCodeB
import Derived.Test.YtmlpmdccfmmpoaaGreatRaP
set_option linter.unusedSimpArgs false
set_option linter.unusedVariables false
set_option maxHeartbeats 1000000
set_option maxRecDepth 8000
namespace Go.Proofs.YtmlpmdccfmmpoaaGreat
open E

def b9 : Nat := 1000000000
def b4 : Nat := 10000
theorem b9_2 : 2 ≤ b9 := by decide
theorem b4_2 : 2 ≤ b4 := by decide
theorem b9_0 : 0 < b9 := by decide
theorem b4_0 : 0 < b4 := by decide
def lE (k : IntKind) (l : List Nat) : List (List T) := l.map fun (x : Nat) => [T.int k (x : Int)]
def lT (k : IntKind) (l : List Nat) : T := .sl (lE k l)
def iC (B : Nat) (k : IntKind) (z : Int) : List T := [.bool (decide (z < 0)), lT k (lims B z.natAbs)]
def iV (B : Nat) (k : IntKind) (z : Int) : V := .agg ((iC B k z).map .t)
@[simp] theorem lE_len (k : IntKind) (l : List Nat) : (lE k l).length = l.length := by simp [lE]
theorem lE_w (k : IntKind) (l : List Nat) : ∀ e : List T, e ∈ lE k l → e.length = 1 := fun e he => by
 obtain ⟨x, _, rfl⟩ := List.mem_map.1 he; rfl
theorem lE_get {k : IntKind} {l : List Nat} {i x : Nat} (h : l[i]? = some x) : (lE k l)[i]? = some [.int k (x : Int)] := by simp [lE, h]
theorem lE_get' {k : IntKind} {l : List Nat} {i x : Nat} (h : l[i]? = some x) : ∀ hi, (lE k l)[i]'hi = [.int k (x : Int)] := fun hi => by
 have := lE_get (k := k) h; rw [List.getElem?_eq_getElem hi] at this; exact Option.some.inj this
theorem lE_take (k : IntKind) (l : List Nat) (n : Nat) : (lE k l).take n = lE k (l.take n) := by simp [lE, List.map_take]
theorem lE_drop (k : IntKind) (l : List Nat) (n : Nat) : (lE k l).drop n = lE k (l.drop n) := by simp [lE, List.map_drop]
theorem lE_app (k : IntKind) (a b : List Nat) : lE k (a ++ b) = lE k a ++ lE k b := by simp [lE]
theorem lE_nil (k : IntKind) : lE k [] = [] := rfl
theorem lE_one (k : IntKind) (x : Nat) : lE k [x] = [[.int k (x : Int)]] := rfl

theorem w_trim {l : List Nat} (h : Lim b9 l) : Pure Tryz.prog 103 [.t (lT .u32 l)] (.t (lT .u32 (lims b9 (lvl b9 l)))) := by
 unfold lT
 (refine Pure.of_code mix Tryz.call103 k_103 (by simp) (fun hB => ?_); (try simp at hB); (try simp -implicitDefEqProofs [c_integer_trim_103]))
 refine loop_rule (X := Nat) (fun k => k ≤ l.length ∧ ∀ j, k ≤ j → j < l.length → l[j]? = some 0) (fun k => [(0, .t (.sl (lE .u32 (l.take k))))]) (fun _ => ⟨[], []⟩) (fun k => k) l.length ⟨by omega, fun j h1 h2 => by omega⟩ ?hs ?_
 case hs => simp
 rintro k ⟨hk, hz⟩ hbd
 have hm : min k l.length = k := by omega
 rcases Nat.eq_zero_or_pos k with k0 | k0
 ·subst k0
  have e := lims_trim b9_2 h 0 (by omega) hz (.inl rfl)
  rw [e]
  ((try simp -implicitDefEqProofs [lE_nil]); repeat' first | ((with_reducible first | apply gdK_em | apply cdK_em | apply pickK_em) <;> (intro hc; have hc' := hc; (try simp at hc'); simp -implicitDefEqProofs [hc, hc', lE_nil])))
 ·obtain ⟨x, hx⟩ := get_of_lt (show k - 1 < l.length by omega)
  have hxt : (l.take k)[k - 1]? = some x := by rw [List.getElem?_take, if_pos (by omega)]; exact hx
  have e3 : IntKind.i64.wrap ((k : Int) - 1) = (k : Int) - 1 := wrap64 (by omega) (by simp [maxLen] at hB; omega)
  have i1 : ((k : Int) - 1).toNat = k - 1 := by omega
  have g1 := lE_get (k := .u32) hxt
  have g2 := lE_get' (k := .u32) hxt
  have j1 : (1 : Int) ≤ k := by omega
  have j2 : (k : Int) - 1 < k := by omega
  have j3 : (k : Int) - 1 ≤ k := by omega
  by_cases h0 : x = 0
  ·subst h0
   ((try simp -implicitDefEqProofs [hm, e3, i1, g1, g2, k0, j1, j2, j3]); repeat' first | ((with_reducible first | apply gdK_em | apply cdK_em | apply pickK_em) <;> (intro hc; have hc' := hc; (try simp at hc'); simp -implicitDefEqProofs [hc, hc', hm, e3, i1, g1, g2, k0, j1, j2, j3])))
   refine ⟨lE_w _ _, k - 1, ⟨by omega, fun j h1 h2 => ?_⟩, by omega, ?_⟩
   ·by_cases hj : j = k - 1
    ·subst hj; exact hx
    ·exact hz j (by omega) h2
   ·rw [lE_take, List.take_take, Nat.min_eq_left (by omega)]
  ·have e := lims_trim b9_2 h k hk hz (.inr (by rw [hx]; intro e; exact h0 (Option.some.inj e)))
   have h1 : ((x : Int) == 0) = false := by simpa using h0
   rw [e]
   ((try simp -implicitDefEqProofs [hm, e3, i1, g1, g2, k0, h1, j1, j2, j3]); repeat' first | ((with_reducible first | apply gdK_em | apply cdK_em | apply pickK_em) <;> (intro hc; have hc' := hc; (try simp at hc'); simp -implicitDefEqProofs [hc, hc', hm, e3, i1, g1, g2, k0, h1, j1, j2, j3])))
theorem w_rtrim {l : List Nat} (h : Lim b4 l) : Pure Tryz.prog 87 [.t (lT .i64 l)] (.t (lT .i64 (lims b4 (lvl b4 l)))) := by
 unfold lT
 (refine Pure.of_code mix Tryz.call87 k_87 (by simp) (fun hB => ?_); (try simp at hB); (try simp -implicitDefEqProofs [c_tallystoneref01_trim_87]))
 refine loop_rule (X := Nat) (fun k => k ≤ l.length ∧ ∀ j, k ≤ j → j < l.length → l[j]? = some 0) (fun k => [(0, .t (.sl (lE .i64 (l.take k))))]) (fun _ => ⟨[], []⟩) (fun k => k) l.length ⟨by omega, fun j h1 h2 => by omega⟩ ?hs ?_
 case hs => simp
 rintro k ⟨hk, hz⟩ hbd
 have hm : min k l.length = k := by omega
 rcases Nat.eq_zero_or_pos k with k0 | k0
 ·subst k0
  have e := lims_trim b4_2 h 0 (by omega) hz (.inl rfl)
  rw [e]
  ((try simp -implicitDefEqProofs [lE_nil]); repeat' first | ((with_reducible first | apply gdK_em | apply cdK_em | apply pickK_em) <;> (intro hc; have hc' := hc; (try simp at hc'); simp -implicitDefEqProofs [hc, hc', lE_nil])))
 ·obtain ⟨x, hx⟩ := get_of_lt (show k - 1 < l.length by omega)
  have hxt : (l.take k)[k - 1]? = some x := by rw [List.getElem?_take, if_pos (by omega)]; exact hx
  have e3 : IntKind.i64.wrap ((k : Int) - 1) = (k : Int) - 1 := wrap64 (by omega) (by simp [maxLen] at hB; omega)
  have i1 : ((k : Int) - 1).toNat = k - 1 := by omega
  have g1 := lE_get (k := .i64) hxt
  have g2 := lE_get' (k := .i64) hxt
  have j1 : (1 : Int) ≤ k := by omega
  have j2 : (k : Int) - 1 < k := by omega
  have j3 : (k : Int) - 1 ≤ k := by omega
  by_cases h0 : x = 0
  ·subst h0
   ((try simp -implicitDefEqProofs [hm, e3, i1, g1, g2, k0, j1, j2, j3]); repeat' first | ((with_reducible first | apply gdK_em | apply cdK_em | apply pickK_em) <;> (intro hc; have hc' := hc; (try simp at hc'); simp -implicitDefEqProofs [hc, hc', hm, e3, i1, g1, g2, k0, j1, j2, j3])))
   refine ⟨lE_w _ _, k - 1, ⟨by omega, fun j h1 h2 => ?_⟩, by omega, ?_⟩
   ·by_cases hj : j = k - 1
    ·subst hj; exact hx
    ·exact hz j (by omega) h2
   ·rw [lE_take, List.take_take, Nat.min_eq_left (by omega)]
  ·have e := lims_trim b4_2 h k hk hz (.inr (by rw [hx]; intro e; exact h0 (Option.some.inj e)))
   have h1 : ((x : Int) == 0) = false := by simpa using h0
   rw [e]
   ((try simp -implicitDefEqProofs [hm, e3, i1, g1, g2, k0, h1, j1, j2, j3]); repeat' first | ((with_reducible first | apply gdK_em | apply cdK_em | apply pickK_em) <;> (intro hc; have hc' := hc; (try simp at hc'); simp -implicitDefEqProofs [hc, hc', hm, e3, i1, g1, g2, k0, h1, j1, j2, j3])))
def sgnI (neg : Bool) (n : Nat) : Int := if neg = true then -(n : Int) else n
theorem sgnI_abs (neg : Bool) (n : Nat) : (sgnI neg n).natAbs = n := by unfold sgnI; split <;> omega
theorem sgnI_neg (neg : Bool) (n : Nat) : decide (sgnI neg n < 0) = (neg && decide (0 < n)) := by
 unfold sgnI; cases neg
 ·simp
 ·simp
theorem lims_len0 {B : Nat} (hB : 2 ≤ B) (n : Nat) : decide ((0 : Int) < ((lims B n).length : Int)) = decide (0 < n) := by
 by_cases h : n = 0
 ·subst h; simp [lims_zero]
 ·have : 0 < (lims B n).length := by rw [lims_pos hB h]; simp
  simp [this]; omega
theorem w_signed {l : List Nat} (neg : Bool) (h : Lim b9 l) : Pure Tryz.prog 104 [vB neg, .t (lT .u32 l)] (iV b9 .u32 (sgnI neg (lvl b9 l))) := by
 have ht := w_trim h
 have h1 := lims_len0 b9_2 (lvl b9 l)
 have h2 := sgnI_neg neg (lvl b9 l)
 unfold iV iC
 rw [sgnI_abs, h2, ← h1]
 unfold lT at ht ⊢
 (refine Pure.of_code mix Tryz.call104 k_104 (by simp) (fun hB => ?_); (try simp at hB); (try simp -implicitDefEqProofs [c_integer_signed_104]))
 cases neg
 ·((try simp at ht); (try simp -implicitDefEqProofs); repeat' first | ((with_reducible first | apply gdK_em | apply cdK_em | apply pickK_em) <;> (intro hc; have hc' := hc; (try simp at hc'); simp -implicitDefEqProofs [hc, hc'])) | (with_reducible apply callK_pure <;> first | (simp only [eras, era, eras_map]; first | with_reducible exact ht | simpa using ht) | (simp -implicitDefEqProofs)))
 ·((try simp at ht); (try simp -implicitDefEqProofs); repeat' first | ((with_reducible first | apply gdK_em | apply cdK_em | apply pickK_em) <;> (intro hc; have hc' := hc; (try simp at hc'); simp -implicitDefEqProofs [hc, hc'])) | (with_reducible apply callK_pure <;> first | (simp only [eras, era, eras_map]; first | with_reducible exact ht | simpa using ht) | (simp -implicitDefEqProofs)))
theorem w_rsigned {l : List Nat} (neg : Bool) (h : Lim b4 l) : Pure Tryz.prog 64 [vB neg, .t (lT .i64 l)] (iV b4 .i64 (sgnI neg (lvl b4 l))) := by
 have ht := w_rtrim h
 have h1 := lims_len0 b4_2 (lvl b4 l)
 have h2 := sgnI_neg neg (lvl b4 l)
 unfold iV iC
 rw [sgnI_abs, h2, ← h1]
 unfold lT at ht ⊢
 (refine Pure.of_code mix Tryz.call64 k_64 (by simp) (fun hB => ?_); (try simp at hB); (try simp -implicitDefEqProofs [c_tallystoneref01_signed_64]))
 cases neg
 ·((try simp at ht); (try simp -implicitDefEqProofs); repeat' first | ((with_reducible first | apply gdK_em | apply cdK_em | apply pickK_em) <;> (intro hc; have hc' := hc; (try simp at hc'); simp -implicitDefEqProofs [hc, hc'])) | (with_reducible apply callK_pure <;> first | (simp only [eras, era, eras_map]; first | with_reducible exact ht | simpa using ht) | (simp -implicitDefEqProofs)))
 ·((try simp at ht); (try simp -implicitDefEqProofs); repeat' first | ((with_reducible first | apply gdK_em | apply cdK_em | apply pickK_em) <;> (intro hc; have hc' := hc; (try simp at hc'); simp -implicitDefEqProofs [hc, hc'])) | (with_reducible apply callK_pure <;> first | (simp only [eras, era, eras_map]; first | with_reducible exact ht | simpa using ht) | (simp -implicitDefEqProofs)))
def sgn (z : Int) : Int := if z < 0 then -1 else if z = 0 then 0 else 1
theorem lims_len_pos {B : Nat} (hB : 2 ≤ B) {n : Nat} (h : n ≠ 0) : 0 < (lims B n).length := by rw [lims_pos hB h]; simp
theorem w_Sign (z : Int) : Pure Tryz.prog 61 [iV b9 .u32 z] (vI (sgn z)) := by
 unfold iV iC lT sgn
 (refine Pure.of_code mix Tryz.call61 k_61 (by simp) (fun hB => ?_); (try simp at hB); (try simp -implicitDefEqProofs [c_integer_Sign_61]))
 by_cases h : z = 0
 ·subst h
  ((try simp -implicitDefEqProofs [lims_zero, lE_nil]); repeat' first | ((with_reducible first | apply gdK_em | apply cdK_em | apply pickK_em) <;> (intro hc; have hc' := hc; (try simp at hc'); simp -implicitDefEqProofs [hc, hc', lims_zero, lE_nil])))
 ·have h1 := lims_len_pos b9_2 (show z.natAbs ≠ 0 by omega)
  have h2 : (((lims b9 z.natAbs).length : Int) == 0) = false := by simp; intro e; simp [e] at h1
  by_cases h3 : z < 0
  ·((try simp -implicitDefEqProofs [h, h2, h3]); repeat' first | ((with_reducible first | apply gdK_em | apply cdK_em | apply pickK_em) <;> (intro hc; have hc' := hc; (try simp at hc'); simp -implicitDefEqProofs [hc, hc', h, h2, h3])))
  ·((try simp -implicitDefEqProofs [h, h2, h3]); repeat' first | ((with_reducible first | apply gdK_em | apply cdK_em | apply pickK_em) <;> (intro hc; have hc' := hc; (try simp at hc'); simp -implicitDefEqProofs [hc, hc', h, h2, h3])))
theorem w_rSign (z : Int) : Pure Tryz.prog 83 [iV b4 .i64 z] (vI (sgn z)) := by
 unfold iV iC lT sgn
 (refine Pure.of_code mix Tryz.call83 k_83 (by simp) (fun hB => ?_); (try simp at hB); (try simp -implicitDefEqProofs [c_tallystoneref01_Sign_83]))
 by_cases h : z = 0
 ·subst h
  ((try simp -implicitDefEqProofs [lims_zero, lE_nil]); repeat' first | ((with_reducible first | apply gdK_em | apply cdK_em | apply pickK_em) <;> (intro hc; have hc' := hc; (try simp at hc'); simp -implicitDefEqProofs [hc, hc', lims_zero, lE_nil])))
 ·have h1 := lims_len_pos b4_2 (show z.natAbs ≠ 0 by omega)
  have h2 : (((lims b4 z.natAbs).length : Int) == 0) = false := by simp; intro e; simp [e] at h1
  by_cases h3 : z < 0
  ·((try simp -implicitDefEqProofs [h, h2, h3]); repeat' first | ((with_reducible first | apply gdK_em | apply cdK_em | apply pickK_em) <;> (intro hc; have hc' := hc; (try simp at hc'); simp -implicitDefEqProofs [hc, hc', h, h2, h3])))
  ·((try simp -implicitDefEqProofs [h, h2, h3]); repeat' first | ((with_reducible first | apply gdK_em | apply cdK_em | apply pickK_em) <;> (intro hc; have hc' := hc; (try simp at hc'); simp -implicitDefEqProofs [hc, hc', h, h2, h3])))
theorem sgnI_flip (z : Int) : sgnI (!decide (z < 0)) z.natAbs = -z := by
 unfold sgnI
 by_cases h : z < 0 <;> simp [h] <;> omega
theorem w_Neg (z : Int) : Pure Tryz.prog 81 [iV b9 .u32 z] (iV b9 .u32 (-z)) := by
 have hs := w_signed (!decide (z < 0)) (lims_lim b9_2 z.natAbs)
 rw [lvl_lims b9_2, sgnI_flip] at hs
 unfold iV iC lT at *
 (refine Pure.of_code mix Tryz.call81 k_81 (by simp) (fun hB => ?_); (try simp at hB); (try simp -implicitDefEqProofs [c_integer_Neg_81]))
 ((try simp at hs); (try simp -implicitDefEqProofs); repeat' first | ((with_reducible first | apply gdK_em | apply cdK_em | apply pickK_em) <;> (intro hc; have hc' := hc; (try simp at hc'); simp -implicitDefEqProofs [hc, hc'])) | (with_reducible apply callK_pure <;> first | (simp only [eras, era, eras_map]; first | with_reducible exact hs | simpa using hs) | (simp -implicitDefEqProofs)))
end Go.Proofs.YtmlpmdccfmmpoaaGreat
