/- Quotients of integers: the reference's Scale. -/
import Derived.Test.YtmlpmdccfmmpoaaGreatInb
set_option linter.unusedSimpArgs false
set_option linter.unusedVariables false
set_option maxHeartbeats 2000000
set_option maxRecDepth 8000
namespace Go.Proofs.YtmlpmdccfmmpoaaGreat
open E

theorem Sm.len4 {z : Int} (h : Sm z) : (lims b4 z.natAbs).length ≤ 900 := by
 have := lims_len (B := b4) (n := z.natAbs) (k := 7) b4_2 (by unfold Sm at h; unfold b4; omega)
 omega
theorem w_rNew {n : Int} {d : Nat} (hn : Sm n) (hd : 0 < d) (hdb : d < b9) : Pure Tryz.prog 63 [iV b4 .i64 n, iV b4 .i64 d] (.tup [sV (lowN n d) (lowD n d), vI 0]) := by
 have hdn : ((d : Int)).natAbs = d := Int.natAbs_natCast d
 have hdS : Sm (d : Int) := by unfold Sm; unfold b9 at hdb; omega
 have hg := w_rGCD n d hn.len4 hdS.len4
 rw [hdn] at hg
 have hg0 := low_gcd (a := n) hd
 have hgd : Nat.gcd n.natAbs d ≤ d := Nat.gcd_le_right _ hd
 have hgS : Sm ((Nat.gcd n.natAbs d : Nat) : Int) := by unfold Sm; unfold b9 at hdb; omega
 have hs := w_rSign (d : Int)
 have s1 : sgn (d : Int) = 1 := by unfold sgn; rw [if_neg (by omega), if_neg (by omega)]
 rw [s1] at hs
 have q1 := w_rQuoRem n (Nat.gcd n.natAbs d : Nat) hn.len4 hgS.len4 (by omega)
 have q2 := w_rQuoRem d (Nat.gcd n.natAbs d : Nat) hdS.len4 hgS.len4 (by omega)
 have e2 : (d : Int).tdiv (Nat.gcd n.natAbs d : Nat) = (lowD n d : Nat) := rfl
 have e1 : n.tdiv (Nat.gcd n.natAbs d : Nat) = lowN n d := rfl
 rw [e1] at q1
 rw [e2] at q2
 generalize lowN n d = a at *
 generalize lowD n d = b at *
 generalize Nat.gcd n.natAbs d = g at *
 generalize n.tmod (g : Nat) = m1 at *
 generalize (d : Int).tmod (g : Nat) = m2 at *
 simp only [iV4] at *
 unfold sV
 (refine Pure.of_code mix Tryz.call63 k_63 (by simp) (fun hB => ?_); (try simp at hB); (try simp -implicitDefEqProofs [c_tallystoneref02_New_63]))
 ((try simp at hg); (try simp at hs); (try simp at q1); (try simp at q2); (try simp -implicitDefEqProofs); repeat' first | ((with_reducible first | apply gdK_em | apply cdK_em | apply pickK_em) <;> (intro hc; have hc' := hc; (try simp at hc'); simp -implicitDefEqProofs [hc, hc'])) | (with_reducible apply callK_pure <;> first | (simp only [eras, era, eras_map]; first | with_reducible exact hg | with_reducible exact hs | with_reducible exact q1 | with_reducible exact q2 | simpa using hg | simpa using hs | simpa using q1 | simpa using q2) | (simp -implicitDefEqProofs)))
theorem w_rquot {n : Int} {d : Nat} (hn : Sm n) (hd : 0 < d) (hdb : d < b9) : Pure Tryz.prog 41 [iV b4 .i64 n, iV b4 .i64 d] (sV (lowN n d) (lowD n d)) := by
 have hr := w_rNew hn hd hdb
 generalize lowN n d = a at *
 generalize lowD n d = b at *
 simp only [iV4] at *
 unfold sV at *
 (refine Pure.of_code mix Tryz.call41 k_41 (by simp) (fun hB => ?_); (try simp at hB); (try simp -implicitDefEqProofs [c_tallystoneref02_quotient_41]))
 ((try simp at hr); (try simp -implicitDefEqProofs); repeat' first | ((with_reducible first | apply gdK_em | apply cdK_em | apply pickK_em) <;> (intro hc; have hc' := hc; (try simp at hc'); simp -implicitDefEqProofs [hc, hc'])) | (with_reducible apply callK_pure <;> first | (simp only [eras, era, eras_map]; first | with_reducible exact hr | simpa using hr) | (simp -implicitDefEqProofs)))
theorem w_rShare {n : Int} (h1 : -9223372036854775808 ≤ n) (h2 : n ≤ 9223372036854775807) : Pure Tryz.prog 23 [vI n] (sV (lowN n 10000) (lowD n 10000)) := by
 have hr := w_rquot (n := n) (d := 10000) (by unfold Sm; omega) (by decide) (by decide)
 have o1 := w_rOf h1 h2
 have o2 := w_rOf (n := 10000) (by omega) (by omega)
 have e3 : ((10000 : Nat) : Int) = 10000 := rfl
 generalize lowN n 10000 = a at *
 generalize lowD n 10000 = b at *
 rw [e3] at hr
 simp only [iV4] at *
 unfold sV at *
 (refine Pure.of_code mix Tryz.call23 k_23 (by simp) (fun hB => ?_); (try simp at hB); (try simp -implicitDefEqProofs [c_tallystoneref02_Share_23]))
 ((try simp at o1); (try simp at o2); (try simp at hr); (try simp -implicitDefEqProofs); repeat' first | ((with_reducible first | apply gdK_em | apply cdK_em | apply pickK_em) <;> (intro hc; have hc' := hc; (try simp at hc'); simp -implicitDefEqProofs [hc, hc'])) | (with_reducible apply callK_pure <;> first | (simp only [eras, era, eras_map]; first | with_reducible exact o1 | with_reducible exact o2 | with_reducible exact hr | simpa using o1 | simpa using o2 | simpa using hr) | (simp -implicitDefEqProofs)))
end Go.Proofs.YtmlpmdccfmmpoaaGreat
