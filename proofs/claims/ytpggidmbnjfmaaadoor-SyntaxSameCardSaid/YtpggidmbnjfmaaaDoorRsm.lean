/- Chapter 32: the reference's SameExpr. -/
import Derived.Test.YtpggidmbnjfmaaaDoorPsq
import Derived.Test.YtpggidmbnjfmaaaDoorCode
set_option linter.unusedSimpArgs false
set_option linter.unusedVariables false
set_option maxHeartbeats 4000000
set_option maxRecDepth 8000
namespace Go.Proofs.YtpggidmbnjfmaaaDoor
open E

theorem w_rSameX : ∀ (x : Xp), x.cnt ≤ 100000 → ∀ y : Xp, Pure Tryd.prog 40 [x.v, y.v] (vB (eqv x y)) := by
 refine Xp.ind fun kd vl fr to nm xs ih => ?_
 intro hcnt y
 rw [Xp.cnt] at hcnt
 have hal := Xp.cnts_len xs
 obtain ⟨kd', vl', fr', to', nm', ys⟩ := y
 rw [Xp.v, Xp.c_mk, Xp.v, Xp.c_mk]
 by_cases h1 : kd = kd'
 ·by_cases h2 : vl = vl'
  ·by_cases h3 : fr = fr'
   ·by_cases h4 : to = to'
    ·by_cases h5 : nm = nm'
     ·subst h1 h2 h3 h4 h5
      have he : eqv (Xp.mk kd vl fr to nm xs) (Xp.mk kd vl fr to nm ys) = eqv xs ys := by
       rw [Bool.eq_iff_iff, eqv_iff, eqv_iff]; simp
      rw [he]
      generalize hR : eqv xs ys = R
      by_cases hl : xs.length = ys.length
      ·have hl' : ((xs.length : Int) != ys.length) = false := by simp [hl]
       (refine Pure.of_code mix Tryd.call40 k_40 (by simp) (fun hB => ?_); (try simp at hB); (try simp -implicitDefEqProofs [c_tallystoneref32_SameExpr_40]))
       (try simp -implicitDefEqProofs [hl'])
       refine loop_rule (X := Nat) (fun k => k ≤ xs.length ∧ xs.take k = ys.take k) (fun k => [(2, .ptr 0 0), (3, .ptr 1 0), (5, vI k)]) (fun _ => ⟨[.cells [vI kd, vI vl, vI fr, vI to, vS nm, Xp.l xs], .cells [vI kd, vI vl, vI fr, vI to, vS nm, Xp.l ys]], []⟩) (fun k => xs.length - k) 0 ⟨by simp, by simp⟩ ?hs ?_
       case hs => simp
       rintro k ⟨hk, hn⟩ hbd
       rcases Nat.lt_or_ge k xs.length with hlt | hge
       ·have hlt' : k < ys.length := by omega
        have e3 : IntKind.i64.wrap ((k : Int) + 1) = (k : Int) + 1 := wrap64 (by omega) (by omega)
        have hxc := Xp.cnts_mem (List.getElem_mem hlt)
        have hc := ih xs[k] (List.getElem_mem hlt) (by omega) ys[k]
        have hlc := len_c xs[k]
        have htc := take_c xs[k]
        have hlc' := len_c ys[k]
        have htc' := take_c ys[k]
        cases hq : eqv xs[k] ys[k]
        ·rw [hq] at hc
         rw [eqv_no (eqv_at hlt hlt' (eqv_ne hq))] at hR
         subst hR
         ((try simp at hc); (try simp -implicitDefEqProofs [hlt, hlt', e3, hlc, htc, hlc', htc', hl]); repeat' first | ((with_reducible first | apply gdK_em | apply cdK_em | apply pickK_em) <;> (intro hc; have hc' := hc; (try simp at hc'); simp -implicitDefEqProofs [hc, hc', hlt, hlt', e3, hlc, htc, hlc', htc', hl])) | (with_reducible apply callK_pure <;> first | (simp only [eras, era, eras_map]; first | with_reducible exact hc | simpa using hc) | (simp -implicitDefEqProofs [hlt, hlt', e3, hlc, htc, hlc', htc', hl])))
        ·rw [hq] at hc
         ((try simp at hc); (try simp -implicitDefEqProofs [hlt, hlt', e3, hlc, htc, hlc', htc', hl]); repeat' first | ((with_reducible first | apply gdK_em | apply cdK_em | apply pickK_em) <;> (intro hc; have hc' := hc; (try simp at hc'); simp -implicitDefEqProofs [hc, hc', hlt, hlt', e3, hlc, htc, hlc', htc', hl])) | (with_reducible apply callK_pure <;> first | (simp only [eras, era, eras_map]; first | with_reducible exact hc | simpa using hc) | (simp -implicitDefEqProofs [hlt, hlt', e3, hlc, htc, hlc', htc', hl])))
         exact ⟨k + 1, ⟨by omega, eqv_take hlt hlt' hn (eqv_iff.1 hq)⟩, by omega, by push_cast; rfl⟩
       ·have hke : k = xs.length := by omega
        subst hke
        have hlm : xs = ys := by
         rw [List.take_length, hl, List.take_length] at hn
         exact hn
        subst hlm
        rw [eqv_self] at hR
        subst hR
        ((try simp -implicitDefEqProofs); repeat' first | ((with_reducible first | apply gdK_em | apply cdK_em | apply pickK_em) <;> (intro hc; have hc' := hc; (try simp at hc'); simp -implicitDefEqProofs [hc, hc'])))
      ·rw [eqv_no (fun h => hl (by rw [h]))] at hR
       subst hR
       have hl' : ((xs.length : Int) != ys.length) = true := by simp; omega
       have hl2 : ((xs.length : Int) == ys.length) = false := by simp; omega
       have hl3 : (xs.length == ys.length) = false := by simp; omega
       (refine Pure.of_code mix Tryd.call40 k_40 (by simp) (fun hB => ?_); (try simp at hB); (try simp -implicitDefEqProofs [c_tallystoneref32_SameExpr_40]))
       (try simp -implicitDefEqProofs [hl, hl', hl2, hl3])
     ·rw [eqv_no (fun h => h5 (by injection h))]
      (refine Pure.of_code mix Tryd.call40 k_40 (by simp) (fun hB => ?_); (try simp at hB); (try simp -implicitDefEqProofs [c_tallystoneref32_SameExpr_40]))
      have hz : (nm == nm') = false := by simp [h5]
      (try simp -implicitDefEqProofs [h1, h2, h3, h4, hz])
    ·rw [eqv_no (fun h => h4 (by injection h))]
     (refine Pure.of_code mix Tryd.call40 k_40 (by simp) (fun hB => ?_); (try simp at hB); (try simp -implicitDefEqProofs [c_tallystoneref32_SameExpr_40]))
     have hz : (to != to') = true := by simp [h4]
     ((try simp -implicitDefEqProofs [h1, h2, h3, h4, hz]); repeat' first | ((with_reducible first | apply gdK_em | apply cdK_em | apply pickK_em) <;> (intro hc; have hc' := hc; (try simp at hc'); simp -implicitDefEqProofs [hc, hc', h1, h2, h3, h4, hz])))
   ·rw [eqv_no (fun h => h3 (by injection h))]
    (refine Pure.of_code mix Tryd.call40 k_40 (by simp) (fun hB => ?_); (try simp at hB); (try simp -implicitDefEqProofs [c_tallystoneref32_SameExpr_40]))
    have hz : (fr != fr') = true := by simp [h3]
    ((try simp -implicitDefEqProofs [h1, h2, h3, hz]); repeat' first | ((with_reducible first | apply gdK_em | apply cdK_em | apply pickK_em) <;> (intro hc; have hc' := hc; (try simp at hc'); simp -implicitDefEqProofs [hc, hc', h1, h2, h3, hz])))
  ·rw [eqv_no (fun h => h2 (by injection h))]
   (refine Pure.of_code mix Tryd.call40 k_40 (by simp) (fun hB => ?_); (try simp at hB); (try simp -implicitDefEqProofs [c_tallystoneref32_SameExpr_40]))
   have hz : (vl != vl') = true := by simp [h2]
   ((try simp -implicitDefEqProofs [h1, h2, hz]); repeat' first | ((with_reducible first | apply gdK_em | apply cdK_em | apply pickK_em) <;> (intro hc; have hc' := hc; (try simp at hc'); simp -implicitDefEqProofs [hc, hc', h1, h2, hz])))
 ·rw [eqv_no (fun h => h1 (by injection h))]
  (refine Pure.of_code mix Tryd.call40 k_40 (by simp) (fun hB => ?_); (try simp at hB); (try simp -implicitDefEqProofs [c_tallystoneref32_SameExpr_40]))
  have hz : (kd != kd') = true := by simp [h1]
  ((try simp -implicitDefEqProofs [h1, hz]); repeat' first | ((with_reducible first | apply gdK_em | apply cdK_em | apply pickK_em) <;> (intro hc; have hc' := hc; (try simp at hc'); simp -implicitDefEqProofs [hc, hc', h1, hz])))
theorem w_rSame (p q : List Rul) (hss : ∀ r ∈ p, r.stmts.length ≤ 1000) (hxs : ∀ r ∈ p, ∀ s ∈ r.stmts, s.ex.cnt ≤ 100000) : Pure Tryd.prog 14 [Rul.l p, Rul.l q] (vB (eqv p q)) := by
 generalize hR : eqv p q = R
 by_cases hlen : p.length = q.length
 case neg =>
  rw [eqv_no (fun h => hlen (by rw [h]))] at hR
  subst hR
  have hz : ((p.length : Int) != q.length) = true := by simp; omega
  (refine Pure.of_code mix Tryd.call14 k_14 (by simp) (fun hB => ?_); (try simp at hB); (try simp -implicitDefEqProofs [c_tallystoneref32_Same_14]))
  (try simp -implicitDefEqProofs [hz])
 have hz : ((p.length : Int) != q.length) = false := by simp [hlen]
 (refine Pure.of_code mix Tryd.call14 k_14 (by simp) (fun hB => ?_); (try simp at hB); (try simp -implicitDefEqProofs [c_tallystoneref32_Same_14]))
 have hB1 : p.length ≤ maxLen := hB.1.1
 (try simp -implicitDefEqProofs [hz])
 refine loop_rule (X := Nat) (fun k => k ≤ p.length ∧ p.take k = q.take k) (fun k => [(0, Rul.l p), (1, Rul.l q), (5, vI k)]) (fun _ => St0) (fun k => p.length - k) 0 ⟨by simp, by simp⟩ (by simp) ?_
 rintro k ⟨hk, hn⟩ hbd
 clear hbd
 rcases Nat.lt_or_ge k p.length with h | h
 ·have h' : k < q.length := by omega
  have e3 : IntKind.i64.wrap ((k : Int) + 1) = (k : Int) + 1 := wrap64 (by omega) (by simp [maxLen] at hB1; omega)
  have hout : p[k] ≠ q[k] → R = false := fun hq => by rw [← hR]; exact eqv_no (eqv_at h h' hq)
  have hstep : p[k] = q[k] → ∃ z' : Nat, (z' ≤ p.length ∧ p.take z' = q.take z') ∧ p.length - z' < p.length - k ∧ (z' : Int) = (k : Int) + 1 := fun hq => ⟨k + 1, ⟨by omega, eqv_take h h' hn hq⟩, by omega, by push_cast; rfl⟩
  obtain ⟨nm, pr, ss, to, hr⟩ : ∃ nm pr ss to, p[k] = ⟨nm, pr, ss, to⟩ := ⟨_, _, _, _, rfl⟩
  obtain ⟨nm', pr', ss', to', hr'⟩ : ∃ nm pr ss to, q[k] = ⟨nm, pr, ss, to⟩ := ⟨_, _, _, _, rfl⟩
  have hsk := hss _ (List.getElem_mem h)
  have hxk := hxs _ (List.getElem_mem h)
  rw [hr, hr'] at hout hstep
  rw [hr] at hsk hxk
  simp only [] at hsk hxk
  have hcc : ∀ a b c d, Rul.c ⟨a, b, c, d⟩ = [.str a, .bool b, .sl (c.map Stm.c), .int .i64 d] := fun _ _ _ _ => rfl
  by_cases c1 : nm = nm'
  case neg =>
   obtain rfl := hout (by simp [c1])
   have d1 : (nm == nm') = false := by simp [c1]
   (try simp -implicitDefEqProofs [h, h', hr, hr', hcc, e3, d1])
  by_cases c2 : pr = pr'
  case neg =>
   obtain rfl := hout (by simp [c2])
   have d2 : (pr == pr') = false := by simp [c2]
   (try simp -implicitDefEqProofs [h, h', hr, hr', hcc, e3, c1, d2])
  by_cases c3 : to = to'
  case neg =>
   obtain rfl := hout (by simp [c3])
   have d3 : (to != to') = true := by simp [c3]
   (try simp -implicitDefEqProofs [h, h', hr, hr', hcc, e3, c1, c2, d3])
  by_cases c4 : ss.length = ss'.length
  case neg =>
   obtain rfl := hout (by simp; rintro _ _ rfl; exact absurd rfl c4)
   have d4 : ((ss.length : Int) != ss'.length) = true := by simp; omega
   (try simp -implicitDefEqProofs [h, h', hr, hr', hcc, e3, c1, c2, c3, d4])
  subst c1 c2 c3
  have d4 : ((ss.length : Int) != ss'.length) = false := by simp [c4]
  (try simp -implicitDefEqProofs [h, h', hr, hr', hcc, e3, d4])
  refine loop_rule (X := Nat) (fun j => j ≤ ss.length ∧ ss.take j = ss'.take j) (fun j => [(0, Rul.l p), (1, Rul.l q), (5, vI k), (6, vI j)]) (fun _ => St0) (fun j => ss.length - j) 0 ⟨by simp, by simp⟩ (by simp) ?_
  rintro j ⟨hj, hm⟩ hbd
  clear hbd
  rcases Nat.lt_or_ge j ss.length with g | g
  ·have g' : j < ss'.length := by omega
   have e4 : IntKind.i64.wrap ((j : Int) + 1) = (j : Int) + 1 := wrap64 (by omega) (by omega)
   have gout : ss[j] ≠ ss'[j] → R = false := fun hq => hout (by simp; exact fun e => eqv_at g g' hq e)
   have gstep : ss[j] = ss'[j] → ∃ z' : Nat, (z' ≤ ss.length ∧ ss.take z' = ss'.take z') ∧ ss.length - z' < ss.length - j ∧ (z' : Int) = (j : Int) + 1 := fun hq => ⟨j + 1, ⟨by omega, eqv_take g g' hm hq⟩, by omega, by push_cast; rfl⟩
   obtain ⟨sk, sa, sn, sx, hs⟩ : ∃ sk sa sn sx, ss[j] = ⟨sk, sa, sn, sx⟩ := ⟨_, _, _, _, rfl⟩
   obtain ⟨sk', sa', sn', sx', hs'⟩ : ∃ sk sa sn sx, ss'[j] = ⟨sk, sa, sn, sx⟩ := ⟨_, _, _, _, rfl⟩
   have hxj := hxk _ (List.getElem_mem g)
   rw [hs, hs'] at gout gstep
   rw [hs] at hxj
   simp only [] at hxj
   have gcc : ∀ a b c d, Stm.c ⟨a, b, c, d⟩ = (.int .i64 a :: .int .i64 b :: .str c :: d.c) := fun _ _ _ _ => rfl
   have hlx := len_c sx
   have htx := take_c sx
   have hlx' := len_c sx'
   have htx' := take_c sx'
   by_cases b1 : sk = sk'
   case neg =>
    obtain rfl := gout (by simp [b1])
    have d1 : (sk != sk') = true := by simp [b1]
    (try simp -implicitDefEqProofs [h, h', hr, hr', hcc, g, g', hs, hs', gcc, hlx, htx, hlx', htx', d1])
    all_goals (repeat' with_reducible apply And.intro)
   by_cases b2 : sa = sa'
   case neg =>
    obtain rfl := gout (by simp [b2])
    have d2 : (sa != sa') = true := by simp [b2]
    (try simp -implicitDefEqProofs [h, h', hr, hr', hcc, g, g', hs, hs', gcc, hlx, htx, hlx', htx', b1, d2])
    all_goals (repeat' with_reducible apply And.intro)
   by_cases b3 : sn = sn'
   case neg =>
    obtain rfl := gout (by simp [b3])
    have d3 : (sn == sn') = false := by simp [b3]
    (try simp -implicitDefEqProofs [h, h', hr, hr', hcc, g, g', hs, hs', gcc, hlx, htx, hlx', htx', b1, b2, d3])
    all_goals (repeat' with_reducible apply And.intro)
   have hx := w_rSameX sx hxj sx'
   subst b1 b2 b3
   cases b4 : eqv sx sx'
   ·rw [b4] at hx
    obtain rfl := gout (by simp; exact eqv_ne b4)
    (try simp -implicitDefEqProofs [h, h', hr, hr', hcc, g, g', hs, hs', gcc, hlx, htx, hlx', htx'])
    all_goals (repeat' with_reducible apply And.intro)
    all_goals (((try simp at hx); (try simp -implicitDefEqProofs [hlx, htx, hlx', htx']); repeat' first | (with_reducible apply callK_pure <;> first | (simp only [eras, era, eras_map]; first | with_reducible exact hx | simpa using hx) | (simp -implicitDefEqProofs [hlx, htx, hlx', htx']))))
   ·rw [b4] at hx
    have gst := gstep (by rw [eqv_iff.1 b4])
    (try simp -implicitDefEqProofs [h, h', hr, hr', hcc, g, g', hs, hs', gcc, hlx, htx, hlx', htx', e4])
    all_goals (repeat' with_reducible apply And.intro)
    all_goals (((try simp at hx); (try simp -implicitDefEqProofs [hlx, htx, hlx', htx', e4]); repeat' first | (with_reducible apply callK_pure <;> first | (simp only [eras, era, eras_map]; first | with_reducible exact hx | simpa using hx) | (simp -implicitDefEqProofs [hlx, htx, hlx', htx', e4]))))
    all_goals exact gst
  ·have : j = ss.length := by omega
   subst this
   have hse : ss = ss' := by rw [List.take_length, c4, List.take_length] at hm; exact hm
   have hst := hstep (by rw [hse])
   (try simp -implicitDefEqProofs [h, h', hr, hr', hcc, e3])
   exact hst
 ·have hke : k = p.length := by omega
  subst hke
  have hpq : p = q := by rw [List.take_length, hlen, List.take_length] at hn; exact hn
  subst hpq
  rw [eqv_self] at hR
  subst hR
  (try simp -implicitDefEqProofs)
end Go.Proofs.YtpggidmbnjfmaaaDoor
