/- Chapter 33: the reference's rule and Check. -/
import Derived.Test.YtpggidmbnjfmaaaGreatDoorTyp
import Derived.Test.YtpggidmbnjfmaaaGreatDoorSyf
set_option linter.unusedSimpArgs false
set_option linter.unusedVariables false
set_option maxHeartbeats 4000000
set_option maxRecDepth 8000
namespace Go.Proofs.YtpggidmbnjfmaaaGreatDoor
open E

theorem inS_memB (M : List (List UInt8)) : inS M = memB M := by
 funext s
 unfold inS memB
 rw [Bool.eq_iff_iff]
 simp
theorem w_known (l : List Account) (code : Int) : Pure Tryz.prog 95 [Account.l l, vI code] (vB (knownB l code)) := by
 have hf := Cht.w_rcFind l code
 unfold knownB
 generalize (Cht.findS l code).getD Cht.acc0 = a at *
 obtain ⟨c1, c2, c3, c4⟩ := a
 simp only [Account.v, Account.c, List.map] at hf
 (refine Pure.of_code mix Tryz.call95 k_95 (by simp) (fun hB => ?_); (try simp at hB); (try simp -implicitDefEqProofs [qc_95]))
 ((try simp at hf); (try simp -implicitDefEqProofs); repeat' first | ((with_reducible first | apply gdK_em | apply cdK_em | apply pickK_em) <;> (intro hc; have hc' := hc; (try simp at hc'); simp -implicitDefEqProofs [hc, hc'])) | (with_reducible apply callK_pure <;> first | (simp only [eras, era, eras_map]; first | with_reducible exact hf | simpa using hf) | (simp -implicitDefEqProofs)))
@[simp] abbrev ownS (i : Nat) (l : List (List UInt8)) : V := .own i 9 1 (l.map fun y => [T.str y])
theorem w_rrule (r : Rul) (l : List Account) (hss : r.stmts.length ≤ 1000) : Pure Tryz.prog 53 [r.v, Account.l l] (vI (rulE (knownB l) r)) := by
 obtain ⟨nm, pair, ss, to⟩ := r
 simp only [] at hss
 generalize hE : rulE (knownB l) ⟨nm, pair, ss, to⟩ = E
 unfold rulE at hE
 simp only [] at hE
 have hrc : Rul.c ⟨nm, pair, ss, to⟩ = [T.str nm, T.bool pair, T.sl (ss.map Stm.c), T.int .i64 to] := rfl
 have hkn := w_known l to
 (refine Pure.of_code mix Tryz.call53 k_53 (by simp) (fun hB => ?_); (try simp at hB); (try simp -implicitDefEqProofs [qc_53]))
 ((try simp -implicitDefEqProofs [hrc]); repeat' first | ((with_reducible first | apply gdK_em | apply cdK_em | apply pickK_em) <;> (intro hc; have hc' := hc; (try simp at hc'); simp -implicitDefEqProofs [hc, hc', hrc])))
 refine loop_grow [(.slot 5, 9, 1)] (X := Nat) (fun k => k ≤ ss.length ∧ stmsE (knownB l) pair (namesOf (ss.take k)) (ss.drop k) = stmsE (knownB l) pair [] ss) (fun k => [(1, Account.l l), (2, .ptr 0 0), (5, ownS 0 (namesOf (ss.take k))), (6, vI k)])
  (fun k => ⟨[.cells [vS nm, vB pair, Stm.l ss, vI to]], [(namesOf (ss.take k)).length]⟩) (fun k => ss.length - k) 0 ⟨by simp, by simp [namesOf]⟩ (by simp [namesOf, ownS]) ?_
 rintro k ⟨hk, hi⟩ hbd
 clear hbd
 rcases Nat.lt_or_ge k ss.length with h | h
 ·have hx : ss[k]? = some ss[k] := by simp [h]
  have e3 : IntKind.i64.wrap ((k : Int) + 1) = (k : Int) + 1 := wrap64 (by omega) (by omega)
  have hn := namesOf_next hx
  rw [stmsE_at hx] at hi
  have hlen : (namesOf (ss.take k)).length ≤ 1000 := by
   have : (namesOf (ss.take k)).length ≤ (ss.take k).length := by unfold namesOf; rw [List.length_map]; exact List.length_filter_le _ _
   simp at this; omega
  generalize hM : namesOf (ss.take k) = M at *
  obtain ⟨kd, acc, sn, x, hs⟩ : ∃ kd acc sn x, ss[k] = ⟨kd, acc, sn, x⟩ := ⟨_, _, _, _, rfl⟩
  have hsk : (ss.map Stm.c)[k]? = some (.int .i64 kd :: .int .i64 acc :: .str sn :: x.c) := by simp [h, hs, Stm.c]
  have hcc : Stm.c ⟨kd, acc, sn, x⟩ = (.int .i64 kd :: .int .i64 acc :: .str sn :: x.c) := rfl
  have hlc := len_c x
  have htc := take_c x
  have hinf := w_Infer M pair x
  have hin := w_In M sn
  have hka := w_known l acc
  rw [inS_memB] at hinf hin
  rw [hs] at hi hn
  unfold stmE at hi
  simp only [] at hi
  generalize x.inf (memB M) pair = te at *
  obtain ⟨t, e⟩ := te
  simp only [] at hi hinf
  simp only [vSL] at hinf hin
  by_cases he : e = 0
  case neg =>
   have he' : (e != 0) = true := by simpa using he
   have he2 : (e == 0) = false := by simpa using he
   rw [if_pos he, if_pos he] at hi
   rw [← hi, if_pos he] at hE
   subst hE
   ((try simp at hinf); (try simp -implicitDefEqProofs [h, hs, hsk, hcc, hlc, htc, he', he2]); repeat' first | ((with_reducible first | apply gdK_em | apply cdK_em | apply pickK_em) <;> (intro hc; have hc' := hc; (try simp at hc'); simp -implicitDefEqProofs [hc, hc', h, hs, hsk, hcc, hlc, htc, he', he2])) | (with_reducible apply callK_pure <;> first | (simp only [eras, era, eras_map]; first | with_reducible exact hinf | simpa using hinf) | (simp -implicitDefEqProofs [h, hs, hsk, hcc, hlc, htc, he', he2])))
  subst he
  simp only [ne_eq, not_true_eq_false, if_false, bne_iff_ne] at hi
  have big : (M.length + 1 ≤ maxLen ∧ (M.length + 1) * 16 ≤ 140737488355328) := ⟨by unfold maxLen; omega, by omega⟩
  by_cases ht : (t == 2) = (kd == 2)
  case neg =>
   have ht' : (!((t == 2) == (kd == 2))) = true := by simpa using ht
   rw [if_pos ht, if_pos (by decide)] at hi
   rw [← hi, if_pos (by decide)] at hE
   subst hE
   ((try simp at hinf); (try simp -implicitDefEqProofs [h, hs, hsk, hcc, hlc, htc, e3, ht']); repeat' first | ((with_reducible first | apply gdK_em | apply cdK_em | apply pickK_em) <;> (intro hc; have hc' := hc; (try simp at hc'); simp -implicitDefEqProofs [hc, hc', h, hs, hsk, hcc, hlc, htc, e3, ht'])) | (with_reducible apply callK_pure <;> first | (simp only [eras, era, eras_map]; first | with_reducible exact hinf | simpa using hinf) | (simp -implicitDefEqProofs [h, hs, hsk, hcc, hlc, htc, e3, ht'])))
  have ht' : (!((t == 2) == (kd == 2))) = false := by simpa using ht
  rw [if_neg (show ¬ ¬ (t == 2) = (kd == 2) from fun q => q ht)] at hi
  by_cases k1 : kd = 1
  ·subst k1
   have ht2 : (t == 2) = false := by simpa using ht
   have ht3 : ¬ t = 2 := by simpa using ht2
   have hN : namesOf [⟨1, acc, sn, x⟩] = [sn] := rfl
   rw [hN] at hn hi
   cases hb : memB M sn
   ·rw [hb] at hin
    rw [if_neg (show ¬ ((1 : Int) = 1 ∧ memB M sn = true) from fun q => by rw [hb] at q; cases q.2), if_neg (show ¬ ((1 : Int) = 3 ∧ knownB l acc = false) from fun q => absurd q.1 (by decide)), if_neg (show ¬ ¬ (0 : Int) = 0 by simp)] at hi
    ((try simp at hinf); (try simp at hin); (try simp -implicitDefEqProofs [h, hs, hsk, hcc, hlc, htc, e3, ht', ht2, ht3]); repeat' first | ((with_reducible first | apply gdK_em | apply cdK_em | apply pickK_em) <;> (intro hc; have hc' := hc; (try simp at hc'); simp -implicitDefEqProofs [hc, hc', h, hs, hsk, hcc, hlc, htc, e3, ht', ht2, ht3])) | (with_reducible apply callK_pure <;> first | (simp only [eras, era, eras_map]; first | with_reducible exact hinf | with_reducible exact hin | simpa using hinf | simpa using hin) | (simp -implicitDefEqProofs [h, hs, hsk, hcc, hlc, htc, e3, ht', ht2, ht3])))
    exact ⟨big, k + 1, ⟨by omega, by rw [hn]; exact hi⟩, by omega, by rw [hn]; simp, by rw [hn, List.map_append]; exact leA.refl _, by push_cast; rfl⟩
   ·rw [hb] at hin
    rw [if_pos (show (1 : Int) = 1 ∧ memB M sn = true from ⟨rfl, hb⟩), if_pos (show ¬ (9 : Int) = 0 by decide)] at hi
    rw [← hi, if_pos (by decide)] at hE
    subst hE
    ((try simp at hinf); (try simp at hin); (try simp -implicitDefEqProofs [h, hs, hsk, hcc, hlc, htc, e3, ht', ht2, ht3]); repeat' first | ((with_reducible first | apply gdK_em | apply cdK_em | apply pickK_em) <;> (intro hc; have hc' := hc; (try simp at hc'); simp -implicitDefEqProofs [hc, hc', h, hs, hsk, hcc, hlc, htc, e3, ht', ht2, ht3])) | (with_reducible apply callK_pure <;> first | (simp only [eras, era, eras_map]; first | with_reducible exact hinf | with_reducible exact hin | simpa using hinf | simpa using hin) | (simp -implicitDefEqProofs [h, hs, hsk, hcc, hlc, htc, e3, ht', ht2, ht3])))
  have k1' : (kd == 1) = false := by simpa using k1
  have hN : namesOf [⟨kd, acc, sn, x⟩] = [] := by simp [namesOf, k1]
  rw [hN, List.append_nil] at hn hi
  rw [if_neg (show ¬ (kd = 1 ∧ memB M sn = true) from fun q => k1 q.1)] at hi
  by_cases k3 : kd = 3
  ·subst k3
   have ht2 : (t == 2) = false := by simpa using ht
   have ht3 : ¬ t = 2 := by simpa using ht2
   cases hb : knownB l acc
   ·rw [hb] at hka
    rw [if_pos (show (3 : Int) = 3 ∧ knownB l acc = false from ⟨rfl, hb⟩), if_pos (show ¬ (8 : Int) = 0 by decide)] at hi
    rw [← hi, if_pos (by decide)] at hE
    subst hE
    ((try simp at hinf); (try simp at hka); (try simp -implicitDefEqProofs [h, hs, hsk, hcc, hlc, htc, e3, ht', ht2, ht3]); repeat' first | ((with_reducible first | apply gdK_em | apply cdK_em | apply pickK_em) <;> (intro hc; have hc' := hc; (try simp at hc'); simp -implicitDefEqProofs [hc, hc', h, hs, hsk, hcc, hlc, htc, e3, ht', ht2, ht3])) | (with_reducible apply callK_pure <;> first | (simp only [eras, era, eras_map]; first | with_reducible exact hinf | with_reducible exact hka | simpa using hinf | simpa using hka) | (simp -implicitDefEqProofs [h, hs, hsk, hcc, hlc, htc, e3, ht', ht2, ht3])))
   ·rw [hb] at hka
    rw [if_neg (show ¬ ((3 : Int) = 3 ∧ knownB l acc = false) from fun q => by rw [hb] at q; cases q.2), if_neg (show ¬ ¬ (0 : Int) = 0 by simp)] at hi
    ((try simp at hinf); (try simp at hka); (try simp -implicitDefEqProofs [h, hs, hsk, hcc, hlc, htc, e3, ht', ht2, ht3]); repeat' first | ((with_reducible first | apply gdK_em | apply cdK_em | apply pickK_em) <;> (intro hc; have hc' := hc; (try simp at hc'); simp -implicitDefEqProofs [hc, hc', h, hs, hsk, hcc, hlc, htc, e3, ht', ht2, ht3])) | (with_reducible apply callK_pure <;> first | (simp only [eras, era, eras_map]; first | with_reducible exact hinf | with_reducible exact hka | simpa using hinf | simpa using hka) | (simp -implicitDefEqProofs [h, hs, hsk, hcc, hlc, htc, e3, ht', ht2, ht3])))
    exact ⟨k + 1, ⟨by omega, by rw [hn]; exact hi⟩, by omega, by rw [hn], by rw [hn]; exact leA.refl _, by push_cast; rfl⟩
  ·have k3' : (kd == 3) = false := by simpa using k3
   rw [if_neg (show ¬ (kd = 3 ∧ knownB l acc = false) from fun q => k3 q.1), if_neg (show ¬ ¬ (0 : Int) = 0 by simp)] at hi
   ((try simp at hinf); (try simp -implicitDefEqProofs [h, hs, hsk, hcc, hlc, htc, e3, ht', k1', k3', k1, k3]); repeat' first | ((with_reducible first | apply gdK_em | apply cdK_em | apply pickK_em) <;> (intro hc; have hc' := hc; (try simp at hc'); simp -implicitDefEqProofs [hc, hc', h, hs, hsk, hcc, hlc, htc, e3, ht', k1', k3', k1, k3])) | (with_reducible apply callK_pure <;> first | (simp only [eras, era, eras_map]; first | with_reducible exact hinf | simpa using hinf) | (simp -implicitDefEqProofs [h, hs, hsk, hcc, hlc, htc, e3, ht', k1', k3', k1, k3])))
   exact ⟨k + 1, ⟨by omega, by rw [hn]; exact hi⟩, by omega, by rw [hn], by rw [hn]; exact leA.refl _, by push_cast; rfl⟩
 ·have : k = ss.length := by omega
  subst this
  rw [List.drop_length, stmsE] at hi
  rw [← hi] at hE
  simp only [ne_eq, not_true_eq_false, if_false] at hE
  subst hE
  ((try simp at hkn); (try simp -implicitDefEqProofs [h]); repeat' first | ((with_reducible first | apply gdK_em | apply cdK_em | apply pickK_em) <;> (intro hc; have hc' := hc; (try simp at hc'); simp -implicitDefEqProofs [hc, hc', h])) | (with_reducible apply callK_pure <;> first | (simp only [eras, era, eras_map]; first | with_reducible exact hkn | simpa using hkn) | (simp -implicitDefEqProofs [h])))
theorem w_rCheck (p : List Rul) (l : List Account) (hok : ∀ r ∈ p, r.ok) (hc : ∀ r ∈ p, ∀ s ∈ r.stmts, s.ex.cnt ≤ 100000) (hss : ∀ r ∈ p, r.stmts.length ≤ 1000) (hp : p.length ≤ 1000) (hl : l.length ≤ 1000000) :
  Pure Tryz.prog 22 [Rul.l p, Account.l l] (.tup [vI (chkR p l).1, vI (chkR p l).2]) := by
 generalize hR : V.tup [vI (chkR p l).1, vI (chkR p l).2] = R
 unfold chkR at hR
 have hv := w_ValidR p hok hc
 have hcv := Cht.w_rcValid l true hl
 by_cases h1 : prgB p = true
 case neg =>
  rw [if_neg (fun h => h1 h.1)] at hR
  subst hR
  rw [Bool.not_eq_true] at h1
  rw [h1] at hv
  (refine Pure.of_code mix Tryz.call22 k_22 (by simp) (fun hB => ?_); (try simp at hB); (try simp -implicitDefEqProofs [qc_22]))
  ((try simp at hv); (try simp -implicitDefEqProofs); repeat' first | ((with_reducible first | apply gdK_em | apply cdK_em | apply pickK_em) <;> (intro hc; have hc' := hc; (try simp at hc'); simp -implicitDefEqProofs [hc, hc'])) | (with_reducible apply callK_pure <;> first | (simp only [eras, era, eras_map]; first | with_reducible exact hv | simpa using hv) | (simp -implicitDefEqProofs)))
 rw [h1] at hv
 by_cases h2 : Cht.validR l true = true
 case neg =>
  rw [if_neg (fun h => h2 h.2)] at hR
  subst hR
  rw [Bool.not_eq_true] at h2
  rw [h2] at hcv
  (refine Pure.of_code mix Tryz.call22 k_22 (by simp) (fun hB => ?_); (try simp at hB); (try simp -implicitDefEqProofs [qc_22]))
  ((try simp at hv); (try simp at hcv); (try simp -implicitDefEqProofs); repeat' first | ((with_reducible first | apply gdK_em | apply cdK_em | apply pickK_em) <;> (intro hc; have hc' := hc; (try simp at hc'); simp -implicitDefEqProofs [hc, hc'])) | (with_reducible apply callK_pure <;> first | (simp only [eras, era, eras_map]; first | with_reducible exact hv | with_reducible exact hcv | simpa using hv | simpa using hcv) | (simp -implicitDefEqProofs)))
 rw [if_pos ⟨h1, h2⟩] at hR
 rw [h2] at hcv
 (refine Pure.of_code mix Tryz.call22 k_22 (by simp) (fun hB => ?_); (try simp at hB); (try simp -implicitDefEqProofs [qc_22]))
 ((try simp at hv); (try simp at hcv); (try simp -implicitDefEqProofs); repeat' first | ((with_reducible first | apply gdK_em | apply cdK_em | apply pickK_em) <;> (intro hc; have hc' := hc; (try simp at hc'); simp -implicitDefEqProofs [hc, hc'])) | (with_reducible apply callK_pure <;> first | (simp only [eras, era, eras_map]; first | with_reducible exact hv | with_reducible exact hcv | simpa using hv | simpa using hcv) | (simp -implicitDefEqProofs)))
 refine loop_grow [(.slot 6, 9, 1)] (X := Nat) (fun k => k ≤ p.length ∧ rulsE (knownB l) ((p.map (·.name)).take k) k (p.drop k) = rulsE (knownB l) [] 0 p) (fun k => [(0, Rul.l p), (1, Account.l l), (6, ownS 0 ((p.map (·.name)).take k)), (7, vI k)])
  (fun k => ⟨[], [k]⟩) (fun k => p.length - k) 0 ⟨by simp, by simp⟩ (by simp [ownS]) ?_
 rintro k ⟨hk, hi⟩ hbd
 clear hbd
 rcases Nat.lt_or_ge k p.length with h | h
 ·have hx : p[k]? = some p[k] := by simp [h]
  have e3 : IntKind.i64.wrap ((k : Int) + 1) = (k : Int) + 1 := wrap64 (by omega) (by omega)
  rw [rulsE_at hx] at hi
  have hrule := w_rrule p[k] l (hss _ (List.getElem_mem h))
  have hN : (p.map (·.name)).take (k + 1) = (p.map (·.name)).take k ++ [p[k].name] := take_next (by simp [h])
  have hlen : ((p.map (·.name)).take k).length = k := by simp; omega
  obtain ⟨nm, pr, ss, to, hr⟩ : ∃ nm pr ss to, p[k] = ⟨nm, pr, ss, to⟩ := ⟨_, _, _, _, rfl⟩
  have hrk : (p.map Rul.c)[k]? = some [.str nm, .bool pr, .sl (ss.map Stm.c), .int .i64 to] := by simp [h, hr, Rul.c]
  have hcc : p[k].c = [.str nm, .bool pr, .sl (ss.map Stm.c), .int .i64 to] := by rw [hr]; rfl
  rw [hr] at hrule hi hN
  generalize hE : rulE (knownB l) ⟨nm, pr, ss, to⟩ = E at *
  simp only [Rul.v, Rul.c, List.map] at hrule hN
  simp only [] at hi
  generalize hM : (p.map (·.name)).take k = M at *
  have hin := w_In M nm
  rw [inS_memB] at hin
  simp only [vSL] at hin
  by_cases hm : nm ∈ M
  ·rw [if_pos hm] at hi
   have hb : memB M nm = true := by simp [memB, hm]
   rw [hb] at hin
   rw [← hi] at hR
   subst hR
   ((try simp at hin); (try simp -implicitDefEqProofs [h, hrk, hcc]); repeat' first | ((with_reducible first | apply gdK_em | apply cdK_em | apply pickK_em) <;> (intro hc; have hc' := hc; (try simp at hc'); simp -implicitDefEqProofs [hc, hc', h, hrk, hcc])) | (with_reducible apply callK_pure <;> first | (simp only [eras, era, eras_map]; first | with_reducible exact hin | simpa using hin) | (simp -implicitDefEqProofs [h, hrk, hcc])))
  ·rw [if_neg hm] at hi
   have hb : memB M nm = false := by simp [memB, hm]
   rw [hb] at hin
   have big : (M.length + 1 ≤ maxLen ∧ (M.length + 1) * 16 ≤ 140737488355328) := ⟨by unfold maxLen; omega, by omega⟩
   by_cases he : E = 0
   ·rw [if_neg (by simpa using he)] at hi
    subst he
    ((try simp at hin); (try simp -implicitDefEqProofs [h, hrk, hcc, e3, hlen]); repeat' first | ((with_reducible first | apply gdK_em | apply cdK_em | apply pickK_em) <;> (intro hc; have hc' := hc; (try simp at hc'); simp -implicitDefEqProofs [hc, hc', h, hrk, hcc, e3, hlen])) | (with_reducible apply callK_pure <;> first | (simp only [eras, era, eras_map]; first | with_reducible exact hin | simpa using hin) | (simp -implicitDefEqProofs [h, hrk, hcc, e3, hlen])))
    refine ⟨⟨by unfold maxLen; omega, by omega⟩, ?_⟩
    ((try simp at hrule); (try simp -implicitDefEqProofs [h, hrk, hcc, e3, hlen]); repeat' first | ((with_reducible first | apply gdK_em | apply cdK_em | apply pickK_em) <;> (intro hc; have hc' := hc; (try simp at hc'); simp -implicitDefEqProofs [hc, hc', h, hrk, hcc, e3, hlen])) | (with_reducible apply callK_pure <;> first | (simp only [eras, era, eras_map]; first | with_reducible exact hrule | simpa using hrule) | (simp -implicitDefEqProofs [h, hrk, hcc, e3, hlen])))
    exact ⟨k + 1, ⟨by omega, by rw [hN]; exact hi⟩, by omega, rfl, by rw [← List.map_map, ← List.map_take, hN, List.map_append]; exact leA.refl _, by push_cast; rfl⟩
   ·rw [if_pos he] at hi
    rw [← hi] at hR
    subst hR
    have he' : (E == 0) = false := by simpa using he
    have he2 : (E != 0) = true := by simpa using he
    ((try simp at hin); (try simp -implicitDefEqProofs [h, hrk, hcc, e3, he, he', he2, hlen]); repeat' first | ((with_reducible first | apply gdK_em | apply cdK_em | apply pickK_em) <;> (intro hc; have hc' := hc; (try simp at hc'); simp -implicitDefEqProofs [hc, hc', h, hrk, hcc, e3, he, he', he2, hlen])) | (with_reducible apply callK_pure <;> first | (simp only [eras, era, eras_map]; first | with_reducible exact hin | simpa using hin) | (simp -implicitDefEqProofs [h, hrk, hcc, e3, he, he', he2, hlen])))
    refine ⟨⟨by unfold maxLen; omega, by omega⟩, ?_⟩
    ((try simp at hrule); (try simp -implicitDefEqProofs [h, hrk, hcc, e3, he, he', he2, hlen]); repeat' first | ((with_reducible first | apply gdK_em | apply cdK_em | apply pickK_em) <;> (intro hc; have hc' := hc; (try simp at hc'); simp -implicitDefEqProofs [hc, hc', h, hrk, hcc, e3, he, he', he2, hlen])) | (with_reducible apply callK_pure <;> first | (simp only [eras, era, eras_map]; first | with_reducible exact hrule | simpa using hrule) | (simp -implicitDefEqProofs [h, hrk, hcc, e3, he, he', he2, hlen])))
 ·have : k = p.length := by omega
  subst this
  rw [List.drop_length, rulsE] at hi
  rw [← hi] at hR
  subst hR
  ((try simp -implicitDefEqProofs [h]); repeat' first | ((with_reducible first | apply gdK_em | apply cdK_em | apply pickK_em) <;> (intro hc; have hc' := hc; (try simp at hc'); simp -implicitDefEqProofs [hc, hc', h])))
end Go.Proofs.YtpggidmbnjfmaaaGreatDoor
