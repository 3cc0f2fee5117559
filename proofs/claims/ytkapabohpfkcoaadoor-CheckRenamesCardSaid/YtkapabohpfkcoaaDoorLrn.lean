/- Chapter 33: the law CheckRenames. -/
import Derived.Test.YtkapabohpfkcoaaDoorRen
import Derived.Test.YtkapabohpfkcoaaDoorLpg
set_option linter.unusedSimpArgs false
set_option linter.unusedVariables false
set_option maxHeartbeats 4000000
set_option maxRecDepth 8000
namespace Go.Proofs.YtkapabohpfkcoaaDoor
open E

/-- What is left of the law behind the loops. -/
theorem l_renames (p : List Rul) (l : List Account) (N : List (List UInt8)) (hok : ∀ r ∈ p, r.ok) (hNl : ∀ n ∈ N, n.length ≤ maxLen) : Pure Tryd.prog 10 [Rul.l p, Account.l l, vSL N] (vB true) := by
  have ha := w_awake
  have hf := w_few p l
  by_cases h : (fewB p && decide (l.length ≤ 210)) = true
  case neg =>
    rw [Bool.not_eq_true] at h
    rw [h] at hf
    (refine Pure.of_code mix Tryd.call10 k_10 (by simp) (fun hB => ?_); (try simp at hB); (try simp -implicitDefEqProofs [c_tallystonelaw33_CheckRenames_10]))
    ((try simp at ha); (try simp at hf); (try simp -implicitDefEqProofs); repeat' first | ((first | with_reducible refine gdK_em (fun hc => ?_) (fun hc => ?_) | with_reducible refine cdK_em (fun hc => ?_) (fun hc => ?_) | with_reducible refine pickK_em (fun hc => ?_) (fun hc => ?_)) <;> (have hc' := hc; (try simp at hc'); simp -implicitDefEqProofs [hc, hc'])) | (with_reducible apply callK_pure <;> first | (simp only [eras, era, eras_map]; first | with_reducible exact ha | with_reducible exact hf | simpa using ha | simpa using hf) | (simp -implicitDefEqProofs)))
  rw [h] at hf
  simp only [Bool.and_eq_true, decide_eq_true_eq] at h
  obtain ⟨h1, h2⟩ := h
  obtain ⟨fa, fb, fc, _⟩ := few_of h1
  by_cases hp0 : p.length = 0
  · (refine Pure.of_code mix Tryd.call10 k_10 (by simp) (fun hB => ?_); (try simp at hB); (try simp -implicitDefEqProofs [c_tallystonelaw33_CheckRenames_10]))
    ((try simp at ha); (try simp at hf); (try simp -implicitDefEqProofs [hp0]); repeat' first | ((first | with_reducible refine gdK_em (fun hc => ?_) (fun hc => ?_) | with_reducible refine cdK_em (fun hc => ?_) (fun hc => ?_) | with_reducible refine pickK_em (fun hc => ?_) (fun hc => ?_)) <;> (have hc' := hc; (try simp at hc'); simp -implicitDefEqProofs [hc, hc', hp0])) | (with_reducible apply callK_pure <;> first | (simp only [eras, era, eras_map]; first | with_reducible exact ha | with_reducible exact hf | simpa using ha | simpa using hf) | (simp -implicitDefEqProofs [hp0])))
  by_cases hN40 : 40 < N.length
  · have hN' : decide ((40 : Int) < N.length) = true := by simp; omega
    have hp0' : ((p.length : Int) == 0) = false := by rw [beq_eq_false_iff_ne]; omega
    (refine Pure.of_code mix Tryd.call10 k_10 (by simp) (fun hB => ?_); (try simp at hB); (try simp -implicitDefEqProofs [c_tallystonelaw33_CheckRenames_10]))
    ((try simp at ha); (try simp at hf); (try simp -implicitDefEqProofs [hp0, hp0', hN', hN40]); repeat' first | ((first | with_reducible refine gdK_em (fun hc => ?_) (fun hc => ?_) | with_reducible refine cdK_em (fun hc => ?_) (fun hc => ?_) | with_reducible refine pickK_em (fun hc => ?_) (fun hc => ?_)) <;> (have hc' := hc; (try simp at hc'); simp -implicitDefEqProofs [hc, hc', hp0, hp0', hN', hN40])) | (with_reducible apply callK_pure <;> first | (simp only [eras, era, eras_map]; first | with_reducible exact ha | with_reducible exact hf | simpa using ha | simpa using hf) | (simp -implicitDefEqProofs [hp0, hp0', hN', hN40])))
  have hN' : decide ((40 : Int) < N.length) = false := by simp; omega
  have hp0' : ((p.length : Int) == 0) = false := by rw [beq_eq_false_iff_ne]; omega
  have hV := w_ValidR p hok (fun r hr s hs => by have := fc r hr s hs; omega)
  have hP := w_progOf h1
  have hC := w_CheckOf h1 h2
  (refine Pure.of_code mix Tryd.call10 k_10 (by simp) (fun hB => ?_); (try simp at hB); (try simp -implicitDefEqProofs [c_tallystonelaw33_CheckRenames_10]))
  ((try simp at ha); (try simp at hf); (try simp -implicitDefEqProofs [hp0, hp0', hN', hN40]); repeat' first | ((first | with_reducible refine gdK_em (fun hc => ?_) (fun hc => ?_) | with_reducible refine cdK_em (fun hc => ?_) (fun hc => ?_) | with_reducible refine pickK_em (fun hc => ?_) (fun hc => ?_)) <;> (have hc' := hc; (try simp at hc'); simp -implicitDefEqProofs [hc, hc', hp0, hp0', hN', hN40])) | (with_reducible apply callK_pure <;> first | (simp only [eras, era, eras_map]; first | with_reducible exact ha | with_reducible exact hf | simpa using ha | simpa using hf) | (simp -implicitDefEqProofs [hp0, hp0', hN', hN40])))
  refine loop_rule (X := Nat) (fun i => i ≤ N.length ∧ (N.take i).Nodup) (fun i => [(0, Rul.l p), (1, Account.l l), (2, vSL N), (7, vI i)]) (fun _ => ⟨[], []⟩) (fun i => N.length - i) 0 ⟨by simp, by simp⟩ (by simp) ?_
  rintro i ⟨hi, hni⟩ hbd
  clear hbd
  rcases Nat.lt_or_ge i N.length with hiN | hiN
  · have e3 : IntKind.i64.wrap ((i : Int) + 1) = (i : Int) + 1 := wrap64 (by omega) (by omega)
    have hix : N[i]? = some N[i] := by simp [hiN]
    ((try simp -implicitDefEqProofs [hiN]); repeat' first | ((first | with_reducible refine gdK_em (fun hc => ?_) (fun hc => ?_) | with_reducible refine cdK_em (fun hc => ?_) (fun hc => ?_) | with_reducible refine pickK_em (fun hc => ?_) (fun hc => ?_)) <;> (have hc' := hc; (try simp at hc'); simp -implicitDefEqProofs [hc, hc', hiN])))
    refine loop_rule (X := Nat) (fun k => k ≤ i ∧ ∀ j, j < k → N[j]? ≠ some N[i]) (fun k => [(0, Rul.l p), (1, Account.l l), (2, vSL N), (7, vI i), (8, vI k)]) (fun _ => ⟨[], []⟩) (fun k => i - k) 0 ⟨by simp, by simp⟩ (by simp) ?_
    rintro k ⟨hk, hno⟩ hbd
    clear hbd
    rcases Nat.lt_or_ge k i with hki | hki
    · have e4 : IntKind.i64.wrap ((k : Int) + 1) = (k : Int) + 1 := wrap64 (by omega) (by omega)
      have hkN : k < N.length := by omega
      have hkx : N[k]? = some N[k] := by simp [hkN]
      by_cases hq : N[i] = N[k]
      · have hq' : (N[i] == N[k]) = true := by simpa using hq
        ((try simp -implicitDefEqProofs [hiN, hki, hkN, hix, hkx, hq', e4]); repeat' first | ((first | with_reducible refine gdK_em (fun hc => ?_) (fun hc => ?_) | with_reducible refine cdK_em (fun hc => ?_) (fun hc => ?_) | with_reducible refine pickK_em (fun hc => ?_) (fun hc => ?_)) <;> (have hc' := hc; (try simp at hc'); simp -implicitDefEqProofs [hc, hc', hiN, hki, hkN, hix, hkx, hq', e4])))
      · have hq' : (N[i] == N[k]) = false := by simpa using hq
        ((try simp -implicitDefEqProofs [hiN, hki, hkN, hix, hkx, hq', e4]); repeat' first | ((first | with_reducible refine gdK_em (fun hc => ?_) (fun hc => ?_) | with_reducible refine cdK_em (fun hc => ?_) (fun hc => ?_) | with_reducible refine pickK_em (fun hc => ?_) (fun hc => ?_)) <;> (have hc' := hc; (try simp at hc'); simp -implicitDefEqProofs [hc, hc', hiN, hki, hkN, hix, hkx, hq', e4])))
        exact ⟨k + 1, ⟨by omega, fun j hj => by
          rcases Nat.lt_or_ge j k with g | g
          · exact hno j g
          · have : j = k := by omega
            subst this
            rw [hkx]; exact fun e => hq (Option.some.inj e).symm⟩, by omega, by push_cast; rfl⟩
    · have : k = i := by omega
      subst this
      have hnx := nodup_take hix hni hno
      ((try simp -implicitDefEqProofs [e3]); repeat' first | ((first | with_reducible refine gdK_em (fun hc => ?_) (fun hc => ?_) | with_reducible refine cdK_em (fun hc => ?_) (fun hc => ?_) | with_reducible refine pickK_em (fun hc => ?_) (fun hc => ?_)) <;> (have hc' := hc; (try simp at hc'); simp -implicitDefEqProofs [hc, hc', e3])))
      exact ⟨k + 1, ⟨by omega, hnx⟩, by omega, by push_cast; rfl⟩
  have : i = N.length := by omega
  subst this
  rw [List.take_length] at hni
  obtain ⟨P0, r, hpr⟩ : ∃ P0 r, p = P0 ++ [r] := ⟨p.dropLast, p.getLast (fun e => hp0 (by rw [e]; rfl)), (List.dropLast_concat_getLast _).symm⟩
  have hpl : p.length = P0.length + 1 := by rw [hpr]; simp
  have hm1 : IntKind.i64.wrap ((p.length : Int) - 1) = (P0.length : Int) := by rw [wrap64 (by omega) (by omega)]; omega
  have hrp : r ∈ p := by rw [hpr]; simp
  have hrb := fb r hrp
  have hrc := fc r hrp
  have hrok := hok r hrp
  obtain ⟨nm, pr, ss, to, hr⟩ : ∃ nm pr ss to, r = ⟨nm, pr, ss, to⟩ := ⟨_, _, _, _, rfl⟩
  have hlast : (p.map Rul.c)[P0.length]? = some [.str nm, .bool pr, .sl (ss.map Stm.c), .int .i64 to] := by rw [hpr, hr]; simp [Rul.c]
  rw [hr] at hrb hrc hrok
  simp only [] at hrb hrc
  have hlt : (P0.length : Int) < p.length := by omega
  have hlt' : P0.length < p.length := by omega
  have hge : (0 : Int) ≤ P0.length := by omega
  have hpg : p[P0.length] = ⟨nm, pr, ss, to⟩ := by
    have : p[P0.length]? = some ⟨nm, pr, ss, to⟩ := by rw [hpr, hr]; simp
    rw [List.getElem?_eq_getElem hlt'] at this
    exact Option.some.inj this
  have hcr : Rul.c ⟨nm, pr, ss, to⟩ = [.str nm, .bool pr, .sl (ss.map Stm.c), .int .i64 to] := rfl
  ((try simp -implicitDefEqProofs [hm1, hlt, hlt', hge, hlast, hpg, hcr]); repeat' first | ((first | with_reducible refine gdK_em (fun hc => ?_) (fun hc => ?_) | with_reducible refine cdK_em (fun hc => ?_) (fun hc => ?_) | with_reducible refine pickK_em (fun hc => ?_) (fun hc => ?_)) <;> (have hc' := hc; (try simp at hc'); simp -implicitDefEqProofs [hc, hc', hm1, hlt, hlt', hge, hlast, hpg, hcr])))
  refine loop_grow [(.slot 10, 9, 1)] (X := Nat × List (List UInt8)) (fun X => X.1 ≤ ss.length ∧ dfs X.2 (ss.drop X.1) = dfs [] ss ∧ X.2.length ≤ X.1)
    (fun X => [(0, Rul.l p), (1, Account.l l), (2, vSL N), (9, .ptr 0 0), (10, ownS 0 X.2), (11, vI X.1)])
    (fun X => ⟨[.cells [vS nm, vB pr, Stm.l ss, vI to]], [X.2.length]⟩) (fun X => ss.length - X.1) (0, []) ⟨by simp, by simp, by simp⟩ (by simp [ownS]) ?_
  rintro ⟨k, D⟩ ⟨hk, hD, hDl⟩ hbd
  simp only [] at hk hD hDl
  clear hbd
  rcases Nat.lt_or_ge k ss.length with hks | hks
  · have hx : ss[k]? = some ss[k] := by simp [hks]
    have e3 : IntKind.i64.wrap ((k : Int) + 1) = (k : Int) + 1 := wrap64 (by omega) (by omega)
    rw [dfs_at hx] at hD
    have hdl := dfS_len D ss[k]
    obtain ⟨kd, acc, sn, x, hs⟩ : ∃ kd acc sn x, ss[k] = ⟨kd, acc, sn, x⟩ := ⟨_, _, _, _, rfl⟩
    have hsk : (ss.map Stm.c)[k]? = some (.int .i64 kd :: .int .i64 acc :: .str sn :: x.c) := by simp [hks, hs, Stm.c]
    have hcc : Stm.c ⟨kd, acc, sn, x⟩ = (.int .i64 kd :: .int .i64 acc :: .str sn :: x.c) := rfl
    have hlc := len_c x
    have htc := take_c x
    have hin := w_In D sn
    rw [inS_memB] at hin
    simp only [vSL] at hin
    rw [hs] at hD hdl
    by_cases k1 : kd = 1
    · subst k1
      cases hb : memB D sn
      · rw [hb] at hin
        have hstep : dfS D ⟨1, acc, sn, x⟩ = D ++ [sn] := by unfold dfS; rw [if_pos ⟨rfl, fun q => by simp [memB, q] at hb⟩]
        rw [hstep] at hD hdl
        have hdl2 : (D ++ [sn]).length = D.length + 1 := by simp
        ((try simp at hin); (try simp -implicitDefEqProofs [hks, hs, hsk, hcc, hlc, htc, e3]); repeat' first | ((first | with_reducible refine gdK_em (fun hc => ?_) (fun hc => ?_) | with_reducible refine cdK_em (fun hc => ?_) (fun hc => ?_) | with_reducible refine pickK_em (fun hc => ?_) (fun hc => ?_)) <;> (have hc' := hc; (try simp at hc'); simp -implicitDefEqProofs [hc, hc', hks, hs, hsk, hcc, hlc, htc, e3])) | (with_reducible apply callK_pure <;> first | (simp only [eras, era, eras_map]; first | with_reducible exact hin | simpa using hin) | (simp -implicitDefEqProofs [hks, hs, hsk, hcc, hlc, htc, e3])))
        exact ⟨⟨by unfold maxLen; omega, by omega⟩, k + 1, D ++ [sn], ⟨by omega, hD, by omega⟩, by omega, by simp, by rw [List.map_append]; exact leA.refl _, by push_cast; rfl⟩
      · rw [hb] at hin
        have hstep : dfS D ⟨1, acc, sn, x⟩ = D := by unfold dfS; rw [if_neg (fun q => q.2 (by simpa [memB] using hb))]
        rw [hstep] at hD
        ((try simp at hin); (try simp -implicitDefEqProofs [hks, hs, hsk, hcc, hlc, htc, e3]); repeat' first | ((first | with_reducible refine gdK_em (fun hc => ?_) (fun hc => ?_) | with_reducible refine cdK_em (fun hc => ?_) (fun hc => ?_) | with_reducible refine pickK_em (fun hc => ?_) (fun hc => ?_)) <;> (have hc' := hc; (try simp at hc'); simp -implicitDefEqProofs [hc, hc', hks, hs, hsk, hcc, hlc, htc, e3])) | (with_reducible apply callK_pure <;> first | (simp only [eras, era, eras_map]; first | with_reducible exact hin | simpa using hin) | (simp -implicitDefEqProofs [hks, hs, hsk, hcc, hlc, htc, e3])))
        exact ⟨k + 1, D, ⟨by omega, hD, by omega⟩, by omega, rfl, leA.refl _, by push_cast; rfl⟩
    · have k1' : (kd == 1) = false := by simpa using k1
      have hstep : dfS D ⟨kd, acc, sn, x⟩ = D := by unfold dfS; rw [if_neg (fun q => k1 q.1)]
      rw [hstep] at hD
      ((try simp at hin); (try simp -implicitDefEqProofs [hks, hs, hsk, hcc, hlc, htc, e3, k1, k1']); repeat' first | ((first | with_reducible refine gdK_em (fun hc => ?_) (fun hc => ?_) | with_reducible refine cdK_em (fun hc => ?_) (fun hc => ?_) | with_reducible refine pickK_em (fun hc => ?_) (fun hc => ?_)) <;> (have hc' := hc; (try simp at hc'); simp -implicitDefEqProofs [hc, hc', hks, hs, hsk, hcc, hlc, htc, e3, k1, k1'])) | (with_reducible apply callK_pure <;> first | (simp only [eras, era, eras_map]; first | with_reducible exact hin | simpa using hin) | (simp -implicitDefEqProofs [hks, hs, hsk, hcc, hlc, htc, e3, k1, k1'])))
      exact ⟨k + 1, D, ⟨by omega, hD, by omega⟩, by omega, rfl, leA.refl _, by push_cast; rfl⟩
  have : k = ss.length := by omega
  subst this
  rw [List.drop_length, dfs] at hD
  subst hD
  have hDn : (dfs [] ss).Nodup := dfs_nodup ss (by simp)
  have hDm := fun s hs hk => dfs_mem ss (D := []) (s := s) hs hk
  generalize dfs [] ss = D at *
  by_cases hlen : N.length < D.length
  · have hlen' : decide ((N.length : Int) < D.length) = true := by simp; omega
    ((try simp -implicitDefEqProofs [hlen, hlen']); repeat' first | ((first | with_reducible refine gdK_em (fun hc => ?_) (fun hc => ?_) | with_reducible refine cdK_em (fun hc => ?_) (fun hc => ?_) | with_reducible refine pickK_em (fun hc => ?_) (fun hc => ?_)) <;> (have hc' := hc; (try simp at hc'); simp -implicitDefEqProofs [hc, hc', hlen, hlen'])))
  have hlen' : decide ((N.length : Int) < D.length) = false := by simp; omega
  ((try simp -implicitDefEqProofs [hlen, hlen']); repeat' first | ((first | with_reducible refine gdK_em (fun hc => ?_) (fun hc => ?_) | with_reducible refine cdK_em (fun hc => ?_) (fun hc => ?_) | with_reducible refine pickK_em (fun hc => ?_) (fun hc => ?_)) <;> (have hc' := hc; (try simp at hc'); simp -implicitDefEqProofs [hc, hc', hlen, hlen'])))
  obtain ⟨L, hL⟩ : ∃ L, L = (ss.map (Stm.ren D N)).map Stm.c := ⟨_, rfl⟩
  have hLl : L.length = ss.length := by rw [hL]; simp
  refine loop_grow [(.slot 13, 36, 9)] (X := Nat) (fun k => k ≤ ss.length)
    (fun k => [(0, Rul.l p), (1, Account.l l), (2, vSL N), (9, .ptr 0 0), (10, ownS 0 D), (13, .own 1 36 9 (L.take k)), (14, vI k)])
    (fun k => ⟨[.cells [vS nm, vB pr, Stm.l ss, vI to]], [D.length, k]⟩) (fun k => ss.length - k) 0 (by simp) (by simp [ownS]) ?_
  rintro k hk hbd
  clear hbd
  rcases Nat.lt_or_ge k ss.length with hks | hks
  · have hx : ss[k]? = some ss[k] := by simp [hks]
    have e3 : IntKind.i64.wrap ((k : Int) + 1) = (k : Int) + 1 := wrap64 (by omega) (by omega)
    have hcn := hrc ss[k] (List.getElem_mem hks)
    obtain ⟨kd, acc, sn, x, hs⟩ : ∃ kd acc sn x, ss[k] = ⟨kd, acc, sn, x⟩ := ⟨_, _, _, _, rfl⟩
    have hsk : (ss.map Stm.c)[k]? = some (.int .i64 kd :: .int .i64 acc :: .str sn :: x.c) := by simp [hks, hs, Stm.c]
    have hcc : Stm.c ⟨kd, acc, sn, x⟩ = (.int .i64 kd :: .int .i64 acc :: .str sn :: x.c) := rfl
    rw [hs] at hcn
    simp only [] at hcn
    have hlc := len_c x
    have htc := take_c x
    have hlc' := len_c (x.ren D N)
    have htc' := take_c (x.ren D N)
    have hren := w_Rename D N x (by omega)
    simp only [vSL] at hren
    have hrv : L.take (k + 1) = L.take k ++ [.int .i64 kd :: .int .i64 acc :: .str (if kd = 1 then rnS D N sn else sn) :: (x.ren D N).c] := by
      rw [take_next (x := (.int .i64 kd :: .int .i64 acc :: .str (if kd = 1 then rnS D N sn else sn) :: (x.ren D N).c)) (by rw [hL]; simp [hks, hs, Stm.ren, Stm.c])]
    have hmin : min k L.length = k := by omega
    ((try simp at hren); (try simp -implicitDefEqProofs [hks, hs, hsk, hcc, hlc, htc, hlc', htc', e3]); repeat' first | ((first | with_reducible refine gdK_em (fun hc => ?_) (fun hc => ?_) | with_reducible refine cdK_em (fun hc => ?_) (fun hc => ?_) | with_reducible refine pickK_em (fun hc => ?_) (fun hc => ?_)) <;> (have hc' := hc; (try simp at hc'); simp -implicitDefEqProofs [hc, hc', hks, hs, hsk, hcc, hlc, htc, hlc', htc', e3])) | (with_reducible apply callK_pure <;> first | (simp only [eras, era, eras_map]; first | with_reducible exact hren | simpa using hren) | (simp -implicitDefEqProofs [hks, hs, hsk, hcc, hlc, htc, hlc', htc', e3])))
    have hdr6 : (x.c.map V.t).drop 6 = [] := List.drop_of_length_le (by simp [len_c])
    have big : (k + 1 ≤ maxLen ∧ (k + 1) * 104 ≤ 140737488355328) := ⟨by unfold maxLen; omega, by omega⟩
    by_cases k1 : kd = 1
    · subst k1
      rw [if_pos rfl] at hrv
      refine loop_rule (X := Nat) (fun m => m ≤ D.length)
        (fun m => [(0, Rul.l p), (1, Account.l l), (2, vSL N), (9, .ptr 0 0), (10, ownS 0 D), (13, .own 1 36 9 (L.take k)), (14, vI k), (15, .ptr 1 0), (16, vI m)])
        (fun m => ⟨[.cells [vS nm, vB pr, Stm.l ss, vI to], .cells (vI 1 :: vI acc :: vS (rnS (D.take m) N sn) :: (x.ren D N).c.map V.t)], [D.length, k]⟩) (fun m => D.length - m) 0 (by simp) (by simp [ownS, rnS, hdr6, LeL_refl]) ?_
      rintro m hm hbd
      clear hbd
      rcases Nat.lt_or_ge m D.length with hmD | hmD
      · have hmN : m < N.length := by omega
        have hdx : D[m]? = some D[m] := by simp [hmD]
        have hnx : N[m]? = some N[m] := by simp [hmN]
        have e4 : IntKind.i64.wrap ((m : Int) + 1) = (m : Int) + 1 := wrap64 (by omega) (by omega)
        have hstep := rnS_next sn hmN hDn hdx
        by_cases hq : sn = D[m]
        · have hq' : (sn == D[m]) = true := by simpa using hq
          rw [if_pos hq] at hstep
          ((try simp -implicitDefEqProofs [hks, hs, hsk, hcc, hmD, hmN, hdx, hnx, hlc', htc', e4, hq']); repeat' first | ((first | with_reducible refine gdK_em (fun hc => ?_) (fun hc => ?_) | with_reducible refine cdK_em (fun hc => ?_) (fun hc => ?_) | with_reducible refine pickK_em (fun hc => ?_) (fun hc => ?_)) <;> (have hc' := hc; (try simp at hc'); simp -implicitDefEqProofs [hc, hc', hks, hs, hsk, hcc, hmD, hmN, hdx, hnx, hlc', htc', e4, hq'])))
          exact ⟨hlc, m + 1, by omega, by omega, hstep, by push_cast; rfl⟩
        · have hq' : (sn == D[m]) = false := by simpa using hq
          rw [if_neg hq] at hstep
          ((try simp -implicitDefEqProofs [hks, hs, hsk, hcc, hmD, hmN, hdx, hnx, hlc', htc', e4, hq']); repeat' first | ((first | with_reducible refine gdK_em (fun hc => ?_) (fun hc => ?_) | with_reducible refine cdK_em (fun hc => ?_) (fun hc => ?_) | with_reducible refine pickK_em (fun hc => ?_) (fun hc => ?_)) <;> (have hc' := hc; (try simp at hc'); simp -implicitDefEqProofs [hc, hc', hks, hs, hsk, hcc, hmD, hmN, hdx, hnx, hlc', htc', e4, hq'])))
          exact ⟨hlc, m + 1, by omega, by omega, hstep, by push_cast; rfl⟩
      · have : m = D.length := by omega
        subst this
        rw [List.take_length]
        ((try simp -implicitDefEqProofs [hks, hs, hsk, hcc, hlc', htc', e3, hmin]); repeat' first | ((first | with_reducible refine gdK_em (fun hc => ?_) (fun hc => ?_) | with_reducible refine cdK_em (fun hc => ?_) (fun hc => ?_) | with_reducible refine pickK_em (fun hc => ?_) (fun hc => ?_)) <;> (have hc' := hc; (try simp at hc'); simp -implicitDefEqProofs [hc, hc', hks, hs, hsk, hcc, hlc', htc', e3, hmin])))
        exact ⟨big, k + 1, by omega, by omega, rfl, by rw [hrv]; exact leA.refl _, by push_cast; rfl⟩
    · have k1' : (kd == 1) = false := by simpa using k1
      rw [if_neg k1] at hrv
      refine loop_rule (X := Nat) (fun m => m = 0)
        (fun m => [(0, Rul.l p), (1, Account.l l), (2, vSL N), (9, .ptr 0 0), (10, ownS 0 D), (13, .own 1 36 9 (L.take k)), (14, vI k), (15, .ptr 1 0), (16, vI m)])
        (fun m => ⟨[.cells [vS nm, vB pr, Stm.l ss, vI to], .cells (vI kd :: vI acc :: vS sn :: (x.ren D N).c.map V.t)], [D.length, k]⟩) (fun m => 0) 0 rfl (by simp [ownS, hdr6, LeL_refl]) ?_
      rintro m rfl hbd
      clear hbd
      rcases Nat.eq_zero_or_pos D.length with hD0 | hD0
      · have : D = [] := List.length_eq_zero_iff.1 hD0
        subst this
        ((try simp -implicitDefEqProofs [hks, hs, hsk, hcc, hlc', htc', e3, k1, k1', hmin]); repeat' first | ((first | with_reducible refine gdK_em (fun hc => ?_) (fun hc => ?_) | with_reducible refine cdK_em (fun hc => ?_) (fun hc => ?_) | with_reducible refine pickK_em (fun hc => ?_) (fun hc => ?_)) <;> (have hc' := hc; (try simp at hc'); simp -implicitDefEqProofs [hc, hc', hks, hs, hsk, hcc, hlc', htc', e3, k1, k1', hmin])))
        exact ⟨big, k + 1, by omega, by omega, rfl, by rw [hrv]; exact leA.refl _, by push_cast; rfl⟩
      · have hD1 : decide ((0 : Int) < D.length) = true := by simp; omega
        have hD2 : (0 : Int) < D.length := by omega
        have hD3 : ¬ D = [] := fun e => by rw [e] at hD0; simp at hD0
        ((try simp -implicitDefEqProofs [hks, hs, hsk, hcc, hlc', htc', e3, k1, k1', hmin, hD0, hD1, hD2, hD3]); repeat' first | ((first | with_reducible refine gdK_em (fun hc => ?_) (fun hc => ?_) | with_reducible refine cdK_em (fun hc => ?_) (fun hc => ?_) | with_reducible refine pickK_em (fun hc => ?_) (fun hc => ?_)) <;> (have hc' := hc; (try simp at hc'); simp -implicitDefEqProofs [hc, hc', hks, hs, hsk, hcc, hlc', htc', e3, k1, k1', hmin, hD0, hD1, hD2, hD3])))
        exact ⟨big, k + 1, by omega, by omega, rfl, by rw [hrv]; exact leA.refl _, by push_cast; rfl⟩
  have : k = ss.length := by omega
  subst this
  have hLt : L.take ss.length = L := List.take_of_length_le (by omega)
  have hu := w_used D N ⟨nm, pr, ss, to⟩ (by simp only []; omega)
  simp only [] at hu
  simp only [Rul.v, hcr, List.map, vSL] at hu
  rw [hLt]
  generalize hub : ss.any (fun s => s.ex.free D N) = ub at *
  cases ub
  · have hcq : ∀ x ∈ renP P0 r D N, ∀ s ∈ x.stmts, s.ex.cnt ≤ 200 := by
      intro x hx s hs
      unfold renP at hx
      rcases List.mem_append.1 hx with hx | hx
      · exact fc x (by rw [hpr]; simp [hx]) s hs
      · simp at hx
        subst hx
        simp only [] at hs
        rw [hr] at hs
        obtain ⟨s', hs', rfl⟩ := List.mem_map.1 hs
        rw [Stm.ren, Xp.ren_cnt]
        exact hrc s' hs'
    have hsq : ∀ x ∈ renP P0 r D N, x.stmts.length ≤ 40 := by
      intro x hx
      unfold renP at hx
      rcases List.mem_append.1 hx with hx | hx
      · exact fb x (by rw [hpr]; simp [hx])
      · simp at hx
        subst hx
        simp only [List.length_map]
        rw [hr]; exact hrb
    have hokq : ∀ x ∈ renP P0 r D N, x.ok := by
      intro x hx
      unfold renP at hx
      rcases List.mem_append.1 hx with hx | hx
      · exact hok x (by rw [hpr]; simp [hx])
      · simp at hx
        subst hx
        refine ⟨(hok r hrp).1, fun s hs => ?_⟩
        simp only [] at hs
        obtain ⟨s', hs', rfl⟩ := List.mem_map.1 hs
        exact Stm.ren_ok hNl ((hok r hrp).2 s' hs')
    have hlq : (renP P0 r D N).length ≤ 1000 := by unfold renP; simp; omega
    have hVq := w_ValidR (renP P0 r D N) hokq (fun r hr s hs => by have := hcq r hr s hs; omega)
    have hPq := w_prog32 (renP P0 r D N) hlq (fun r hr => by have := hsq r hr; omega) (fun r hr s hs => by have := hcq r hr s hs; omega)
    have hCq := w_Check (renP P0 r D N) l (fun r hr s hs => by have := hcq r hr s hs; omega) (by omega)
    have hlaw : prgB (renP P0 r D N) = prgB p → chkR (renP P0 r D N) l = chkR p l := by
      intro hv
      rw [hpr] at hv ⊢
      refine chkR_ren l hni (by omega) (fun s hs => ?_) (fun s hs hk => ?_) hv
      · rw [hr] at hs
        have := List.any_eq_false.1 hub s hs
        simpa using this
      · rw [hr] at hs
        exact hDm s hs hk
    have hcells : (renP P0 r D N).map Rul.c = P0.map Rul.c ++ [[.str nm, .bool pr, .sl L, .int .i64 to]] := by
      unfold renP
      rw [hL, hr]
      simp [Rul.c]
    have htk : (p.map Rul.c).take P0.length = P0.map Rul.c := by rw [hpr]; simp
    simp only [Rul.l, hcells] at hVq hPq hCq
    generalize prgB (renP P0 r D N) = v1 at *
    generalize prgB p = v2 at *
    generalize chkR (renP P0 r D N) l = c1 at *
    generalize chkR p l = c2 at *
    clear hcq hsq hokq hlq hcells hDm
    have hPl : P0.length ≤ 50 := by omega
    have hall : ∀ a ∈ p, a.c.length = 4 := fun a _ => rfl
    have hle : P0.length ≤ p.length := by omega
    ((try simp at hu); (try simp -implicitDefEqProofs [hcr, hm1, htk, hall, hle]); repeat' first | ((first | with_reducible refine gdK_em (fun hc => ?_) (fun hc => ?_) | with_reducible refine cdK_em (fun hc => ?_) (fun hc => ?_) | with_reducible refine pickK_em (fun hc => ?_) (fun hc => ?_)) <;> (have hc' := hc; (try simp at hc'); simp -implicitDefEqProofs [hc, hc', hcr, hm1, htk, hall, hle])) | (with_reducible apply callK_pure <;> first | (simp only [eras, era, eras_map]; first | with_reducible exact hu | simpa using hu) | (simp -implicitDefEqProofs [hcr, hm1, htk, hall, hle])))
    refine ⟨fun a _ => rfl, fun a _ => rfl, ?_⟩
    have main : v1 = v2 → c1 = c2 := hlaw
    by_cases hP0 : P0 = []
    · rw [if_pos hP0]
      subst hP0
      simp only [List.map_nil, List.nil_append] at hVq hPq hCq
      refine ⟨by unfold maxLen; omega, ?_⟩
      by_cases hvv : v1 = v2
      · have hcc := main hvv
        subst hvv
        subst hcc
        ((try simp at hV); (try simp at hVq); (try simp at hP); (try simp at hC); (try simp at hPq); (try simp at hCq); (try simp -implicitDefEqProofs); repeat' first | ((first | with_reducible refine gdK_em (fun hc => ?_) (fun hc => ?_) | with_reducible refine cdK_em (fun hc => ?_) (fun hc => ?_) | with_reducible refine pickK_em (fun hc => ?_) (fun hc => ?_)) <;> (have hc' := hc; (try simp at hc'); simp -implicitDefEqProofs [hc, hc'])) | (with_reducible apply callK_pure <;> first | (simp only [eras, era, eras_map]; first | with_reducible exact hV | with_reducible exact hVq | with_reducible exact hP | with_reducible exact hC | with_reducible exact hPq | with_reducible exact hCq | simpa using hV | simpa using hVq | simpa using hP | simpa using hC | simpa using hPq | simpa using hCq) | (simp -implicitDefEqProofs)))
      · have hvv' : (!(v2 == v1)) = true := by simpa using Ne.symm hvv
        ((try simp at hV); (try simp at hVq); (try simp -implicitDefEqProofs [hvv']); repeat' first | ((first | with_reducible refine gdK_em (fun hc => ?_) (fun hc => ?_) | with_reducible refine cdK_em (fun hc => ?_) (fun hc => ?_) | with_reducible refine pickK_em (fun hc => ?_) (fun hc => ?_)) <;> (have hc' := hc; (try simp at hc'); simp -implicitDefEqProofs [hc, hc', hvv'])) | (with_reducible apply callK_pure <;> first | (simp only [eras, era, eras_map]; first | with_reducible exact hV | with_reducible exact hVq | simpa using hV | simpa using hVq) | (simp -implicitDefEqProofs [hvv'])))
    · rw [if_neg hP0]
      refine ⟨⟨by unfold maxLen; omega, by omega⟩, ⟨by unfold maxLen; omega, by omega⟩, ?_⟩
      by_cases hvv : v1 = v2
      · have hcc := main hvv
        subst hvv
        subst hcc
        ((try simp at hV); (try simp at hVq); (try simp at hP); (try simp at hC); (try simp at hPq); (try simp at hCq); (try simp -implicitDefEqProofs); repeat' first | ((first | with_reducible refine gdK_em (fun hc => ?_) (fun hc => ?_) | with_reducible refine cdK_em (fun hc => ?_) (fun hc => ?_) | with_reducible refine pickK_em (fun hc => ?_) (fun hc => ?_)) <;> (have hc' := hc; (try simp at hc'); simp -implicitDefEqProofs [hc, hc'])) | (with_reducible apply callK_pure <;> first | (simp only [eras, era, eras_map]; first | with_reducible exact hV | with_reducible exact hVq | with_reducible exact hP | with_reducible exact hC | with_reducible exact hPq | with_reducible exact hCq | simpa using hV | simpa using hVq | simpa using hP | simpa using hC | simpa using hPq | simpa using hCq) | (simp -implicitDefEqProofs)))
      · have hvv' : (!(v2 == v1)) = true := by simpa using Ne.symm hvv
        ((try simp at hV); (try simp at hVq); (try simp -implicitDefEqProofs [hvv']); repeat' first | ((first | with_reducible refine gdK_em (fun hc => ?_) (fun hc => ?_) | with_reducible refine cdK_em (fun hc => ?_) (fun hc => ?_) | with_reducible refine pickK_em (fun hc => ?_) (fun hc => ?_)) <;> (have hc' := hc; (try simp at hc'); simp -implicitDefEqProofs [hc, hc', hvv'])) | (with_reducible apply callK_pure <;> first | (simp only [eras, era, eras_map]; first | with_reducible exact hV | with_reducible exact hVq | simpa using hV | simpa using hVq) | (simp -implicitDefEqProofs [hvv'])))
  · ((try simp at hu); (try simp -implicitDefEqProofs [hcr]); repeat' first | ((first | with_reducible refine gdK_em (fun hc => ?_) (fun hc => ?_) | with_reducible refine cdK_em (fun hc => ?_) (fun hc => ?_) | with_reducible refine pickK_em (fun hc => ?_) (fun hc => ?_)) <;> (have hc' := hc; (try simp at hc'); simp -implicitDefEqProofs [hc, hc', hcr])) | (with_reducible apply callK_pure <;> first | (simp only [eras, era, eras_map]; first | with_reducible exact hu | simpa using hu) | (simp -implicitDefEqProofs [hcr])))
end Go.Proofs.YtkapabohpfkcoaaDoor
