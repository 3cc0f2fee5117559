/- Chapter 33: the reference's put and Posts. -/
import Derived.Test.YtnlkppaehbopaaaDoorPsp
import Derived.Test.YtnlkppaehbopaaaDoorRds
set_option linter.unusedSimpArgs false
set_option linter.unusedVariables false
set_option maxHeartbeats 4000000
set_option maxRecDepth 8000
namespace Go.Proofs.YtnlkppaehbopaaaDoor
open E

@[simp] abbrev intsV (l : List Int) : V := .t (.sl (l.map fun n => [.int .i64 n]))
@[simp] abbrev ownI2 (i : Nat) (l : List Int) : V := .own i 3 1 (l.map fun n => [T.int .i64 n])
theorem putS_len : ∀ (l : List Int) (n : Int), (putS l n).length ≤ l.length + 1
  | [], n => by simp [putS]
  | x :: l, n => by
    have := putS_len l n
    rw [putS]
    split
    · simp
    · split
      · simp
      · simp; omega
theorem foldl_put_len : ∀ (L l : List Int), (L.foldl putS l).length ≤ l.length + L.length
  | [], l => by simp
  | n :: L, l => by
    have h1 := foldl_put_len L (putS l n)
    have h2 := putS_len l n
    rw [List.foldl_cons, List.length_cons]; omega
theorem w_put (l : List Int) (n : Int) (hl : l.length ≤ 100000) : Pure Tryd.prog 35 [intsV l, vI n] (intsV (putS l n)) := by
  generalize hR : putS l n = R
  (refine Pure.of_code mix Tryd.call35 k_35 (by simp) (fun hB => ?_); (try simp at hB); (try simp -implicitDefEqProofs [c_tallystoneref33_put_35]))
  refine loop_grow [(.slot 5, 3, 1)] (X := Nat × List Int × Bool) (fun X => X.1 ≤ l.length ∧ X.2.1 ++ (if X.2.2 then l.drop X.1 else putS (l.drop X.1) n) = R ∧ X.2.1.length ≤ X.1 + (if X.2.2 then 1 else 0))
    (fun X => [(0, intsV l), (1, vI n), (5, ownI2 0 X.2.1), (6, vB X.2.2), (7, vI X.1)]) (fun X => ⟨[], [X.2.1.length]⟩) (fun X => l.length - X.1) (0, [], false) ⟨by simp, by simpa using hR, by simp⟩ (by simp) ?_
  rintro ⟨i, out, dn⟩ ⟨hi, hD, hlen⟩ hbd
  simp only [] at hi hD hlen
  clear hbd
  have hlen2 : out.length ≤ i + 1 := by split at hlen <;> omega
  have big1 : out.length + 1 ≤ maxLen ∧ (out.length + 1) * 8 ≤ 140737488355328 := ⟨by unfold maxLen; omega, by omega⟩
  have big2 : out.length + 1 + 1 ≤ maxLen ∧ (out.length + 1 + 1) * 8 ≤ 140737488355328 := ⟨by unfold maxLen; omega, by omega⟩
  rcases Nat.lt_or_ge i l.length with h | h
  · have hx : l[i]? = some l[i] := by simp [h]
    have e3 : IntKind.i64.wrap ((i : Int) + 1) = (i : Int) + 1 := wrap64 (by omega) (by omega)
    rw [List.drop_eq_getElem_cons h] at hD
    generalize hxx : l[i] = x at *
    cases dn
    · simp only [Bool.false_eq_true, if_false, putS] at hD hlen
      rcases Int.lt_trichotomy n x with c | c | c
      · have c1 : decide (n < x) = true := by simpa using c
        have c2 : decide (n ≤ x) = true := by simp; omega
        have c3 : n ≤ x := by omega
        rw [if_pos c] at hD
        ((try simp -implicitDefEqProofs [h, hxx, hx, c, c1, c2, c3, e3, big1, big2]); repeat' first | ((first | with_reducible refine gdK_em (fun hc => ?_) (fun hc => ?_) | with_reducible refine cdK_em (fun hc => ?_) (fun hc => ?_) | with_reducible refine pickK_em (fun hc => ?_) (fun hc => ?_)) <;> (have hc' := hc; (try simp at hc'); simp -implicitDefEqProofs [hc, hc', h, hxx, hx, c, c1, c2, c3, e3, big1, big2])))
        exact ⟨i + 1, out ++ [n, x], ⟨by omega, by rw [List.append_assoc]; exact hD, by simp; omega⟩, by omega, by simp, by rw [List.map_append]; exact leA.refl _, by push_cast; rfl⟩
      · subst c
        have c1 : decide (n < n) = false := by simp
        have c2 : decide (n ≤ n) = true := by simp
        rw [if_neg (by omega), if_pos rfl] at hD
        ((try simp -implicitDefEqProofs [h, hxx, hx, c1, c2, e3, big1, big2]); repeat' first | ((first | with_reducible refine gdK_em (fun hc => ?_) (fun hc => ?_) | with_reducible refine cdK_em (fun hc => ?_) (fun hc => ?_) | with_reducible refine pickK_em (fun hc => ?_) (fun hc => ?_)) <;> (have hc' := hc; (try simp at hc'); simp -implicitDefEqProofs [hc, hc', h, hxx, hx, c1, c2, e3, big1, big2])))
        exact ⟨i + 1, out ++ [n], ⟨by omega, by rw [List.append_assoc]; exact hD, by simp; omega⟩, by omega, by simp, by rw [List.map_append]; exact leA.refl _, by push_cast; rfl⟩
      · have c1 : decide (n < x) = false := by simp; omega
        have c2 : decide (n ≤ x) = false := by simp; omega
        have c3 : ¬ n < x := by omega
        have c4 : ¬ n ≤ x := by omega
        rw [if_neg (by omega), if_neg (by omega)] at hD
        ((try simp -implicitDefEqProofs [h, hxx, hx, c1, c2, c3, c4, e3, big1, big2]); repeat' first | ((first | with_reducible refine gdK_em (fun hc => ?_) (fun hc => ?_) | with_reducible refine cdK_em (fun hc => ?_) (fun hc => ?_) | with_reducible refine pickK_em (fun hc => ?_) (fun hc => ?_)) <;> (have hc' := hc; (try simp at hc'); simp -implicitDefEqProofs [hc, hc', h, hxx, hx, c1, c2, c3, c4, e3, big1, big2])))
        exact ⟨i + 1, out ++ [x], ⟨by omega, by rw [List.append_assoc]; exact hD, by simp; omega⟩, by omega, by simp, by rw [List.map_append]; exact leA.refl _, by push_cast; rfl⟩
    · simp only [if_true] at hD hlen
      by_cases c : n < x
      · have c1 : decide (n < x) = true := by simpa using c
        ((try simp -implicitDefEqProofs [h, hxx, hx, c, c1, e3, big1, big2]); repeat' first | ((first | with_reducible refine gdK_em (fun hc => ?_) (fun hc => ?_) | with_reducible refine cdK_em (fun hc => ?_) (fun hc => ?_) | with_reducible refine pickK_em (fun hc => ?_) (fun hc => ?_)) <;> (have hc' := hc; (try simp at hc'); simp -implicitDefEqProofs [hc, hc', h, hxx, hx, c, c1, e3, big1, big2])))
        exact ⟨i + 1, out ++ [x], ⟨by omega, by rw [List.append_assoc]; exact hD, by simp; omega⟩, by omega, by simp, by rw [List.map_append]; exact leA.refl _, by push_cast; rfl⟩
      · have c1 : decide (n < x) = false := by simpa using c
        ((try simp -implicitDefEqProofs [h, hxx, hx, c, c1, e3, big1, big2]); repeat' first | ((first | with_reducible refine gdK_em (fun hc => ?_) (fun hc => ?_) | with_reducible refine cdK_em (fun hc => ?_) (fun hc => ?_) | with_reducible refine pickK_em (fun hc => ?_) (fun hc => ?_)) <;> (have hc' := hc; (try simp at hc'); simp -implicitDefEqProofs [hc, hc', h, hxx, hx, c, c1, e3, big1, big2])))
        exact ⟨i + 1, out ++ [x], ⟨by omega, by rw [List.append_assoc]; exact hD, by simp; omega⟩, by omega, by simp, by rw [List.map_append]; exact leA.refl _, by push_cast; rfl⟩
  · have : i = l.length := by omega
    subst this
    rw [List.drop_length] at hD
    cases dn
    · simp only [Bool.false_eq_true, if_false, putS] at hD
      subst hD
      ((try simp -implicitDefEqProofs [h, big1]); repeat' first | ((first | with_reducible refine gdK_em (fun hc => ?_) (fun hc => ?_) | with_reducible refine cdK_em (fun hc => ?_) (fun hc => ?_) | with_reducible refine pickK_em (fun hc => ?_) (fun hc => ?_)) <;> (have hc' := hc; (try simp at hc'); simp -implicitDefEqProofs [hc, hc', h, big1])))
      trace_state
    · simp only [if_true, List.append_nil] at hD
      subst hD
      ((try simp -implicitDefEqProofs [h, big1]); repeat' first | ((first | with_reducible refine gdK_em (fun hc => ?_) (fun hc => ?_) | with_reducible refine cdK_em (fun hc => ?_) (fun hc => ?_) | with_reducible refine pickK_em (fun hc => ?_) (fun hc => ?_)) <;> (have hc' := hc; (try simp at hc'); simp -implicitDefEqProofs [hc, hc', h, big1])))
theorem w_rPosts (p : List Rul) (hp : p.length ≤ 50) (hss : ∀ r ∈ p, r.stmts.length ≤ 40) : Pure Tryd.prog 17 [Rul.l p] (intsV ((postM p).foldl putS [])) := by
  generalize hR : (postM p).foldl putS [] = R
  (refine Pure.of_code mix Tryd.call17 k_17 (by simp) (fun hB => ?_); (try simp at hB); (try simp -implicitDefEqProofs [c_tallystoneref33_Posts_17]))
  refine loop_rule (X := Nat) (fun i => i ≤ p.length) (fun i => [(0, Rul.l p), (3, intsV ((postM (p.take i)).foldl putS [])), (4, vI i)]) (fun _ => ⟨[], []⟩) (fun i => p.length - i) 0 (by simp) (by simp [postM]) ?_
  rintro i hi hbd
  clear hbd
  rcases Nat.lt_or_ge i p.length with h | h
  · have hx : p[i]? = some p[i] := by simp [h]
    have e3 : IntKind.i64.wrap ((i : Int) + 1) = (i : Int) + 1 := wrap64 (by omega) (by omega)
    have hsl := hss _ (List.getElem_mem h)
    have hnx := postM_next hx
    have hpl : (postM (p.take i)).length ≤ 2050 := by
      have := postM_len (p.take i) 40 (fun r hr => hss r (List.mem_of_mem_take hr))
      have h2 : (p.take i).length ≤ 50 := by simp; omega
      omega
    obtain ⟨nm, pr, ss, to, hr⟩ : ∃ nm pr ss to, p[i] = ⟨nm, pr, ss, to⟩ := ⟨_, _, _, _, rfl⟩
    have hrk : (p.map Rul.c)[i]? = some [.str nm, .bool pr, .sl (ss.map Stm.c), .int .i64 to] := by simp [h, hr, Rul.c]
    have hcc : p[i].c = [.str nm, .bool pr, .sl (ss.map Stm.c), .int .i64 to] := by rw [hr]; rfl
    rw [hr] at hsl hnx
    simp only [] at hsl hnx
    generalize postM (p.take i) = L0 at *
    ((try simp -implicitDefEqProofs [h, hrk, hcc]); repeat' first | ((first | with_reducible refine gdK_em (fun hc => ?_) (fun hc => ?_) | with_reducible refine cdK_em (fun hc => ?_) (fun hc => ?_) | with_reducible refine pickK_em (fun hc => ?_) (fun hc => ?_)) <;> (have hc' := hc; (try simp at hc'); simp -implicitDefEqProofs [hc, hc', h, hrk, hcc])))
    refine loop_rule (X := Nat) (fun k => k ≤ ss.length) (fun k => [(0, Rul.l p), (3, intsV ((L0 ++ accs (ss.take k)).foldl putS [])), (4, vI i), (5, vI k)]) (fun _ => ⟨[], []⟩) (fun k => ss.length - k) 0 (by simp) (by simp [accs]) ?_
    rintro k hk hbd
    clear hbd
    have hal := accs_len (ss.take k)
    have htl : (ss.take k).length ≤ 40 := by simp; omega
    have hfl := foldl_put_len (L0 ++ accs (ss.take k)) []
    simp only [List.length_nil, List.length_append] at hfl
    rcases Nat.lt_or_ge k ss.length with g | g
    · have e4 : IntKind.i64.wrap ((k : Int) + 1) = (k : Int) + 1 := wrap64 (by omega) (by omega)
      have gx : ss[k]? = some ss[k] := by simp [g]
      have han := accs_next gx
      obtain ⟨kd, acc, sn, x, hs⟩ : ∃ kd acc sn x, ss[k] = ⟨kd, acc, sn, x⟩ := ⟨_, _, _, _, rfl⟩
      have hsk : (ss.map Stm.c)[k]? = some (.int .i64 kd :: .int .i64 acc :: .str sn :: x.c) := by simp [g, hs, Stm.c]
      have hc2 : Stm.c ⟨kd, acc, sn, x⟩ = (.int .i64 kd :: .int .i64 acc :: .str sn :: x.c) := rfl
      have hlc := len_c x
      have htc := take_c x
      rw [hs] at han
      by_cases k3 : kd = 3
      · subst k3
        have ha : accs [⟨3, acc, sn, x⟩] = [acc] := rfl
        rw [ha] at han
        have hput := w_put ((L0 ++ accs (ss.take k)).foldl putS []) acc (by omega)
        have hf : (L0 ++ accs (ss.take (k + 1))).foldl putS [] = putS ((L0 ++ accs (ss.take k)).foldl putS []) acc := by rw [han, ← List.append_assoc, List.foldl_append]; rfl
        rw [← hf] at hput
        simp only [intsV] at hput
        ((try simp at hput); (try simp -implicitDefEqProofs [h, hrk, hcc, g, hs, hsk, hc2, hlc, htc, e4]); repeat' first | ((first | with_reducible refine gdK_em (fun hc => ?_) (fun hc => ?_) | with_reducible refine cdK_em (fun hc => ?_) (fun hc => ?_) | with_reducible refine pickK_em (fun hc => ?_) (fun hc => ?_)) <;> (have hc' := hc; (try simp at hc'); simp -implicitDefEqProofs [hc, hc', h, hrk, hcc, g, hs, hsk, hc2, hlc, htc, e4])) | (with_reducible apply callK_pure <;> first | (simp only [eras, era, eras_map]; first | with_reducible exact hput | simpa using hput) | (simp -implicitDefEqProofs [h, hrk, hcc, g, hs, hsk, hc2, hlc, htc, e4])))
        exact ⟨k + 1, by omega, by omega, rfl, by push_cast; rfl⟩
      · have k3' : (kd == 3) = false := by simpa using k3
        have ha : accs [⟨kd, acc, sn, x⟩] = [] := by simp [accs, k3]
        rw [ha, List.append_nil] at han
        ((try simp -implicitDefEqProofs [h, hrk, hcc, g, hs, hsk, hc2, hlc, htc, e4, k3, k3']); repeat' first | ((first | with_reducible refine gdK_em (fun hc => ?_) (fun hc => ?_) | with_reducible refine cdK_em (fun hc => ?_) (fun hc => ?_) | with_reducible refine pickK_em (fun hc => ?_) (fun hc => ?_)) <;> (have hc' := hc; (try simp at hc'); simp -implicitDefEqProofs [hc, hc', h, hrk, hcc, g, hs, hsk, hc2, hlc, htc, e4, k3, k3'])))
        exact ⟨k + 1, by omega, by omega, by rw [han], by push_cast; rfl⟩
    · have : k = ss.length := by omega
      subst this
      rw [List.take_length] at *
      have hput := w_put ((L0 ++ accs ss).foldl putS []) to (by omega)
      have hf : (postM (p.take (i + 1))).foldl putS [] = putS ((L0 ++ accs ss).foldl putS []) to := by rw [hnx, ← List.append_assoc, List.foldl_append (l' := [to])]; rfl
      rw [← hf] at hput
      simp only [intsV] at hput
      ((try simp at hput); (try simp -implicitDefEqProofs [h, hrk, hcc, e3]); repeat' first | ((first | with_reducible refine gdK_em (fun hc => ?_) (fun hc => ?_) | with_reducible refine cdK_em (fun hc => ?_) (fun hc => ?_) | with_reducible refine pickK_em (fun hc => ?_) (fun hc => ?_)) <;> (have hc' := hc; (try simp at hc'); simp -implicitDefEqProofs [hc, hc', h, hrk, hcc, e3])) | (with_reducible apply callK_pure <;> first | (simp only [eras, era, eras_map]; first | with_reducible exact hput | simpa using hput) | (simp -implicitDefEqProofs [h, hrk, hcc, e3])))
      exact ⟨i + 1, by omega, by omega, rfl, by push_cast; rfl⟩
  · have : i = p.length := by omega
    subst this
    rw [List.take_length, hR]
    ((try simp -implicitDefEqProofs); repeat' first | ((first | with_reducible refine gdK_em (fun hc => ?_) (fun hc => ?_) | with_reducible refine cdK_em (fun hc => ?_) (fun hc => ?_) | with_reducible refine pickK_em (fun hc => ?_) (fun hc => ?_)) <;> (have hc' := hc; (try simp at hc'); simp -implicitDefEqProofs [hc, hc'])))
end Go.Proofs.YtnlkppaehbopaaaDoor
