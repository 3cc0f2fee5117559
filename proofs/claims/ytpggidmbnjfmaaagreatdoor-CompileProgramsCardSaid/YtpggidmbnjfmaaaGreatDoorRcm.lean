/- Chapter 34: the reference's own, expr, Rule. -/
import Derived.Test.YtpggidmbnjfmaaaGreatDoorCps
import Derived.Test.YtpggidmbnjfmaaaGreatDoorCad
import Derived.Test.YtpggidmbnjfmaaaGreatDoorRck
import Derived.Test.YtpggidmbnjfmaaaGreatDoorAwk4
import Derived.Test.YtpggidmbnjfmaaaGreatDoorPrg
import Derived.Test.YtpggidmbnjfmaaaGreatDoorSyg
section
set_option linter.unusedSimpArgs false
set_option linter.unusedVariables false
set_option maxHeartbeats 4000000
set_option maxRecDepth 8000
namespace Go.Proofs.YtpggidmbnjfmaaaGreatDoor
open E

def frL : List Int := [1, 2, 3, 4, 5, 6, 20, 21, 22]
def toL : List Int := [1, 2, 5, 6, 7, 8, 9, 3, 4]
theorem opOf_not {k : Int} (h : ∀ j, j < 9 → frL.getD j 0 ≠ k) : opOf k = k + 3 := by
 have h0 := h 0 (by omega)
 have h1 := h 1 (by omega)
 have h2 := h 2 (by omega)
 have h3 := h 3 (by omega)
 have h4 := h 4 (by omega)
 have h5 := h 5 (by omega)
 have h6 := h 6 (by omega)
 have h7 := h 7 (by omega)
 have h8 := h 8 (by omega)
 simp only [frL, List.getD_cons_zero, List.getD_cons_succ] at *
 unfold opOf
 rw [if_neg (Ne.symm h0), if_neg (Ne.symm h1), if_neg (Ne.symm h2), if_neg (Ne.symm h3), if_neg (Ne.symm h4), if_neg (Ne.symm h5), if_neg (Ne.symm h6), if_neg (Ne.symm h7), if_neg (Ne.symm h8)]
def frN (k : Int) (i : Nat) : Prop := ∀ j, j < i → frL.getD j 0 ≠ k
theorem w_rown (k : Int) (h0 : 1 ≤ k) (h1 : k ≤ 22) : Pure Tryz.prog 96 [vI k] (vI (opOf k)) := by
 generalize hR : opOf k = R
 (refine Pure.of_code mix Tryz.call96 k_96 (by simp) (fun hB => ?_); (try simp at hB); (try simp -implicitDefEqProofs [qc_96]))
 (try simp -implicitDefEqProofs)
 refine loop_rule (X := Nat) (fun i => i ≤ 9 ∧ frN k i) (fun i => [(0, vI k), (3, .full (frL.map fun x => [.int .i64 x])), (4, .full (toL.map fun x => [.int .i64 x])), (5, vI i)]) (fun _ => St0) (fun i => 9 - i) 0 ⟨by omega, fun j hj => by omega⟩ (by simp [frL, toL]) ?_
 rintro i ⟨hi, hn⟩ hbd
 clear hbd
 have step : i < 9 → frL.getD i 0 ≠ k → ∃ z', (z' ≤ 9 ∧ frN k z') ∧ 9 - z' < 9 - i ∧ (z' : Int) = (i : Int) + 1 := fun h9 h => ⟨i + 1, ⟨by omega, fun j hj => by
  rcases Nat.lt_or_ge j i with q | q
  ·exact hn j q
  ·rw [show j = i by omega]; exact h⟩, by omega, by push_cast; rfl⟩
 by_cases h9 : i = 9
 ·subst h9
  rw [opOf_not hn] at hR
  have e1 : IntKind.i64.wrap (10 + k) = 10 + k := wrap64 (by omega) (by omega)
  have e2 : IntKind.i64.wrap (10 + k - 7) = k + 3 := by rw [wrap64 (by omega) (by omega)]; omega
  (try simp -implicitDefEqProofs [frL, toL, e1, e2])
  exact hR.symm
 have step := step (by omega)
 clear hn
 rcases Classical.em (frL.getD i 0 = k) with hk | hk
 ·clear step
  rcases (by omega : i = 0 ∨ i = 1 ∨ i = 2 ∨ i = 3 ∨ i = 4 ∨ i = 5 ∨ i = 6 ∨ i = 7 ∨ i = 8) with rfl | rfl | rfl | rfl | rfl | rfl | rfl | rfl | rfl
  all_goals
   simp only [frL, List.getD_cons_zero, List.getD_cons_succ] at hk
   subst hk
   (try simp -implicitDefEqProofs [frL, toL])
   exact hR.symm
 ·have step := step hk
  rcases (by omega : i = 0 ∨ i = 1 ∨ i = 2 ∨ i = 3 ∨ i = 4 ∨ i = 5 ∨ i = 6 ∨ i = 7 ∨ i = 8) with rfl | rfl | rfl | rfl | rfl | rfl | rfl | rfl | rfl
  all_goals
   simp only [frL, List.getD_cons_zero, List.getD_cons_succ] at hk
   have hk' := beq_false_of_ne hk
   (try simp -implicitDefEqProofs [frL, toL, hk'])
   first | exact step | simpa using step
theorem idxF_snoc (s y : List UInt8) : ∀ (l : List (List UInt8)) (i : Nat) (c : Int), idxF s i (l ++ [y]) c = if y = s then ((i + l.length : Nat) : Int) else idxF s i l c
 | [], i, c => rfl
 | z :: l, i, c => by
  rw [List.cons_append, idxF, idxF_snoc s y l, idxF, List.length_cons, show i + 1 + l.length = i + (l.length + 1) by omega]
theorem w_rexpr (M : List (List UInt8)) (hM : M.length ≤ 1000) : ∀ (x : Xp), x.prop = true → x.cnt ≤ 100000 → Pure Tryz.prog 54 [x.v, vSL M] (Ins.l (x.codeX M)) := by
 refine Xp.ind fun kd vl fr to nm xs ih hp hcnt => ?_
 rw [Xp.prop, Bool.and_eq_true] at hp
 obtain ⟨hsh, hps⟩ := hp
 have hpm := Xp.props_mem hps
 rw [Xp.cnt] at hcnt
 have hal := Xp.cnts_len xs
 have hkd : 1 ≤ kd ∧ kd ≤ 22 := by
  have := hsh
  unfold shpB kdB at this
  simp only [Bool.and_eq_true, decide_eq_true_eq] at this
  exact this.1.1
 have hown := w_rown kd hkd.1 hkd.2
 rw [Xp.codeX, Xp.v, Xp.c_mk]
 obtain ⟨LX, hLX⟩ : ∃ LX, LX = lastX M kd vl fr to nm := ⟨_, rfl⟩
 rw [← hLX]
 simp only [vSL]
 (refine Pure.of_code mix Tryz.call54 k_54 (by simp) (fun hB => ?_); (try simp at hB); (try simp -implicitDefEqProofs [qc_54]))
 (try simp -implicitDefEqProofs)
 refine loop_grow [(.slot 5, 81, 3)] (X := Nat) (fun k => k ≤ xs.length) (fun k => [(1, vSL M), (2, .ptr 0 0), (5, .own 0 81 3 ((Xp.codesX M (xs.take k)).map Ins.c)), (6, vI k)])
  (fun k => ⟨[.cells [vI kd, vI vl, vI fr, vI to, vS nm, Xp.l xs]], [(Xp.codesX M (xs.take k)).length]⟩) (fun k => xs.length - k) 0 (by omega) (by simp [Xp.codesX]) ?_
 rintro k hk hbd
 clear hbd
 have hcl : (Xp.codesX M (xs.take k)).length ≤ Xp.cnts xs := by
  rw [Xp.codesX_len]
  have := Xp.cnts_append (xs.take k) (xs.drop k)
  rw [List.take_append_drop] at this; omega
 rcases Nat.lt_or_ge k xs.length with h | h
 ·have hx : xs[k]? = some xs[k] := by simp [h]
  have e3 : IntKind.i64.wrap ((k : Int) + 1) = (k : Int) + 1 := wrap64 (by omega) (by omega)
  have hxc := Xp.cnts_mem (List.getElem_mem h)
  have htk := take_next hx
  have hc1 : Xp.codesX M (xs.take (k + 1)) = Xp.codesX M (xs.take k) ++ xs[k].codeX M := by rw [Xp.codesX_flat, Xp.codesX_flat, htk, List.flatMap_append]; simp
  have hrec := ih xs[k] (List.getElem_mem h) (hpm _ (List.getElem_mem h)) (by omega)
  simp only [vSL] at hrec
  have hlc := len_c xs[k]
  have htc := take_c xs[k]
  have hcx := Xp.codeX_len M xs[k]
  ((try simp at hrec); (try simp -implicitDefEqProofs [h, e3, hlc, htc]); repeat' first | (with_reducible apply callK_pure <;> first | (simp only [eras, era, eras_map]; first | with_reducible exact hrec | simpa using hrec) | (simp -implicitDefEqProofs [h, e3, hlc, htc])))
  exact ⟨⟨by unfold maxLen; omega, by omega⟩, k + 1, by omega, by omega, by rw [hc1, List.length_append], by rw [hc1, List.map_append]; exact leA.refl _, by push_cast; rfl⟩
 have : k = xs.length := by omega
 subst this
 rw [List.take_length] at *
 generalize Xp.codesX M xs = C at *
 have hC : C.length + 1 ≤ maxLen ∧ (C.length + 1) * 24 ≤ 140737488355328 := ⟨by unfold maxLen; omega, by omega⟩
 by_cases e1 : kd = 1
 ·subst e1
  have hl : LX = ⟨opOf 1, vl, 0⟩ := hLX
  subst hl
  ((try simp at hown); (try simp -implicitDefEqProofs [hC]); repeat' first | (with_reducible apply callK_pure <;> first | (simp only [eras, era, eras_map]; first | with_reducible exact hown | simpa using hown) | (simp -implicitDefEqProofs [hC])))
 by_cases e20 : kd = 20
 ·subst e20
  have hl : LX = ⟨opOf 20, vl, 0⟩ := hLX
  subst hl
  ((try simp at hown); (try simp -implicitDefEqProofs [hC]); repeat' first | (with_reducible apply callK_pure <;> first | (simp only [eras, era, eras_map]; first | with_reducible exact hown | simpa using hown) | (simp -implicitDefEqProofs [hC])))
 by_cases e21 : kd = 21
 ·subst e21
  have hl : LX = ⟨opOf 21, fr, to⟩ := hLX
  subst hl
  ((try simp at hown); (try simp -implicitDefEqProofs [hC]); repeat' first | (with_reducible apply callK_pure <;> first | (simp only [eras, era, eras_map]; first | with_reducible exact hown | simpa using hown) | (simp -implicitDefEqProofs [hC])))
  all_goals (repeat' with_reducible apply And.intro)
  all_goals (try (try simp -implicitDefEqProofs [hC]))
 by_cases e22 : kd = 22
 ·subst e22
  have hl : LX = ⟨opOf 22, fr, to⟩ := hLX
  subst hl
  ((try simp at hown); (try simp -implicitDefEqProofs [hC]); repeat' first | (with_reducible apply callK_pure <;> first | (simp only [eras, era, eras_map]; first | with_reducible exact hown | simpa using hown) | (simp -implicitDefEqProofs [hC])))
  all_goals (repeat' with_reducible apply And.intro)
  all_goals (try (try simp -implicitDefEqProofs [hC]))
 by_cases e2 : kd = 2
 ·subst e2
  have hl : LX = ⟨opOf 2, idxN M nm, 0⟩ := hLX
  subst hl
  ((try simp at hown); (try simp -implicitDefEqProofs [hC]); repeat' first | (with_reducible apply callK_pure <;> first | (simp only [eras, era, eras_map]; first | with_reducible exact hown | simpa using hown) | (simp -implicitDefEqProofs [hC])))
  refine loop_rule (X := Nat) (fun i => i ≤ M.length) (fun i => [(1, vSL M), (2, .ptr 0 0), (5, .own 0 81 3 (C.map Ins.c)), (7, .ptr 1 0), (8, vI i)])
   (fun i => ⟨[.cells [vI 2, vI vl, vI fr, vI to, vS nm, Xp.l xs], .cells [vI (opOf 2), vI (idxF nm 0 (M.take i) 0), vI 0]], [C.length]⟩) (fun i => M.length - i) 0 (by omega) (by simp [idxF]) ?_
  rintro i hi hbd
  clear hbd
  rcases Nat.lt_or_ge i M.length with h | h
  ·have hx : M[i]? = some M[i] := by simp [h]
   have e3 : IntKind.i64.wrap ((i : Int) + 1) = (i : Int) + 1 := wrap64 (by omega) (by omega)
   have htk := take_next hx
   have hix : idxF nm 0 (M.take (i + 1)) 0 = if M[i] = nm then (i : Int) else idxF nm 0 (M.take i) 0 := by
    rw [htk, idxF_snoc]
    congr 1
    rw [List.length_take]; congr 1; omega
   have hmi : (M.map fun x => [T.str x])[i]? = some [T.str M[i]] := by simp [h]
   by_cases hq : M[i] = nm
   ·rw [if_pos hq] at hix
    have hq' : (M[i] == nm) = true := by simp [hq]
    (try simp -implicitDefEqProofs [h, e3, hq, hq', hmi])
    exact ⟨i + 1, by omega, by omega, hix, by push_cast; rfl⟩
   ·rw [if_neg hq] at hix
    have hq' : (M[i] == nm) = false := by simp [hq]
    (try simp -implicitDefEqProofs [h, e3, hq', hmi])
    exact ⟨i + 1, by omega, by omega, hix, by push_cast; rfl⟩
  ·have : i = M.length := by omega
   subst this
   rw [List.take_length]
   have hid : idxF nm 0 M 0 = idxN M nm := rfl
   (try simp -implicitDefEqProofs [hC, hid])
 have hl : LX = ⟨opOf kd, 0, 0⟩ := by rw [hLX]; unfold lastX; rw [if_neg e1, if_neg e2, if_neg e20, if_neg e21, if_neg e22]
 subst hl
 have b1 : (kd == 1) = false := by simpa using e1
 have b2 : (kd == 2) = false := by simpa using e2
 have b20 : (kd == 20) = false := by simpa using e20
 have b21 : (kd == 21) = false := by simpa using e21
 have b22 : (kd == 22) = false := by simpa using e22
 ((try simp at hown); (try simp -implicitDefEqProofs [hC, b1, b2, b20, b21, b22]); repeat' first | (with_reducible apply callK_pure <;> first | (simp only [eras, era, eras_map]; first | with_reducible exact hown | simpa using hown) | (simp -implicitDefEqProofs [hC, b1, b2, b20, b21, b22])))
theorem rc_le (ss : List Stm) (M : List (List UInt8)) (k : Nat) : (codeSs M (ss.take k)).length ≤ ss.length + cntS ss := by
 rw [codeSs_len]
 have h1 : (ss.take k).length ≤ ss.length := by simp; omega
 have h2 : cntS (ss.take k) ≤ cntS ss := by
  have := List.take_append_drop k ss
  conv => rhs; rw [← this]
  unfold cntS
  rw [List.map_append, List.sum_append]; omega
 omega
theorem rc_mem {ss : List Stm} {s : Stm} (h : s ∈ ss) : s.ex.cnt ≤ cntS ss := by
 induction ss with
 | nil => cases h
 | cons y ss ih =>
  unfold cntS at ih ⊢
  rw [List.map_cons, List.sum_cons]
  rcases List.mem_cons.1 h with rfl | h
  ·omega
  ·have := ih h; omega
theorem w_rcrule (r : Rul) (hb : rulB r = true) (hlen : cntS r.stmts ≤ 50000) : Pure Tryz.prog 23 [r.v] (codeR r).v := by
 obtain ⟨nm, pair, ss, to⟩ := r
 unfold rulB at hb
 simp only [Bool.and_eq_true, decide_eq_true_eq, List.all_eq_true] at hb hlen
 obtain ⟨⟨⟨_, hss⟩, hto⟩, hst⟩ := hb
 have hrc : Rul.c ⟨nm, pair, ss, to⟩ = [T.str nm, T.bool pair, T.sl (ss.map Stm.c), T.int .i64 to] := rfl
 rw [show (codeR ⟨nm, pair, ss, to⟩).v = .agg [.t (.str nm), .t (.bool pair), .t (.sl ((codeSs [] ss ++ [(⟨26, to, 0⟩ : Ins)]).map Ins.c))] from rfl]
 (refine Pure.of_code mix Tryz.call23 k_23 (by simp) (fun hB => ?_); (try simp at hB); (try simp -implicitDefEqProofs [qc_23]))
 (try simp -implicitDefEqProofs [hrc])
 refine loop_grow [(.cell 2 2, 81, 3), (.slot 4, 9, 1)] (X := Nat) (fun k => k ≤ ss.length)
  (fun k => [(1, .ptr 0 0), (2, .ptr 1 0), (3, .ptr 2 0), (4, .own 1 9 1 ((namesOf (ss.take k)).map fun x => [T.str x])), (5, vI k)])
  (fun k => ⟨[.cells [vS nm, vB pair, Stm.l ss, vI to], .cells [vS [], vB false, .snil], .cells [vS nm, vB pair, .own 0 81 3 ((codeSs [] (ss.take k)).map Ins.c)]], [(codeSs [] (ss.take k)).length, (namesOf (ss.take k)).length]⟩) (fun k => ss.length - k) 0 (by omega) (by simp [namesOf, codeSs]) ?_
 rintro k hk hbd
 clear hbd
 have hcl := rc_le ss [] k
 rcases Nat.lt_or_ge k ss.length with h | h
 ·have hx : ss[k]? = some ss[k] := by simp [h]
  have e3 : IntKind.i64.wrap ((k : Int) + 1) = (k : Int) + 1 := wrap64 (by omega) (by omega)
  have hnn := namesOf_next hx
  have hcn := codeSs_next (M := []) hx
  rw [List.nil_append] at hcn
  have hsb := hst _ (List.getElem_mem h)
  have hxc := rc_mem (List.getElem_mem h)
  have hnl : (namesOf (ss.take k)).length ≤ 1000 := by
   have : (namesOf (ss.take k)).length ≤ (ss.take k).length := by unfold namesOf; rw [List.length_map]; exact List.length_filter_le _ _
   simp at this; omega
  generalize hMM : namesOf (ss.take k) = M at *
  generalize hEE : codeSs [] (ss.take k) = es at *
  obtain ⟨kd, acc, sn, x, hs⟩ : ∃ kd acc sn x, ss[k] = ⟨kd, acc, sn, x⟩ := ⟨_, _, _, _, rfl⟩
  have hsk : (ss.map Stm.c)[k]? = some (.int .i64 kd :: .int .i64 acc :: .str sn :: x.c) := by simp [h, hs, Stm.c]
  have hcc : Stm.c ⟨kd, acc, sn, x⟩ = (.int .i64 kd :: .int .i64 acc :: .str sn :: x.c) := rfl
  have hlc := len_c x
  have htc := take_c x
  rw [hs] at hsb hxc hnn hcn
  simp only [] at hxc hcn
  unfold stmB at hsb
  simp only [Bool.and_eq_true, decide_eq_true_eq] at hsb
  obtain ⟨⟨hsh, _⟩, hpx⟩ := hsb
  have hex := w_rexpr M hnl x hpx (by omega)
  simp only [vSL] at hex
  have hcx := Xp.codeX_len M x
  have big1 : (es.length + (x.codeX M).length ≤ maxLen ∧ (es.length + (x.codeX M).length) * 24 ≤ 140737488355328) := ⟨by unfold maxLen; omega, by omega⟩
  have big2 : (es.length + (x.codeX M).length + 1 ≤ maxLen ∧ (es.length + (x.codeX M).length + 1) * 24 ≤ 140737488355328) := ⟨by unfold maxLen; omega, by omega⟩
  have big3 : (M.length + 1 ≤ maxLen ∧ (M.length + 1) * 16 ≤ 140737488355328) := ⟨by unfold maxLen; omega, by omega⟩
  unfold lastS at hcn
  simp only [] at hcn
  unfold shdB at hsh
  by_cases k1 : kd = 1
  ·subst k1
   have hN : namesOf [⟨1, acc, sn, x⟩] = [sn] := rfl
   rw [hN] at hnn
   rw [if_pos rfl] at hcn
   generalize x.codeX M = cx at *
   ((try simp at hex); (try simp -implicitDefEqProofs [h, hs, hsk, hcc, hlc, htc, e3, big1, big2, big3]); repeat' first | (with_reducible apply callK_pure <;> first | (simp only [eras, era, eras_map]; first | with_reducible exact hex | simpa using hex) | (simp -implicitDefEqProofs [h, hs, hsk, hcc, hlc, htc, e3, big1, big2, big3])))
   exact ⟨k + 1, by omega, by omega, ⟨by rw [hcn, List.map_append, List.map_append]; exact .inl rfl, by rw [hcn]; simp; omega, by rw [hnn]; simp⟩, by rw [hnn, List.map_append]; exact leA.refl _, by push_cast; rfl⟩
  have k1' : (kd == 1) = false := by simpa using k1
  have hN : namesOf [⟨kd, acc, sn, x⟩] = [] := by simp [namesOf, k1]
  rw [hN, List.append_nil] at hnn
  rw [if_neg k1] at hcn
  by_cases k2 : kd = 2
  ·subst k2
   rw [if_pos rfl] at hcn
   generalize x.codeX M = cx at *
   ((try simp at hex); (try simp -implicitDefEqProofs [h, hs, hsk, hcc, hlc, htc, e3, k1', big1, big2, big3]); repeat' first | (with_reducible apply callK_pure <;> first | (simp only [eras, era, eras_map]; first | with_reducible exact hex | simpa using hex) | (simp -implicitDefEqProofs [h, hs, hsk, hcc, hlc, htc, e3, k1', big1, big2, big3])))
   exact ⟨k + 1, by omega, by omega, ⟨by rw [hcn, List.map_append, List.map_append]; exact .inl rfl, by rw [hcn]; simp; omega, by rw [hnn]⟩, by rw [hnn]; exact leA.refl _, by push_cast; rfl⟩
  ·have k2' : (kd == 2) = false := by simpa using k2
   rw [if_neg k2] at hcn
   generalize x.codeX M = cx at *
   ((try simp at hex); (try simp -implicitDefEqProofs [h, hs, hsk, hcc, hlc, htc, e3, k1', k2', big1, big2, big3]); repeat' first | (with_reducible apply callK_pure <;> first | (simp only [eras, era, eras_map]; first | with_reducible exact hex | simpa using hex) | (simp -implicitDefEqProofs [h, hs, hsk, hcc, hlc, htc, e3, k1', k2', big1, big2, big3])))
   exact ⟨k + 1, by omega, by omega, ⟨by rw [hcn, List.map_append, List.map_append]; exact .inl rfl, by rw [hcn]; simp; omega, by rw [hnn]⟩, by rw [hnn]; exact leA.refl _, by push_cast; rfl⟩
 ·have : k = ss.length := by omega
  subst this
  rw [List.take_length] at *
  generalize codeSs [] ss = C at *
  have hC : C.length + 1 ≤ maxLen ∧ (C.length + 1) * 24 ≤ 140737488355328 := ⟨by unfold maxLen; omega, by omega⟩
  (try simp -implicitDefEqProofs [hC])
end Go.Proofs.YtpggidmbnjfmaaaGreatDoor
end

/- Chapter 34: Own and Same of codes. -/
section
set_option linter.unusedSimpArgs false
set_option linter.unusedVariables false
set_option maxHeartbeats 1000000
set_option maxRecDepth 8000
namespace Go.Proofs.YtpggidmbnjfmaaaGreatDoor
open E

theorem w_own (c : Code) (hlen : c.ins.length ≤ 1000000) : Pure Tryz.prog 11 [c.v] c.v := by
 obtain ⟨cn, pair, ins⟩ := c
 simp only [] at hlen
 (refine Pure.of_code mix Tryz.call11 k_11 (by simp) (fun hB => ?_); (try simp at hB); (try simp -implicitDefEqProofs [qc_11]))
 refine loop_grow [(.cell 2 2, 54, 3)] (X := Nat) (fun k => k ≤ ins.length) (fun k => [(1, .ptr 0 0), (2, .ptr 1 0), (3, .ptr 2 0), (4, vI k)])
  (fun k => ⟨[.cells [vS cn, vB pair, Ins.l ins], .cells [vS [], vB false, .snil], .cells [vS cn, vB pair, .own 0 54 3 ((ins.take k).map Ins.c)]], [k]⟩) (fun k => ins.length - k) 0 (by omega) (by simp) ?_
 rintro k hk hbd
 rcases Nat.lt_or_ge k ins.length with h | h
 ·have hx : ins[k]? = some ins[k] := by simp [h]
  have e3 : IntKind.i64.wrap ((k : Int) + 1) = (k : Int) + 1 := wrap64 (by omega) (by omega)
  have hrv : (ins.map Ins.c).take (k + 1) = (ins.map Ins.c).take k ++ [ins[k].c] := by rw [take_next (x := ins[k].c) (by simp [h])]
  have hmin : min k ins.length = k := by omega
  ((try simp -implicitDefEqProofs [h, e3, maxLen, hmin]); repeat' first | ((with_reducible first | apply gdK_em | apply cdK_em | apply pickK_em) <;> (intro hc; have hc' := hc; (try simp at hc'); simp -implicitDefEqProofs [hc, hc', h, e3, maxLen, hmin])))
  exact ⟨⟨by omega, by omega⟩, k + 1, by omega, by omega, ⟨by rw [hrv]; exact .inl rfl, rfl⟩, by push_cast; rfl⟩
 ·have : k = ins.length := by omega
  subst this
  have ht : (ins.map Ins.c).take ins.length = ins.map Ins.c := List.take_of_length_le (by simp)
  ((try simp -implicitDefEqProofs [ht]); repeat' first | ((with_reducible first | apply gdK_em | apply cdK_em | apply pickK_em) <;> (intro hc; have hc' := hc; (try simp at hc'); simp -implicitDefEqProofs [hc, hc', ht])))

def samR (a b : Code) : Bool := (a.name == b.name) && (a.pair == b.pair) && decide (a.ins = b.ins)
theorem ne_of_at {α : Type} {l m : List α} {k : Nat} {x y : α} (h1 : l[k]? = some x) (h2 : m[k]? = some y) (h : x ≠ y) : l ≠ m := fun e => by rw [e, h2] at h1; exact h (Option.some.inj h1).symm
theorem take_ext {α : Type} {l m : List α} {k : Nat} {x : α} (h : l.take k = m.take k) (h1 : l[k]? = some x) (h2 : m[k]? = some x) : l.take (k + 1) = m.take (k + 1) := by rw [take_next h1, take_next h2, h]
theorem Ins.beq_c (x y : Ins) : ((x.op == y.op) && ((x.a == y.a) && (x.b == y.b))) = decide (x = y) := by
 obtain ⟨a, b, c⟩ := x
 obtain ⟨d, e, f⟩ := y
 rw [Bool.eq_iff_iff]
 simp
theorem w_eqIns (l m : List Ins) (h1 : l.length ≤ 1000000) (h2 : m.length ≤ 1000000) : Pure Tryz.prog 24 [Ins.l l, Ins.l m] (vB (decide (l = m))) := by
 generalize hR : vB (decide (l = m)) = R
 rcases Nat.decEq l.length m.length with hl | hl
 ·have h3 : ¬ l = m := fun e => hl (by rw [e])
  rw [decide_eq_false h3] at hR
  subst hR
  have hl' : ((l.length : Int) == (m.length : Int)) = false := by simp; omega
  have hl2 : ¬ (l.length : Int) = (m.length : Int) := by omega
  (refine Pure.of_code mix Tryz.call24 k_24 (by simp) (fun hB => ?_); (try simp at hB); (try simp -implicitDefEqProofs [qc_24]))
  ((try simp -implicitDefEqProofs [hl, hl', hl2, bne]); repeat' first | ((with_reducible first | apply gdK_em | apply cdK_em | apply pickK_em) <;> (intro hc; have hc' := hc; (try simp at hc'); simp -implicitDefEqProofs [hc, hc', hl, hl', hl2, bne])))
 have hl' : ((l.length : Int) == (m.length : Int)) = true := by simp; omega
 (refine Pure.of_code mix Tryz.call24 k_24 (by simp) (fun hB => ?_); (try simp at hB); (try simp -implicitDefEqProofs [qc_24]))
 ((try simp -implicitDefEqProofs [hl, hl', bne]); repeat' first | ((with_reducible first | apply gdK_em | apply cdK_em | apply pickK_em) <;> (intro hc; have hc' := hc; (try simp at hc'); simp -implicitDefEqProofs [hc, hc', hl, hl', bne])))
 refine loop_rule (X := Nat) (fun k => k ≤ m.length ∧ l.take k = m.take k) (fun k => [(0, Ins.l l), (1, Ins.l m), (12, vI m.length), (13, vI k)]) (fun _ => St0) (fun k => m.length - k) 0 ⟨by omega, rfl⟩ (by simp) ?_
 rintro k ⟨hk, ht⟩ hbd
 rcases Nat.lt_or_ge k m.length with h | h
 ·have hkl : k < l.length := by omega
  have hx : l[k]? = some l[k] := by simp [hkl]
  have hy : m[k]? = some m[k] := by simp [h]
  have e3 : IntKind.i64.wrap ((k : Int) + 1) = (k : Int) + 1 := wrap64 (by omega) (by omega)
  have hbc := Ins.beq_c l[k] m[k]
  by_cases hxy : l[k] = m[k]
  ·rw [decide_eq_true hxy] at hbc
   simp only [Bool.and_eq_true] at hbc
   obtain ⟨c1, c2, c3⟩ := hbc
   ((try simp -implicitDefEqProofs [h, hkl, hl, e3, c1, c2, c3]); repeat' first | ((with_reducible first | apply gdK_em | apply cdK_em | apply pickK_em) <;> (intro hc; have hc' := hc; (try simp at hc'); simp -implicitDefEqProofs [hc, hc', h, hkl, hl, e3, c1, c2, c3])))
   exact ⟨k + 1, ⟨by omega, take_ext ht hx (by rw [hy, hxy])⟩, by omega, by push_cast; rfl⟩
  ·rw [decide_eq_false hxy] at hbc
   rw [decide_eq_false (ne_of_at hx hy hxy)] at hR
   subst hR
   ((try simp -implicitDefEqProofs [h, hkl, hl, e3, hbc]); repeat' first | ((with_reducible first | apply gdK_em | apply cdK_em | apply pickK_em) <;> (intro hc; have hc' := hc; (try simp at hc'); simp -implicitDefEqProofs [hc, hc', h, hkl, hl, e3, hbc])))
 ·have : k = m.length := by omega
  subst this
  rw [List.take_length, List.take_of_length_le (by omega)] at ht
  rw [decide_eq_true ht] at hR
  subst hR
  ((try simp -implicitDefEqProofs); repeat' first | ((with_reducible first | apply gdK_em | apply cdK_em | apply pickK_em) <;> (intro hc; have hc' := hc; (try simp at hc'); simp -implicitDefEqProofs [hc, hc'])))

theorem w_same (a b : Code) (h1 : a.ins.length ≤ 1000000) (h2 : b.ins.length ≤ 1000000) : Pure Tryz.prog 10 [a.v, b.v] (vB (samR a b)) := by
 obtain ⟨an, ap, ai⟩ := a
 obtain ⟨bn, bp, bi⟩ := b
 have he := w_eqIns ai bi h1 h2
 unfold samR
 (refine Pure.of_code mix Tryz.call10 k_10 (by simp) (fun hB => ?_); (try simp at hB); (try simp -implicitDefEqProofs [qc_10]))
 ((try simp at he); (try simp -implicitDefEqProofs); repeat' first | ((with_reducible first | apply gdK_em | apply cdK_em | apply pickK_em) <;> (intro hc; have hc' := hc; (try simp at hc'); simp -implicitDefEqProofs [hc, hc'])) | (with_reducible apply callK_pure <;> first | (simp only [eras, era, eras_map]; first | with_reducible exact he | simpa using he) | (simp -implicitDefEqProofs)))
 all_goals simp_all
end Go.Proofs.YtpggidmbnjfmaaaGreatDoor
end

/- Chapter 34: the reference's Compile; the law CompilePrograms. -/
section
set_option linter.unusedSimpArgs false
set_option linter.unusedVariables false
set_option maxHeartbeats 4000000
set_option maxRecDepth 8000
namespace Go.Proofs.YtpggidmbnjfmaaaGreatDoor
open E

theorem w_rCompile (p : List Rul) (l : List Account) (hok : ∀ r ∈ p, r.ok) (hc : ∀ r ∈ p, ∀ s ∈ r.stmts, s.ex.cnt ≤ 1000) (hss : ∀ r ∈ p, cntS r.stmts ≤ 50000) (hst : ∀ r ∈ p, r.stmts.length ≤ 1000) (hp : p.length ≤ 1000) (hl : l.length ≤ 1000000) :
  Pure Tryz.prog 9 [Rul.l p, Account.l l] (.tup [.t (.sl ((cmpR p l).1.map Code.c)), vI (cmpR p l).2.1, vI (cmpR p l).2.2]) := by
 have hchk := w_rCheck p l hok (fun r hr s hs => by have := hc r hr s hs; omega) hst hp hl
 unfold cmpR
 by_cases h0 : (chkR p l).2 = 0
 case neg =>
  rw [if_neg h0]
  generalize chkR p l = q at *
  have h1 : (q.2 == 0) = false := by simpa using h0
  have h2 : (q.2 != 0) = true := by simpa using h0
  (refine Pure.of_code mix Tryz.call9 k_9 (by simp) (fun hB => ?_); (try simp at hB); (try simp -implicitDefEqProofs [qc_9]))
  ((try simp at hchk); (try simp -implicitDefEqProofs [h0, h1, h2]); repeat' first | (with_reducible apply callK_pure <;> first | (simp only [eras, era, eras_map]; first | with_reducible exact hchk | simpa using hchk) | (simp -implicitDefEqProofs [h0, h1, h2])))
 rw [if_pos h0]
 have hall := chkR_all h0
 rw [h0] at hchk
 obtain ⟨L, hL⟩ : ∃ L, L = (p.map codeR).map Code.c := ⟨_, rfl⟩
 have hLl : L.length = p.length := by rw [hL]; simp
 simp only []
 rw [← hL]
 (refine Pure.of_code mix Tryz.call9 k_9 (by simp) (fun hB => ?_); (try simp at hB); (try simp -implicitDefEqProofs [qc_9]))
 ((try simp at hchk); (try simp -implicitDefEqProofs); repeat' first | (with_reducible apply callK_pure <;> first | (simp only [eras, era, eras_map]; first | with_reducible exact hchk | simpa using hchk) | (simp -implicitDefEqProofs)))
 refine loop_grow [(.slot 9, 44, 3)] (X := Nat) (fun k => k ≤ p.length) (fun k => [(0, Rul.l p), (9, .own 0 44 3 (L.take k)), (10, vI k)])
  (fun k => ⟨[], [k]⟩) (fun k => p.length - k) 0 (by simp) (by simp) ?_
 rintro k hk hbd
 clear hbd
 rcases Nat.lt_or_ge k p.length with h | h
 ·have hx : p[k]? = some p[k] := by simp [h]
  have e3 : IntKind.i64.wrap ((k : Int) + 1) = (k : Int) + 1 := wrap64 (by omega) (by omega)
  obtain ⟨q1, q2⟩ := hall p[k] (List.getElem_mem h)
  have hrule := w_rcrule p[k] q1 (hss _ (List.getElem_mem h))
  have hrv : L.take (k + 1) = L.take k ++ [(codeR p[k]).c] := take_next (by rw [hL]; simp [h])
  have hmin : min k L.length = k := by omega
  obtain ⟨nm, pr, ss, to, hr⟩ : ∃ nm pr ss to, p[k] = ⟨nm, pr, ss, to⟩ := ⟨_, _, _, _, rfl⟩
  have hrk : (p.map Rul.c)[k]? = some [.str nm, .bool pr, .sl (ss.map Stm.c), .int .i64 to] := by simp [h, hr, Rul.c]
  have hcc : p[k].c = [.str nm, .bool pr, .sl (ss.map Stm.c), .int .i64 to] := by rw [hr]; rfl
  rw [Rul.v, hcc] at hrule
  generalize codeR p[k] = cd at *
  obtain ⟨cn, cp, ci⟩ := cd
  simp only [List.map] at hrule
  ((try simp at hrule); (try simp -implicitDefEqProofs [h, hrk, hcc, e3, hmin]); repeat' first | (with_reducible apply callK_pure <;> first | (simp only [eras, era, eras_map]; first | with_reducible exact hrule | simpa using hrule) | (simp -implicitDefEqProofs [h, hrk, hcc, e3, hmin])))
  exact ⟨⟨by unfold maxLen; omega, by omega⟩, k + 1, by omega, by omega, rfl, by rw [hrv]; exact leA.refl _, by push_cast; rfl⟩
 ·have : k = p.length := by omega
  subst this
  have ht : L.take p.length = L := List.take_of_length_le (by omega)
  (try simp -implicitDefEqProofs [ht])

theorem w_cfew (p : List Rul) (l : List Account) : Pure Tryz.prog 6 [Rul.l p, Account.l l] (vB (fewB p && decide (l.length ≤ 210))) := by
 have hf := w_Few p
 by_cases h1 : fewB p = true
 ·rw [h1] at hf ⊢
  have h2 : decide (l.length ≤ 210) = decide ((l.length : Int) ≤ 210) := by rw [decide_eq_decide]; omega
  rw [h2]
  (refine Pure.of_code mix Tryz.call6 k_6 (by simp) (fun hB => ?_); (try simp at hB); (try simp -implicitDefEqProofs [qc_6]))
  ((try simp at hf); (try simp -implicitDefEqProofs); repeat' first | ((with_reducible first | apply gdK_em | apply cdK_em | apply pickK_em) <;> (intro hc; have hc' := hc; (try simp at hc'); simp -implicitDefEqProofs [hc, hc'])) | (with_reducible apply callK_pure <;> first | (simp only [eras, era, eras_map]; first | with_reducible exact hf | simpa using hf) | (simp -implicitDefEqProofs)))
 ·rw [Bool.not_eq_true] at h1
  rw [h1] at hf ⊢
  (refine Pure.of_code mix Tryz.call6 k_6 (by simp) (fun hB => ?_); (try simp at hB); (try simp -implicitDefEqProofs [qc_6]))
  ((try simp at hf); (try simp -implicitDefEqProofs); repeat' first | ((with_reducible first | apply gdK_em | apply cdK_em | apply pickK_em) <;> (intro hc; have hc' := hc; (try simp at hc'); simp -implicitDefEqProofs [hc, hc'])) | (with_reducible apply callK_pure <;> first | (simp only [eras, era, eras_map]; first | with_reducible exact hf | simpa using hf) | (simp -implicitDefEqProofs)))
theorem cfew_of {p : List Rul} (h : fewB p = true) : p.length ≤ 50 ∧ (∀ r ∈ p, r.stmts.length ≤ 40) ∧ (∀ r ∈ p, ∀ s ∈ r.stmts, s.ex.cnt ≤ 200) := by
 unfold fewB fewR fewS at h
 simp only [Bool.and_eq_true, List.all_eq_true, decide_eq_true_eq] at h
 exact ⟨h.2, fun r hr => (h.1 r hr).1.2, fun r hr s hs => ((h.1 r hr).2 s hs).2⟩
theorem ccnt_le {ss : List Stm} {m : Nat} (h : ∀ s ∈ ss, s.ex.cnt ≤ m) : cntS ss ≤ ss.length * m := by
 induction ss with
 | nil => simp [cntS]
 | cons s ss ih =>
  have h1 := ih (fun x hx => h x (by simp [hx]))
  have h2 := h s (by simp)
  simp only [cntS, List.map_cons, List.sum_cons, List.length_cons] at h1 ⊢
  rw [Nat.add_mul]; omega
theorem cfew_cnt {p : List Rul} (h : fewB p = true) : ∀ r ∈ p, cntS r.stmts ≤ 8000 := fun r hr => by
 obtain ⟨_, b, c⟩ := cfew_of h
 have h1 := ccnt_le (c r hr)
 have h2 := b r hr
 have h3 : r.stmts.length * 200 ≤ 40 * 200 := Nat.mul_le_mul_right _ h2
 omega
theorem samR_self (c : Code) : samR c c = true := by simp [samR]
theorem l_programs (p : List Rul) (l : List Account) (hok : ∀ r ∈ p, r.ok) : Pure Tryz.prog 3 [Rul.l p, Account.l l] (vB true) := by
 have ha := w_awake
 have hf := w_cfew p l
 by_cases h : (fewB p && decide (l.length ≤ 210)) = true
 case neg =>
  rw [Bool.not_eq_true] at h
  rw [h] at hf
  (refine Pure.of_code mix Tryz.call3 k_3 (by simp) (fun hB => ?_); (try simp at hB); (try simp -implicitDefEqProofs [qc_3]))
  ((try simp at ha); (try simp at hf); (try simp -implicitDefEqProofs); repeat' first | (with_reducible apply callK_pure <;> first | (simp only [eras, era, eras_map]; first | with_reducible exact ha | with_reducible exact hf | simpa using ha | simpa using hf) | (simp -implicitDefEqProofs)))
 rw [h] at hf
 simp only [Bool.and_eq_true, decide_eq_true_eq] at h
 obtain ⟨h1, h2⟩ := h
 obtain ⟨fa, fb, fc⟩ := cfew_of h1
 have fd := cfew_cnt h1
 have hp := w_prog32 p (by omega) (fun r hr => by have := fb r hr; omega) (fun r hr s hs => by have := fc r hr s hs; omega)
 have hc := w_Compile p l (fun r hr s hs => by have := fc r hr s hs; omega) (fun r hr => by have := fd r hr; omega) (by omega) (by omega)
 have hr := w_rCompile p l hok (fun r hr s hs => by have := fc r hr s hs; omega) (fun r hr => by have := fd r hr; omega) (fun r hr => by have := fb r hr; omega) (by omega) (by omega)
 have hcs : ∀ c ∈ (cmpR p l).1, c.ins.length ≤ 1000000 := by
  intro c hc
  unfold cmpR at hc
  split at hc
  ·obtain ⟨r, hr, rfl⟩ := List.mem_map.1 hc
   rw [codeR_len]
   have := fd r hr
   have := fb r hr
   omega
  ·cases hc
 have hcl : (cmpR p l).1.length ≤ 1000 := by
  unfold cmpR
  split
  ·rw [List.length_map]; omega
  ·simp
 generalize cmpR p l = q at *
 obtain ⟨cs, ix, er⟩ := q
 simp only [] at hc hr hcs hcl
 (refine Pure.of_code mix Tryz.call3 k_3 (by simp) (fun hB => ?_); (try simp at hB); (try simp -implicitDefEqProofs [qc_3]))
 ((try simp at ha); (try simp at hf); (try simp at hp); (try simp at hc); (try simp at hr); (try simp -implicitDefEqProofs); repeat' first | (with_reducible apply callK_pure <;> first | (simp only [eras, era, eras_map]; first | with_reducible exact ha | with_reducible exact hf | with_reducible exact hp | with_reducible exact hc | with_reducible exact hr | simpa using ha | simpa using hf | simpa using hp | simpa using hc | simpa using hr) | (simp -implicitDefEqProofs)))
 refine loop_rule (X := Nat) (fun i => i ≤ cs.length) (fun i => [(5, .t (.sl (cs.map Code.c))), (8, .t (.sl (cs.map Code.c))), (11, vI i)]) (fun _ => St0) (fun i => cs.length - i) 0 (by simp) (by simp) ?_
 rintro i hi hbd
 clear hbd
 rcases Nat.lt_or_ge i cs.length with g | g
 ·have hx : cs[i]? = some cs[i] := by simp [g]
  have e3 : IntKind.i64.wrap ((i : Int) + 1) = (i : Int) + 1 := wrap64 (by omega) (by omega)
  have hlc := hcs _ (List.getElem_mem g)
  obtain ⟨cn, cp, ci, hr⟩ : ∃ cn cp ci, cs[i] = ⟨cn, cp, ci⟩ := ⟨_, _, _, rfl⟩
  rw [hr] at hlc
  have hcc : Code.c ⟨cn, cp, ci⟩ = [.str cn, .bool cp, .sl (ci.map Ins.c)] := rfl
  have ho := w_own ⟨cn, cp, ci⟩ hlc
  have hs := w_same ⟨cn, cp, ci⟩ ⟨cn, cp, ci⟩ hlc hlc
  rw [samR_self] at hs
  rw [Code.v, hcc] at ho hs
  simp only [List.map] at ho hs
  ((try simp at ho); (try simp at hs); (try simp -implicitDefEqProofs [g, hr, hcc, e3]); repeat' first | (with_reducible apply callK_pure <;> first | (simp only [eras, era, eras_map]; first | with_reducible exact ho | with_reducible exact hs | simpa using ho | simpa using hs) | (simp -implicitDefEqProofs [g, hr, hcc, e3])))
  exact ⟨i + 1, by omega, by omega, by push_cast; rfl⟩
 ·have : i = cs.length := by omega
  subst this
  (try simp -implicitDefEqProofs)
end Go.Proofs.YtpggidmbnjfmaaaGreatDoor
end
