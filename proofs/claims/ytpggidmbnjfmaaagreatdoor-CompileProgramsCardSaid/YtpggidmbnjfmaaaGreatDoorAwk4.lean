/- Chapter 34: the example of awake. -/
import Derived.Test.YtpggidmbnjfmaaaGreatDoorVw
import Derived.Test.YtpggidmbnjfmaaaGreatDoorOp
import Derived.Test.YtpggidmbnjfmaaaGreatDoorCodeC
set_option linter.unusedSimpArgs false
set_option linter.unusedVariables false
set_option maxHeartbeats 2000000
set_option maxRecDepth 8000
namespace Go.Proofs.YtpggidmbnjfmaaaGreatDoor
open E

def exC : Code := ⟨[], false, [⟨1, 2, 0⟩, ⟨1, 3, 0⟩, ⟨10, 0, 0⟩, ⟨5, 0, 0⟩, ⟨23, 0, 0⟩, ⟨26, 7, 0⟩]⟩
def exF : Code := ⟨[], false, [⟨1, -5, 0⟩, ⟨23, 0, 0⟩, ⟨26, 7, 0⟩]⟩
def exM : List Nat := [0, 2, 4, 7, 10, 12, 14]
def exO : List (List Ins) := [[], [⟨1, 2, 0⟩], [⟨1, 2, 0⟩, ⟨1, 3, 0⟩], [⟨1, 5, 0⟩], [⟨1, -5, 0⟩], [⟨1, -5, 0⟩, ⟨23, 0, 0⟩], [⟨1, -5, 0⟩, ⟨23, 0, 0⟩, ⟨26, 7, 0⟩]]
def exB (c0 c1 c2 : List V) (k : Nat) : List Bx := [.cells c0, .cells c1, .cells c2] ++ List.replicate (exM.getD k 0) .dead ++ [.buf 54 3 (((exO.getD k []).flatMap Ins.c).map .t)]

theorem ex_val : (meaR exC).2 = true := by decide
theorem ex_fold : Pure Tryz.prog 16 [exC.v] (.tup [exF.v, vI 0]) := by
 have hval := meaB exC (by decide)
 rw [ex_val] at hval
 have htab := w_tab
 have htl : (tabC.map V.t).length = 108 := by rw [List.length_map]; exact tab_len
 have htt : ∀ x ∈ tabC.map V.t, ∃ y, x = V.t y := fun x hx => by obtain ⟨y, _, rfl⟩ := List.mem_map.1 hx; exact ⟨y, rfl⟩
 have hok : ∀ n m, okNs n m (tabC.map V.t) = true := fun n m => okNs_map n m _
 have f1 : (tabC.map V.t).drop 5 = vI 0 :: (tabC.map V.t).drop 6 := rfl
 have f2 : (tabC.map V.t).drop 6 = vI 1 :: (tabC.map V.t).drop 7 := rfl
 have f3 : (tabC.map V.t).drop 41 = vI 2 :: (tabC.map V.t).drop 42 := rfl
 have f4 : (tabC.map V.t).drop 42 = vI 1 :: (tabC.map V.t).drop 43 := rfl
 have f5 : (tabC.map V.t).drop 21 = vI 1 :: (tabC.map V.t).drop 22 := rfl
 have f6 : (tabC.map V.t).drop 22 = vI 1 :: (tabC.map V.t).drop 23 := rfl
 have f7 : (tabC.map V.t).drop 93 = vI 1 :: (tabC.map V.t).drop 94 := rfl
 have f8 : (tabC.map V.t).drop 94 = vI 0 :: (tabC.map V.t).drop 95 := rfl
 have f9 : (tabC.map V.t).drop 105 = vI 0 :: (tabC.map V.t).drop 106 := rfl
 have f10 : (tabC.map V.t).drop 106 = vI 0 :: (tabC.map V.t).drop 107 := rfl
 unfold exC at *
 (refine Pure.of_codeB mix Tryz.call16 kb_16 (by simp) (fun hB => ?_); (try simp at hB); (try simp -implicitDefEqProofs [qb_16]))
 generalize tabC.map V.t = TB at *
 ((try simp at hval); (try simp at htab); (try simp -implicitDefEqProofs); repeat' first | ((with_reducible first | apply gdK_em | apply cdK_em | apply pickK_em) <;> (intro hc; have hc' := hc; (try simp at hc'); simp -implicitDefEqProofs [hc, hc'])) | (with_reducible apply callK_pure <;> first | (simp only [eras, era, eras_map]; first | with_reducible exact hval | with_reducible exact htab | simpa using hval | simpa using htab) | (simp -implicitDefEqProofs)))
 refine ⟨⟨htl, fun x hx => by obtain ⟨y, rfl⟩ := htt x hx; rfl⟩, ?_⟩
 ((try simp -implicitDefEqProofs); repeat' first | ((with_reducible first | apply gdK_em | apply cdK_em | apply pickK_em) <;> (intro hc; have hc' := hc; (try simp at hc'); simp -implicitDefEqProofs [hc, hc'])))
 refine ⟨by simp [maxLen], ?_⟩
 have hop1 : Pure Tryz.prog 41 [vI 10, vI 0, vI 2, vI 3] (.tup [vI 5, vB true]) := w_op 10 0 2 3
 have hop2 : Pure Tryz.prog 41 [vI 5, vI 0, vI 5, vI 0] (.tup [vI (-5), vB true]) := w_op 5 0 5 0
 refine loop_rule (X := Nat) (fun k => k ≤ 6)
  (fun k => [(1, .ptr 0 0), (2, .ptr 1 0), (4, .ptr 2 0), (5, .bw (3 + exM.getD k 0) (exO.getD k []).length), (25, .t (.sl [[tI 1, tI 2, tI 0], [tI 1, tI 3, tI 0], [tI 10, tI 0, tI 0], [tI 5, tI 0, tI 0], [tI 23, tI 0, tI 0], [tI 26, tI 7, tI 0]])), (26, vI 6), (27, vI k)])
  (fun k => ⟨exB [vS [], vB false, .t (.sl [[tI 1, tI 2, tI 0], [tI 1, tI 3, tI 0], [tI 10, tI 0, tI 0], [tI 5, tI 0, tI 0], [tI 23, tI 0, tI 0], [tI 26, tI 7, tI 0]])] [vS [], vB false, .snil] TB k, []⟩) (fun k => 6 - k) 0 (by simp) ?hs ?_
 case hs => simp [htl, exB, exM, exO, hok]
 rintro k hk hbd
 clear hbd
 rcases (by omega : k = 0 ∨ k = 1 ∨ k = 2 ∨ k = 3 ∨ k = 4 ∨ k = 5 ∨ k = 6) with rfl | rfl | rfl | rfl | rfl | rfl | rfl
 ·simp only [exB, exM, exO]
  ((try simp -implicitDefEqProofs [f1, f2, htl]); repeat' first | ((with_reducible first | apply gdK_em | apply cdK_em | apply pickK_em) <;> (intro hc; have hc' := hc; (try simp at hc'); simp -implicitDefEqProofs [hc, hc', f1, f2, htl])))
  refine ⟨by simp [maxLen], 1, by omega, by omega, ?_⟩
  simp [hok, LeBs, leB, LeL, leC, leA, okNs, okN, List.replicate]
 ·simp only [exB, exM, exO]
  ((try simp -implicitDefEqProofs [f1, f2, htl]); repeat' first | ((with_reducible first | apply gdK_em | apply cdK_em | apply pickK_em) <;> (intro hc; have hc' := hc; (try simp at hc'); simp -implicitDefEqProofs [hc, hc', f1, f2, htl])))
  refine ⟨by simp [maxLen], 2, by omega, by omega, ?_⟩
  simp [hok, LeBs, leB, LeL, leC, leA, okNs, okN, List.replicate]
 ·simp only [exB, exM, exO]
  ((try simp -implicitDefEqProofs [f3, f4, htl]); repeat' first | ((with_reducible first | apply gdK_em | apply cdK_em | apply pickK_em) <;> (intro hc; have hc' := hc; (try simp at hc'); simp -implicitDefEqProofs [hc, hc', f3, f4, htl])))
  refine ⟨by simp [maxLen], callK_fn (w_cfV _ ?_ _ 0 _ _ _ rfl [⟨1, 2, 0⟩, ⟨1, 3, 0⟩] (by decide) ?_) (fun h => by cases h) ?_⟩
  ·simp [OkS, leS, hok, LeBs, LeNs, leB, LeL, leC, leA, okNs, okN, List.replicate]
  ·intro j hj
   simp at hj
   first
    | (subst hj; exact ⟨rfl, by decide⟩)
    | (rcases (by omega : j = 0 ∨ j = 1) with rfl | rfl <;> exact ⟨rfl, by decide⟩)
  ((try simp at hop1); (try simp -implicitDefEqProofs [f3, f4, htl]); repeat' first | ((with_reducible first | apply gdK_em | apply cdK_em | apply pickK_em) <;> (intro hc; have hc' := hc; (try simp at hc'); simp -implicitDefEqProofs [hc, hc', f3, f4, htl])) | (with_reducible apply callK_pure <;> first | (simp only [eras, era, eras_map]; first | with_reducible exact hop1 | simpa using hop1) | (simp -implicitDefEqProofs [f3, f4, htl])))
  refine ⟨by simp [maxLen], 3, by omega, by omega, ?_⟩
  simp [hok, LeBs, leB, LeL, leC, leA, okNs, okN, List.replicate]
 ·simp only [exB, exM, exO]
  ((try simp -implicitDefEqProofs [f5, f6, htl]); repeat' first | ((with_reducible first | apply gdK_em | apply cdK_em | apply pickK_em) <;> (intro hc; have hc' := hc; (try simp at hc'); simp -implicitDefEqProofs [hc, hc', f5, f6, htl])))
  refine ⟨by simp [maxLen], callK_fn (w_cfV _ ?_ _ 0 _ _ _ rfl [⟨1, 5, 0⟩] (by decide) ?_) (fun h => by cases h) ?_⟩
  ·simp [OkS, leS, hok, LeBs, LeNs, leB, LeL, leC, leA, okNs, okN, List.replicate]
  ·intro j hj
   simp at hj
   first
    | (subst hj; exact ⟨rfl, by decide⟩)
    | (rcases (by omega : j = 0 ∨ j = 1) with rfl | rfl <;> exact ⟨rfl, by decide⟩)
  ((try simp at hop2); (try simp -implicitDefEqProofs [f5, f6, htl]); repeat' first | ((with_reducible first | apply gdK_em | apply cdK_em | apply pickK_em) <;> (intro hc; have hc' := hc; (try simp at hc'); simp -implicitDefEqProofs [hc, hc', f5, f6, htl])) | (with_reducible apply callK_pure <;> first | (simp only [eras, era, eras_map]; first | with_reducible exact hop2 | simpa using hop2) | (simp -implicitDefEqProofs [f5, f6, htl])))
  refine ⟨by simp [maxLen], 4, by omega, by omega, ?_⟩
  simp [hok, LeBs, leB, LeL, leC, leA, okNs, okN, List.replicate]
 ·simp only [exB, exM, exO]
  ((try simp -implicitDefEqProofs [f7, f8, htl]); repeat' first | ((with_reducible first | apply gdK_em | apply cdK_em | apply pickK_em) <;> (intro hc; have hc' := hc; (try simp at hc'); simp -implicitDefEqProofs [hc, hc', f7, f8, htl])))
  refine ⟨by simp [maxLen], 5, by omega, by omega, ?_⟩
  simp [hok, LeBs, leB, LeL, leC, leA, okNs, okN, List.replicate]
 ·simp only [exB, exM, exO]
  ((try simp -implicitDefEqProofs [f9, f10, htl]); repeat' first | ((with_reducible first | apply gdK_em | apply cdK_em | apply pickK_em) <;> (intro hc; have hc' := hc; (try simp at hc'); simp -implicitDefEqProofs [hc, hc', f9, f10, htl])))
  refine ⟨by simp [maxLen], 6, by omega, by omega, ?_⟩
  simp [hok, LeBs, leB, LeL, leC, leA, okNs, okN, List.replicate]
 ·simp only [exB, exM, exO]
  ((try simp -implicitDefEqProofs [exF]); repeat' first | ((with_reducible first | apply gdK_em | apply cdK_em | apply pickK_em) <;> (intro hc; have hc' := hc; (try simp at hc'); simp -implicitDefEqProofs [hc, hc', exF])))
  rfl

theorem ex_text : Pure Tryz.prog 17 [exF.v] (.tup [vS [112, 117, 115, 104, 32, 45, 53, 10, 115, 116, 111, 114, 101, 32, 48, 10, 116, 111, 32, 55, 10], vI 0]) := by
 have := w_text exF (by decide) (by simp [exF, inI])
 have h2 : textR exF = ([112, 117, 115, 104, 32, 45, 53, 10, 115, 116, 111, 114, 101, 32, 48, 10, 116, 111, 32, 55, 10], 0) := by
  have h3 : (meaR exF).2 = true := by decide
  unfold textR
  rw [if_pos h3]
  have d1 : Lib.decDigits 5 = [53] := by rw [Lib.decDigits]; rfl
  have d2 : Lib.decDigits 0 = [48] := by rw [Lib.decDigits]; rfl
  have d3 : Lib.decDigits 7 = [55] := by rw [Lib.decDigits]; rfl
  simp [txtC, exF, insT, argsT, argT, Lib.itoa, nm, us, rowN, opTab, d1, d2, d3]
 rw [h2] at this
 exact this
theorem w_awake : Pure Tryz.prog 5 [] (vB true) := by
 have hf := ex_fold
 have ht := ex_text
 unfold exC at hf
 unfold exF at hf ht
 (refine Pure.of_code mix Tryz.call5 k_5 (by simp) (fun hB => ?_); (try simp at hB); (try simp -implicitDefEqProofs [qc_5]))
 ((try simp at hf); (try simp at ht); (try simp -implicitDefEqProofs); repeat' first | ((with_reducible first | apply gdK_em | apply cdK_em | apply pickK_em) <;> (intro hc; have hc' := hc; (try simp at hc'); simp -implicitDefEqProofs [hc, hc'])) | (with_reducible apply callK_pure <;> first | (simp only [eras, era, eras_map]; first | with_reducible exact hf | with_reducible exact ht | simpa using hf | simpa using ht) | (simp -implicitDefEqProofs)))
end Go.Proofs.YtpggidmbnjfmaaaGreatDoor
