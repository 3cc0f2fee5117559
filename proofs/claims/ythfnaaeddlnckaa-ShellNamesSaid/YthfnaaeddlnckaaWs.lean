/- The walks of the names of the errors. -/
import Derived.Test.YthfnaaeddlnckaaCode
set_option linter.unusedSimpArgs false
set_option linter.unusedVariables false
namespace Go.Proofs.Ythfnaaeddlnckaa
open E

def names : List (List UInt8) := [[111, 107], [97, 114, 103, 117, 109, 101, 110, 116], [114, 97, 110, 103, 101], [115, 121, 110, 116, 97, 120], [102, 111, 114, 109], [115, 117, 109], [108, 105, 109, 105, 116], [115, 116, 97, 116, 101], [110, 111, 110, 101], [100, 117, 112, 108, 105, 99, 97, 116, 101], [100, 105, 118, 105, 100, 101], [117, 110, 98, 97, 108, 97, 110, 99, 101, 100], [108, 111, 99, 107, 101, 100], [114, 97, 116, 101], [115, 105, 110, 103, 117, 108, 97, 114], [109, 97, 112, 112, 105, 110, 103], [116, 121, 112, 101], [117, 110, 107, 110, 111, 119, 110], [99, 111, 110, 102, 108, 105, 99, 116], [116, 111, 114, 110]]
def nameOf (e : Int) : List UInt8 := if 0 ≤ e ∧ e < 20 then names.getD e.toNat [] else []

set_option maxHeartbeats 60000 in
theorem names_len : names.length = 20 := rfl

set_option maxHeartbeats 60000 in
theorem shell_Name (e : Int) : Pure Try.prog 10 [.t (.int .i64 e)] (.t (.str (nameOf e))) := by
  by_cases h1 : e < 0
  · have hn : nameOf e = [] := by simp [nameOf]; omega
    refine Pure.of_code mix Try.call10 k_10 (by simp) ?_
    simp -implicitDefEqProofs [c_shell_Name_10, h1, hn]
  · by_cases h2 : 20 ≤ e
    · have hn : nameOf e = [] := by simp [nameOf]; omega
      refine Pure.of_code mix Try.call10 k_10 (by simp) ?_
      simp -implicitDefEqProofs [c_shell_Name_10, h1, h2, hn]
    · have hn : nameOf e = names.getD e.toNat [] := by simp [nameOf]; omega
      rw [hn]
      refine Pure.of_code mix Try.call10 k_10 (by simp) ?_
      simp -implicitDefEqProofs [c_shell_Name_10, h1, h2]
      refine ⟨by omega, by omega, ?_⟩
      have hlt : e.toNat < names.length := by rw [names_len]; omega
      show leV ((names.map (fun s => V.t (T.str s)))[e.toNat]?.getD .junk) _
      simp [hlt]

set_option maxHeartbeats 60000 in
theorem ref_Name_neg (e : Int) (h1 : e < 0) : Pure Try.prog 11 [.t (.int .i64 e)] (.t (.str [])) := by
  refine Pure.of_code mix Try.call11 k_11 (by simp) ?_
  simp -implicitDefEqProofs [c_tallystoneref58_Name_11, h1]

set_option maxHeartbeats 60000 in
theorem ref_Name_big (e : Int) (h1 : ¬ e < 0) (h2 : 20 ≤ e) : Pure Try.prog 11 [.t (.int .i64 e)] (.t (.str [])) := by
  refine Pure.of_code mix Try.call11 k_11 (by simp) ?_
  simp -implicitDefEqProofs [c_tallystoneref58_Name_11, h1, h2]

set_option maxHeartbeats 60000 in
theorem ref_Name_in (e : Int) (h1 : ¬ e < 0) (h2 : ¬ 20 ≤ e) : Pure Try.prog 11 [.t (.int .i64 e)] (.t (.str (names.getD e.toNat []))) := by
  refine Pure.of_code mix Try.call11 k_11 (by simp) ?_
  have hlt : e.toNat < names.length := by rw [names_len]; omega
  have hg : (names.map (fun s => [T.str s]))[e.toNat]?.getD [] = [T.str (names[e.toNat]?.getD [])] := by simp [hlt]
  rw [List.getD_eq_getElem?_getD]
  generalize names[e.toNat]?.getD [] = s at hg ⊢
  simp only [names, List.map_cons, List.map_nil] at hg
  simp -implicitDefEqProofs [c_tallystoneref58_Name_11, h1, h2, hg]
  omega


set_option maxHeartbeats 60000 in
theorem ref_Name (e : Int) : Pure Try.prog 11 [.t (.int .i64 e)] (.t (.str (nameOf e))) := by
  by_cases h1 : e < 0
  · have hn : nameOf e = [] := by simp [nameOf]; omega
    rw [hn]; exact ref_Name_neg e h1
  · by_cases h2 : 20 ≤ e
    · have hn : nameOf e = [] := by simp [nameOf]; omega
      rw [hn]; exact ref_Name_big e h1 h2
    · have hn : nameOf e = names.getD e.toNat [] := by simp [nameOf]; omega
      rw [hn]; exact ref_Name_in e h1 h2

set_option maxHeartbeats 60000 in
theorem ShellNames_any (e : Int) : Pure Try.prog 3 [.t (.int .i64 e)] (.t (.bool true)) := by
  have h0 := shell_Name 0
  have h0' : nameOf 0 = [111, 107] := rfl
  rw [h0'] at h0
  have h1 := shell_Name e
  have h2 := ref_Name e
  refine Pure.of_code mix Try.call3 k_3 (by simp) ?_
  simp -implicitDefEqProofs [c_tallystonelaw58_ShellNames_3]
  refine callK_pure h0 ?_
  simp -implicitDefEqProofs
  refine callK_pure h1 ?_
  simp -implicitDefEqProofs
  refine callK_pure h2 ?_
  simp -implicitDefEqProofs
end Go.Proofs.Ythfnaaeddlnckaa
