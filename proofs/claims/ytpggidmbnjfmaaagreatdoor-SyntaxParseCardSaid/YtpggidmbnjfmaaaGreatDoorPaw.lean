/- Chapter 32: the example. -/
import Derived.Test.YtpggidmbnjfmaaaGreatDoorPsf
import Derived.Test.YtpggidmbnjfmaaaGreatDoorPrb
set_option linter.unusedSimpArgs false
set_option linter.unusedVariables false
set_option maxHeartbeats 4000000
set_option maxRecDepth 8000
namespace Go.Proofs.YtpggidmbnjfmaaaGreatDoor
open E

def exT : List UInt8 := [114, 117, 108, 101, 32, 114, 32, 101, 97, 99, 104, 32, 112, 97, 105, 114, 123, 112, 111, 115, 116, 32, 52, 48, 48, 48, 32, 97, 45, 40, 98, 45, 99, 41, 59, 116, 111, 32, 51, 48, 48, 48, 59, 125]
def exX : Xp := two 8 (.mk 2 0 0 0 [97] []) (two 8 (.mk 2 0 0 0 [98] []) (.mk 2 0 0 0 [99] []))
def exP : List Rul := [⟨[114], true, [⟨3, 4000, [], exX⟩], 3000⟩]
theorem ex_toks : tokensR exT = ([⟨1, sRule, 0⟩, ⟨1, [114], 5⟩, ⟨1, sEach, 7⟩, ⟨1, sPair, 12⟩, ⟨3, [123], 16⟩, ⟨1, sPost, 17⟩, ⟨2, [52, 48, 48, 48], 22⟩, ⟨1, [97], 27⟩, ⟨3, [45], 28⟩, ⟨3, [40], 29⟩, ⟨1, [98], 30⟩, ⟨3, [45], 31⟩, ⟨1, [99], 32⟩, ⟨3, [41], 33⟩, ⟨3, [59], 34⟩, ⟨1, sTo, 35⟩, ⟨2, [51, 48, 48, 48], 38⟩, ⟨3, [59], 42⟩, ⟨3, [125], 43⟩], 0, 0) := by decide +kernel
theorem ex_prg : prgT (tokensR exT).1 = .ok exP [] := by
 rw [ex_toks]
 exact prgT_of (n := 40) (m := 40) (by rfl)
theorem ex_prgB : prgB exP = true := by rfl
theorem ex_parse : parseR exT = (exP, 0, 0) := by
 unfold parseR
 rw [if_pos (by rw [ex_toks]), parsT, ex_prg]
 simp only [ex_prgB, if_true]
theorem ex_4000 : Lib.itoa 4000 = [52, 48, 48, 48] := by
 rw [itoa_nat (by decide), show (4000 : Int).toNat = 4000 from rfl, dec_big (by decide), dec_big (by decide), dec_big (by decide), dec_small (by decide)]; rfl
theorem ex_3000 : Lib.itoa 3000 = [51, 48, 48, 48] := by
 rw [itoa_nat (by decide), show (3000 : Int).toNat = 3000 from rfl, dec_big (by decide), dec_big (by decide), dec_big (by decide), dec_small (by decide)]; rfl
theorem ex_txt : txt (prgP exP) = [114, 117, 108, 101, 32, 114, 32, 101, 97, 99, 104, 32, 112, 97, 105, 114, 32, 123, 10, 9, 112, 111, 115, 116, 32, 52, 48, 48, 48, 32, 97, 32, 45, 32, 40, 98, 32, 45, 32, 99, 41, 59, 10, 9, 116, 111, 32, 51, 48, 48, 48, 59, 10, 125, 10] := by
 have : txt (prgP exP) = hdR ⟨[114], true, [⟨3, 4000, [], exX⟩], 3000⟩ ++ (([9, 112, 111, 115, 116, 32] ++ (Lib.itoa 4000 ++ [32]) ++ (txt (bare exX) ++ [59, 10])) ++ ([9, 116, 111, 32] ++ (Lib.itoa 3000 ++ [59, 10, 125, 10]))) := by
  rw [txt_prg]; simp [exP, tyR, tyS, prS, tlR]
 rw [this, ex_4000, ex_3000]
 rfl
theorem ex_print : printR exP = ([114, 117, 108, 101, 32, 114, 32, 101, 97, 99, 104, 32, 112, 97, 105, 114, 32, 123, 10, 9, 112, 111, 115, 116, 32, 52, 48, 48, 48, 32, 97, 32, 45, 32, 40, 98, 32, 45, 32, 99, 41, 59, 10, 9, 116, 111, 32, 51, 48, 48, 48, 59, 10, 125, 10], 0) := by
 unfold printR
 rw [if_pos ex_prgB, ex_txt, if_neg (by decide)]
theorem ex_join : NoMM exX := by
 refine .mk _ _ _ _ _ _ (by decide) fun y hy => ?_
 have v : ∀ n, NoMM (.mk 2 0 0 0 n []) := fun n => .mk _ _ _ _ _ _ (by decide) (fun y hy => by cases hy)
 rcases List.mem_cons.1 hy with rfl | hy
 ·exact v _
 rcases List.mem_cons.1 hy with rfl | hy
 ·refine .mk _ _ _ _ _ _ (by decide) fun y hy => ?_
  rcases List.mem_cons.1 hy with rfl | hy
  ·exact v _
  rcases List.mem_cons.1 hy with rfl | hy
  ·exact v _
  cases hy
 cases hy
theorem w_awake32 : Pure Tryz.prog 12 [] (vB true) := by
 have h1 := w_Parse exT
 rw [ex_parse] at h1
 have h2 := w_Print exP (fun r hr s hs => by
  rw [List.mem_singleton.1 hr] at hs
  rw [List.mem_singleton.1 hs]
  show Xp.cnt exX ≤ 10000
  decide) (fun r hr s hs => by
  rw [List.mem_singleton.1 hr] at hs
  rw [List.mem_singleton.1 hs]
  exact .inr ex_join)
 rw [ex_print] at h2
 unfold exT at h1
 (refine Pure.of_code mix Tryz.call12 k_12 (by simp) (fun hB => ?_); (try simp at hB); (try simp -implicitDefEqProofs [qc_12]))
 ((try simp at h1); (try simp at h2); (try simp -implicitDefEqProofs); repeat' first | ((with_reducible first | apply gdK_em | apply cdK_em | apply pickK_em) <;> (intro hc; have hc' := hc; (try simp at hc'); simp -implicitDefEqProofs [hc, hc'])) | (with_reducible apply callK_pure <;> first | (simp only [eras, era, eras_map]; first | with_reducible exact h1 | with_reducible exact h2 | simpa using h1 | simpa using h2) | (simp -implicitDefEqProofs)))
end Go.Proofs.YtpggidmbnjfmaaaGreatDoor
