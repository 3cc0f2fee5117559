/- Chapter 32: the program's own program of a reference program. -/
import Derived.Test.YtpggidmbnjfmaaaGreatDoorIdf
import Derived.Test.YtpggidmbnjfmaaaGreatDoorCodeE
set_option linter.unusedSimpArgs false
set_option linter.unusedVariables false
set_option maxHeartbeats 4000000
set_option maxRecDepth 8000
namespace Go.Proofs.YtpggidmbnjfmaaaGreatDoor
open E

theorem w_prog32 (p : List Rul) (hp : p.length ≤ 1000) (hs : ∀ r ∈ p, r.stmts.length ≤ 1000) (hc : ∀ r ∈ p, ∀ s ∈ r.stmts, s.ex.cnt ≤ 100000) : Pure Tryz.prog 8 [Rul.l p] (Rul.l p) := by
 (refine Pure.of_code mix Tryz.call8 k_8 (by simp) (fun hB => ?_); (try simp at hB); (try simp -implicitDefEqProofs [qc_8]))
 refine loop_grow [(.slot 3, 62, 4)] (X := Nat) (fun k => k ≤ p.length) (fun k => [(0, Rul.l p), (3, .own 0 62 4 ((p.take k).map Rul.c)), (4, vI k)])
  (fun k => ⟨[], [k]⟩) (fun k => p.length - k) 0 (by omega) (by simp) ?_
 rintro k hk hbd
 clear hbd
 rcases Nat.lt_or_ge k p.length with h | h
 ·have hx : p[k]? = some p[k] := by simp [h]
  have hmem : p[k] ∈ p := List.getElem_mem h
  have hsk := hs _ hmem
  have hck := hc _ hmem
  have htk := take_next hx
  have hmin : min k p.length = k := by omega
  have e3 : IntKind.i64.wrap ((k : Int) + 1) = (k : Int) + 1 := wrap64 (by omega) (by omega)
  obtain ⟨nm, pr, ss, to, hr⟩ : ∃ nm pr ss to, p[k] = ⟨nm, pr, ss, to⟩ := ⟨_, _, _, _, rfl⟩
  have hrk : (p.map Rul.c)[k]? = some [.str nm, .bool pr, .sl (ss.map Stm.c), .int .i64 to] := by simp [h, hr, Rul.c]
  have hcc : p[k].c = [.str nm, .bool pr, .sl (ss.map Stm.c), .int .i64 to] := by rw [hr]; rfl
  rw [hr] at hsk hck htk
  simp only [] at hsk hck
  have hap : (p.map Rul.c).take (k + 1) = (p.map Rul.c).take k ++ [[.str nm, .bool pr, .sl (ss.map Stm.c), .int .i64 to]] := by rw [take_next hrk]
  ((try simp -implicitDefEqProofs [h, hrk, hcc, e3]); repeat' first | ((with_reducible first | apply gdK_em | apply cdK_em | apply pickK_em) <;> (intro hc; have hc' := hc; (try simp at hc'); simp -implicitDefEqProofs [hc, hc', h, hrk, hcc, e3])))
  refine loop_grow [(.cell 0 2, 77, 9)] (X := Nat) (fun j => j ≤ ss.length) (fun j => [(0, Rul.l p), (3, .own 0 62 4 ((p.take k).map Rul.c)), (4, vI k), (5, .ptr 0 0), (6, vI j)])
   (fun j => ⟨[.cells [vS nm, vB pr, .own 1 77 9 ((ss.take j).map Stm.c), vI to]], [k, j]⟩) (fun j => ss.length - j) 0 (by omega) (by simp) ?_
  rintro j hj hbd
  clear hbd
  rcases Nat.lt_or_ge j ss.length with g | g
  ·have gx : ss[j]? = some ss[j] := by simp [g]
   have hcj := hck _ (List.getElem_mem g)
   have gtk := take_next gx
   have gmin : min j ss.length = j := by omega
   have g3 : IntKind.i64.wrap ((j : Int) + 1) = (j : Int) + 1 := wrap64 (by omega) (by omega)
   obtain ⟨sk, sa, sn, sx, gr⟩ : ∃ sk sa sn sx, ss[j] = ⟨sk, sa, sn, sx⟩ := ⟨_, _, _, _, rfl⟩
   have gsj : (ss.map Stm.c)[j]? = some (.int .i64 sk :: .int .i64 sa :: .str sn :: sx.c) := by simp [g, gr, Stm.c]
   have gcc : ss[j].c = .int .i64 sk :: .int .i64 sa :: .str sn :: sx.c := by rw [gr]; rfl
   rw [gr] at hcj gtk
   simp only [] at hcj
   have how := w_own32 sx hcj
   have hlc := len_c sx
   have htc := take_c sx
   have gap : (ss.map Stm.c).take (j + 1) = (ss.map Stm.c).take j ++ [.int .i64 sk :: .int .i64 sa :: .str sn :: sx.c] := by rw [take_next gsj]
   ((try simp at how); (try simp -implicitDefEqProofs [h, hrk, hcc, g, gsj, gcc, g3, hlc, htc, gmin, hmin, maxLen]); repeat' first | ((with_reducible first | apply gdK_em | apply cdK_em | apply pickK_em) <;> (intro hc; have hc' := hc; (try simp at hc'); simp -implicitDefEqProofs [hc, hc', h, hrk, hcc, g, gsj, gcc, g3, hlc, htc, gmin, hmin, maxLen])) | (with_reducible apply callK_pure <;> first | (simp only [eras, era, eras_map]; first | with_reducible exact how | simpa using how) | (simp -implicitDefEqProofs [h, hrk, hcc, g, gsj, gcc, g3, hlc, htc, gmin, hmin, maxLen])))
   exact ⟨⟨by omega, by omega⟩, j + 1, by omega, by omega, ⟨by rw [gap]; exact .inl rfl, rfl⟩, by push_cast; rfl⟩
  ·have : j = ss.length := by omega
   subst this
   have gt : (ss.map Stm.c).take ss.length = ss.map Stm.c := List.take_of_length_le (by simp)
   ((try simp -implicitDefEqProofs [h, hrk, hcc, g, e3, hmin, maxLen, gt]); repeat' first | ((with_reducible first | apply gdK_em | apply cdK_em | apply pickK_em) <;> (intro hc; have hc' := hc; (try simp at hc'); simp -implicitDefEqProofs [hc, hc', h, hrk, hcc, g, e3, hmin, maxLen, gt])))
   exact ⟨⟨by omega, by omega⟩, k + 1, by omega, by omega, by omega, by rw [hap]; exact .inl (.inl rfl), by push_cast; rfl⟩
 ·have : k = p.length := by omega
  subst this
  have ht : (p.map Rul.c).take p.length = p.map Rul.c := List.take_of_length_le (by simp)
  ((try simp -implicitDefEqProofs [ht]); repeat' first | ((with_reducible first | apply gdK_em | apply cdK_em | apply pickK_em) <;> (intro hc; have hc' := hc; (try simp at hc'); simp -implicitDefEqProofs [hc, hc', ht])))
end Go.Proofs.YtpggidmbnjfmaaaGreatDoor
