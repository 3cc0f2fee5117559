/- strconv.Itoa: the shelf's contract, laid by the kit's tool (numbers of round r2's seat), as a contract of the engine. -/
import Derived.Shelf.Strconv.Itoa3
import Derived.Shelf.LaysM
import Derived.Test.YtpggidmbnjfmaaaDoorBld
import Derived.Test.YtpggidmbnjfmaaaDoorItl
set_option linter.unusedSimpArgs false
set_option linter.unusedVariables false
set_option maxRecDepth 100000
namespace Go.Proofs.YtpggidmbnjfmaaaDoor
open Go.Shelf
open Go.RowKit Go.Sort Go.Lib in
theorem itoa_calls (n : Int) (h0 : -9223372036854775808 ≤ n) (h1 : n ≤ 9223372036854775807) (w : World) (htab : Lib.TabIs Tryd.prog w "internal/strconv.uint64pow10" .u64 Lib.pow10Tab) :
  Calls Tryd.prog 22 #[.int .i64 n] w fun e w' => e = .returned (.string ⟨(Lib.itoa n).toArray⟩) ∧ ∃ k os, w' = grow (w.drewN k) os := Any.strconv_Itoa laysIto n h0 h1 w htab
open E Go.RowKit
theorem pow10_lay {o : Nat} (h : o < 20) : laidC 1 o = some (.int .u64 ((10 ^ o : Nat) : Int)) := by
 have : laidC 1 o = ((List.range 20).map fun i => Value.int .u64 ((10 ^ i : Nat) : Int))[o]? := rfl
 rw [this]
 simp [h]
theorem pow10_tab {g : Gh} {S : St} {w : World} (h : Inv g S w) : Lib.TabIs Tryd.prog w "internal/strconv.uint64pow10" .u64 Lib.pow10Tab := by
 have hg : Tryd.prog.globalNamed "internal/strconv.uint64pow10" = some 1 := by kernel_rfl
 obtain ⟨cs, ty, fz, h1, h2⟩ := h.lsz 1 _ (pow10_lay (by decide))
 have h3 : laidN 1 = 20 := rfl
 unfold Lib.TabIs World.var?
 rw [hg]
 simp only [Option.bind_some, h1]
 congr 1
 apply Array.ext_getElem?
 intro o
 rcases Nat.lt_or_ge o 20 with ho | ho
 ·have h4 := h.imm _ _ _ (h.lay _ _ _ (pow10_lay ho))
  simp only [World.cell?, h1, Option.isSome_none] at h4
  rw [if_neg (by simp)] at h4
  rw [h4]
  simp [Lib.pow10Tab, ho]
 ·rw [Array.getElem?_eq_none (by rw [h2, h3]; exact ho), Array.getElem?_eq_none (by simp [Lib.pow10Tab]; exact ho)]

theorem w_itoa (n : Int) (h0 : -9223372036854775808 ≤ n) (h1 : n ≤ 9223372036854775807) : Pure Tryd.prog 22 [.t (.int .i64 n)] (.t (.str (Lib.itoa n))) := by
 refine ⟨Tryd.call22, fun g w us hI hus hrel => ?_⟩
 rw [args1 hus]
 have hr := hrel 0 (by simp)
 simp only [List.getD_cons_zero] at hr
 generalize us.getD 0 undef = u0 at hr
 cases hr with
 | t _ _ hr =>
  cases hr
  refine (itoa_calls n h0 h1 w (pow10_tab hI)).mono ?_
  rintro e w' ⟨rfl, k, os, rfl⟩
  refine ⟨_, g, rfl, .t _ _ (.str _), hI.grown rfl rfl rfl ?_ fun i hi => ?_⟩
  ·simp [Go.Sort.grow, World.drewN]
  ·simp [Go.Sort.grow, World.drewN, Array.getElem?_append, hi]
end Go.Proofs.YtpggidmbnjfmaaaDoor
