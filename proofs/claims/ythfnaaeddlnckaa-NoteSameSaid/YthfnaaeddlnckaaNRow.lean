/- Readings of the arguments of the laws of notes. -/
import Derived.Test.YthfnaaeddlnckaaAwk
import Derived.Test.YthfnaaeddlnckaaSh
import Derived.Test.YthfnaaeddlnckaaRow
set_option linter.unusedSimpArgs false
set_option linter.unusedVariables false
namespace Go.Proofs.Ythfnaaeddlnckaa
open Go.ChangeShapes Go.WideShapes Go.ChangeAt Go.RowKit E

theorem ofs (s : List UInt8) : s.length ≤ 9223372036854775807 → inS s := id
theorem wfG_of {g : Group} (h : g.wf) : WfG g := ⟨h.1, fun x hx => ⟨(h.2.2.2.2 x hx).1, (h.2.2.2.2 x hx).2.1⟩⟩
theorem okI_of {r : Res} (h : r.wf) : OkI r.items := fun x hx => (h.2.1 x hx).2.2.2.2.1
/-- Two results, one behind the other. -/
theorem sh_two {ts : List T} (h : ∃ n, Sh Try.prog n 39 ts) : ∃ b a : Res, ts = b.c ++ a.c ∧ b.wf ∧ a.wf := by
  obtain ⟨n, h⟩ := h
  cases n with
  | zero => exact h.elim
  | succ n =>
    have hc : Try.prog.cellsOf 39 = 8 := by kernel_rfl
    simp only [Sh, Try.underlying39, hc, List.forall_mem_cons, List.not_mem_nil, false_imp_iff, implies_true, and_true] at h
    obtain ⟨hl, h0, h1⟩ := h
    have hr : Try.prog.cellsOf 37 = 4 := by kernel_rfl
    rw [hr] at h0 h1
    obtain ⟨b, e0, w0⟩ := sh_Res h0
    obtain ⟨a, e1, w1⟩ := sh_Res h1
    refine ⟨b, a, ?_, w0, w1⟩
    rw [← e0, ← e1]
    simp only [List.drop_zero]
    rw [List.take_of_length_le (l := List.drop 4 ts) (by simp [hl]), List.take_append_drop]
theorem argG {ts : List T} (h : ∃ n, Sh Try.prog n 32 ts) : ∃ g : Group, ts = g.c ∧ g.wf := by
  obtain ⟨n, h⟩ := h
  exact sh_Group h
theorem argI {ts : List T} (h : ∃ n, Sh Try.prog n 3 ts) : ∃ x, ts = [.int .i64 x] ∧ inI x := by
  obtain ⟨n, h⟩ := h
  exact sh_i h
theorem argV_G (ts : List T) : argV Try.prog 32 ts = .agg (ts.map .t) := by
  rw [argV, show isAgg Try.prog 32 = true by kernel_rfl]; rfl
theorem argV_two (ts : List T) : argV Try.prog 39 ts = .agg (ts.map .t) := by
  rw [argV, show isAgg Try.prog 39 = true by kernel_rfl]; rfl
theorem argV_i (ts : List T) : argV Try.prog 3 ts = .t (ts.headD .nilp) := by
  rw [argV, show isAgg Try.prog 3 = false by kernel_rfl]; rfl

theorem argR {ts : List T} (h : ∃ n, Sh Try.prog n 37 ts) : ∃ r : Res, ts = r.c ∧ r.wf := by
  obtain ⟨n, h⟩ := h
  exact sh_Res h
theorem argV_R (ts : List T) : argV Try.prog 37 ts = .agg (ts.map .t) := by
  rw [argV, show isAgg Try.prog 37 = true by kernel_rfl]; rfl
end Go.Proofs.Ythfnaaeddlnckaa
