/- Readings of codes of the reference of chapter 34; of integers. -/
import Derived.Test.YtkapabohpfkcoaaDoorTxt
import Derived.Test.YtkapabohpfkcoaaDoorRowL
set_option linter.unusedSimpArgs false
set_option linter.unusedVariables false
set_option maxRecDepth 8000
namespace Go.Proofs.YtkapabohpfkcoaaDoor
open Go.ChangeShapes Go.WideShapes Go.ChangeAt Go.RowKit E
def inS (s : List UInt8) : Prop := s.length ≤ 9223372036854775807
theorem sh_i {n : Nat} {ts : List T} (h : Sh Tryd.prog n 3 ts) : ∃ x, ts = [.int .i64 x] ∧ inI x := by
  cases n with
  | zero => exact h.elim
  | succ n =>
    simp only [Sh, Tryd.underlying3] at h
    obtain ⟨x, rfl, hw⟩ := h
    refine ⟨x, rfl, ?_⟩
    simp [Lit.wf, IntKind.min, IntKind.max, IntKind.signed, IntKind.bits] at hw
    simp [inI]; omega
theorem sh_s {n : Nat} {ts : List T} (h : Sh Tryd.prog n 9 ts) : ∃ s, ts = [.str s] ∧ inS s := by
  cases n with
  | zero => exact h.elim
  | succ n =>
    simp only [Sh, Tryd.underlying9] at h
    obtain ⟨s, rfl, hw⟩ := h
    exact ⟨s, rfl, by simpa [inS, maxLen] using hw⟩
theorem sh_b {n : Nat} {ts : List T} (h : Sh Tryd.prog n 4 ts) : ∃ b, ts = [.bool b] := by
  cases n with
  | zero => exact h.elim
  | succ n =>
    simp only [Sh, Tryd.underlying4] at h
    exact h
theorem sh_l {α : Type} {n : Nat} {t e : TypeId} {ts : List T} (hu : Tryd.prog.underlying t = some (.slice e)) (c : α → List T) (wf : α → Prop) (he : ∀ n ts, Sh Tryd.prog n e ts → ∃ x, ts = c x ∧ wf x) (hk : Tryd.prog.cellsOf t = 1) (h : Sh Tryd.prog n t (ts.take (Tryd.prog.cellsOf t))) : ∃ l : List α, ts.take 1 = [.sl (l.map c)] ∧ ∀ x ∈ l, wf x := by
  rw [hk] at h
  cases n with
  | zero => exact h.elim
  | succ n =>
    simp only [Sh, hu] at h
    obtain ⟨es, hts, hes⟩ := h
    rw [hts]
    clear hts
    suffices hs : ∃ l : List α, es = l.map c ∧ ∀ x ∈ l, wf x by obtain ⟨l, rfl, hl⟩ := hs; exact ⟨l, rfl, hl⟩
    induction es with
    | nil => exact ⟨[], rfl, by simp⟩
    | cons r es ih =>
      obtain ⟨x, rfl, hx⟩ := he n r (hes r (by simp))
      obtain ⟨l, rfl, hl⟩ := ih (fun r hr => hes r (by simp [hr]))
      exact ⟨x :: l, rfl, by simp; exact ⟨hx, hl⟩⟩
theorem sh_Ins {n : Nat} {ts : List T} (h : Sh Tryd.prog n 103 ts) : ∃ x : Ins, ts = x.c ∧ True := by
  cases n with
  | zero => exact h.elim
  | succ n =>
    have hc : Tryd.prog.cellsOf 103 = 3 := by kernel_rfl
    simp only [Sh, Tryd.underlying103, hc, List.forall_mem_cons, List.not_mem_nil, false_imp_iff, implies_true, and_true] at h
    obtain ⟨hl, h0, h1, h2⟩ := h
    obtain ⟨c0, c1, c2, rfl⟩ : ∃ c0 c1 c2, ts = [c0, c1, c2] := by
      match ts, hl with
      | [c0, c1, c2], _ => exact ⟨_, _, _, rfl⟩
    rw [show Tryd.prog.cellsOf 3 = 1 by kernel_rfl] at h0 h1 h2
    obtain ⟨x0, e0, w0⟩ := sh_i h0
    obtain ⟨x1, e1, w1⟩ := sh_i h1
    obtain ⟨x2, e2, w2⟩ := sh_i h2
    refine ⟨⟨x0, x1, x2⟩, ?_, trivial⟩
    simp at e0 e1 e2
    simp [*]
theorem sh_Code {n : Nat} {ts : List T} (h : Sh Tryd.prog n 53 ts) : ∃ x : Code, ts = x.c := by
  cases n with
  | zero => exact h.elim
  | succ n =>
    have hc : Tryd.prog.cellsOf 53 = 3 := by kernel_rfl
    simp only [Sh, Tryd.underlying53, hc, List.forall_mem_cons, List.not_mem_nil, false_imp_iff, implies_true, and_true] at h
    obtain ⟨hl, h0, h1, h2⟩ := h
    obtain ⟨c0, c1, c2, rfl⟩ : ∃ c0 c1 c2, ts = [c0, c1, c2] := by
      match ts, hl with
      | [c0, c1, c2], _ => exact ⟨_, _, _, rfl⟩
    rw [show Tryd.prog.cellsOf 9 = 1 by kernel_rfl] at h0
    rw [show Tryd.prog.cellsOf 4 = 1 by kernel_rfl] at h1
    obtain ⟨x0, e0, w0⟩ := sh_s h0
    obtain ⟨x1, e1⟩ := sh_b h1
    obtain ⟨x2, e2, w2⟩ := sh_l (by kernel_rfl) Ins.c (fun _ => True) (fun n ts h => sh_Ins h) (by kernel_rfl) h2
    refine ⟨⟨x0, x1, x2⟩, ?_⟩
    simp at e0 e1 e2
    simp [*]
theorem argI {ts : List T} (h : ∃ n, Sh Tryd.prog n 3 ts) : ∃ x, ts = [.int .i64 x] ∧ inI x := by
  obtain ⟨n, h⟩ := h
  exact sh_i h
theorem argV_i (ts : List T) : argV Tryd.prog 3 ts = .t (ts.headD .nilp) := by
  rw [argV, show isAgg Tryd.prog 3 = false by kernel_rfl]; rfl
theorem argC {ts : List T} (h : ∃ n, Sh Tryd.prog n 53 ts) : ∃ c : Code, ts = c.c := by
  obtain ⟨n, h⟩ := h
  exact sh_Code h
theorem argV_C (ts : List T) : argV Tryd.prog 53 ts = .agg (ts.map .t) := by
  rw [argV, show isAgg Tryd.prog 53 = true by kernel_rfl]; rfl
set_option maxRecDepth 100000 in
theorem door_met (os : Os) (args : Array Value) : laidMetH Tryd.prog lay34 ((World.doorLaid Tryd.prog 400 os).forCall (fun _ _ => 0) ⟨#[], args, []⟩).memory :=
  laidMetH_of_parts3 (fuel := 8) (laidMet_of_run' 8 (by kernel_rfl) (by kernel_rfl)) (by kernel_rfl) (by kernel_rfl)
end Go.Proofs.YtkapabohpfkcoaaDoor
