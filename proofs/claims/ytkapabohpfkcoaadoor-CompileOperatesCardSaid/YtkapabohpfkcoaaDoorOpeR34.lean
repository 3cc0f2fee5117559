/- For every input, CompileOperates returns true. -/
import Derived.Test.YtkapabohpfkcoaaDoorOrdR34
set_option linter.unusedSimpArgs false
set_option linter.unusedVariables false
namespace Go.Proofs.YtkapabohpfkcoaaDoor
open Go.ChangeShapes Go.WideShapes Go.ChangeAt Go.RowKit E
theorem argA2 {ts : List T} (h : ∃ n, Sh Tryd.prog n 22 ts) : ∃ x y, ts = [.int .i64 x, .int .i64 y] ∧ inI x ∧ inI y := by
  obtain ⟨n, h⟩ := h
  cases n with
  | zero => exact h.elim
  | succ n =>
    have hc : Tryd.prog.cellsOf 22 = 2 := by kernel_rfl
    have h1 : Tryd.prog.cellsOf 3 = 1 := by kernel_rfl
    simp only [Sh, Tryd.underlying22, hc, h1] at h
    obtain ⟨hl, he⟩ := h
    match ts, hl with
    | [a, b], _ =>
      obtain ⟨x, e0, w0⟩ := argI ⟨n, he 0 (by omega)⟩
      obtain ⟨y, e1, w1⟩ := argI ⟨n, he 1 (by omega)⟩
      simp at e0 e1
      exact ⟨x, y, by rw [e0, e1], w0, w1⟩
theorem argV_2 (ts : List T) : argV Tryd.prog 22 ts = .agg (ts.map .t) := by
  rw [argV, show isAgg Tryd.prog 22 = true by kernel_rfl]; rfl

set_option maxRecDepth 100000 in
theorem compileOperates_lifted (os : Os) (started : os.Started) (H : Type) (enc : TypeId × Value → H) :
    ReturnsInHanded {} Tryd.checked os 3 .any (fun w args => (Rows.compileOperatesSpec.pre enc Tryd.prog Tryd.f3 [] false w args ∧ laidMetH Tryd.prog lay34 w) ∧ sizedMet enc Tryd.prog Tryd.f3 (OpenSpec.ofChange Rows.compileOperatesSpec) false w args)
      (Rows.compileOperatesSpec.post enc Tryd.prog Tryd.f3 false true false false) := by
  refine lifted_laid started [] (by kernel_rfl) Tryd.func3
    (ChangeSpec.witness_shaped (enc := enc) (C := Tryd.checked) (os := os) (X := fun w _ => laidMetH Tryd.prog lay34 w) false (World.doorLaid Tryd.prog 400 os) #[.int .i64 0, .int .i64 0, .agg #[.int .i64 0, .int .i64 0]] 8 rfl (World.shaped_of_RefB (by kernel_rfl) (by kernel_rfl)) (by kernel_rfl) (by kernel_rfl) (by kernel_rfl) (door_met os _))
    rfl ?_ _ (by kernel_rfl) Tryd.underlying4 (by kernel_rfl) (by kernel_rfl) ?_
  · rw [Tryd.params3]
    intro ds hds
    match ds, hds with
    | [d0, d1, d2], _ => exact ⟨rfl, rfl, rfl⟩
  · rw [Tryd.params3]
    intro xs hx
    match xs, hx with
    | [x0, x1, x2], ⟨h0, h1, h2, _⟩ =>
      obtain ⟨op, rfl, _⟩ := argI h0
      obtain ⟨a, rfl, _⟩ := argI h1
      obtain ⟨x, y, rfl, _, _⟩ := argA2 h2
      simp only [argVs, argV_i, argV_2]
      exact l_operates op a x y

theorem compileOperates_row : Rows.CompileOperatesSaid :=
  OpenClaim.holds_of_wide 3 Tryd.f3 rfl rfl rfl rfl rfl rfl rfl ⟨rfl, rfl, rfl, rfl, rfl⟩ rfl rfl rfl rfl rfl (by kernel_rfl) Tryd.func3 (by kernel_rfl)
    (of_decide_eq_true (by kernel_rfl)) (by unfold Func.isWrapper; first | (rw [if_pos (by decide +kernel)]; kernel_rfl) | (rw [if_neg (by decide +kernel)]; exact ⟨rfl, rfl⟩))
    (fun os started H enc _ => compileOperates_lifted os started H enc)

theorem compileOperates_holds : Rows.CompileOperatesCardSaid :=
  Claim7.holds_tied_plain_at .later [] [.data, .data, .data] true (true, "1807d5a33dfb15976345f1e187f85a10ece91d6abb6db9bcf81d475b15714bab") true
    compileOperates_row (fun _ h => by cases h) (by kernel_rfl) (fun _ h => by cases h) compileOperates_row_tie rfl ⟨rfl, rfl⟩ (by kernel_rfl) rfl
    (fun f fn hf hfn => by
      obtain rfl : f = 3 := Option.some.inj ((show Tryd.prog.funcNamed "tallystone/tallystonelaw34.CompileOperates" = some 3 by kernel_rfl).symm.trans hf) |>.symm
      obtain rfl : fn = Tryd.f3 := (Option.some.inj (Tryd.func3.symm.trans hfn)).symm
      exact ⟨by kernel_rfl, fun j t ht => by
        rw [Tryd.params3] at ht
        have hall : (([3, 3, 22] : List TypeId).all fun u => !Tryd.prog.wantsStandIn u) = true := by kernel_rfl
        exact (show Tryd.prog.wantsStandIn t = false by simpa using List.all_eq_true.1 hall t (by simpa using Array.mem_of_getElem? ht))⟩)
    (by kernel_rfl)
end Go.Proofs.YtkapabohpfkcoaaDoor
