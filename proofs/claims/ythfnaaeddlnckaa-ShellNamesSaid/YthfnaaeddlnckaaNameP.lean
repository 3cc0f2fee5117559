/- The row of ShellNames. -/
import Derived.Test.YthfnaaeddlnckaaWs
import Derived.Test.YthfnaaeddlnckaaRows
import Derived.ProofKit
namespace Go.Proofs.Ythfnaaeddlnckaa
open Go.ChangeShapes Go.WideShapes Go.ChangeAt Go.RowKit E
theorem pure_ends {P : Program} {f : Nat} {vs : List V} {b : Bool} (h : Pure P f vs (.t (.bool b))) (I : Nat → Nat → Option Value) (w : World) (hI : ∀ x o c, I x o = some c → w.cell? ⟨x, o, none⟩ = some c)
    (us : Array Value) (hs : us.size = vs.length) (hr : ∀ j, j < vs.length → RelV ⟨I, [], [], w.heap.size, []⟩ [] (vs.getD j .und) (us.getD j undef)) :
    Calls P f us w fun e w' => e = .returned (.bool b) ∧ (w'.os = w.os ∧ w'.output = w.output ∧ w.heap.size ≤ w'.heap.size ∧ ∀ k, k < w.heap.size → w'.heap[k]? = w.heap[k]?) := by
  have hI0 : Inv ⟨I, [], [], w.heap.size, []⟩ St0 w :=
    ⟨hI, rfl, List.nodup_nil, fun i blk bx hi => by simp at hi, fun i blk bx hi => by simp at hi, fun i blk hi => by simp at hi, rfl, fun k n blk e z cap hk => by simp at hk, fun k n hk => by simp at hk, fun k l x y hk => by simp at hk,
      Nat.le_refl _, fun i blk hi => by simp at hi⟩
  refine (h.2 _ w us hI0 hs hr).mono fun e w' he => ?_
  obtain ⟨u, g', rfl, hr, hm⟩ := he
  refine ⟨?_, hm.frm.os, hm.frm.output, hm.frm.size, fun k hk => hm.frm.block k hk (by simp)⟩
  cases hr with
  | t x v h => cases h; rfl

theorem kept_of_blocks {w w' : World} (h : w'.os = w.os ∧ w'.output = w.output ∧ w.heap.size ≤ w'.heap.size ∧ ∀ k, k < w.heap.size → w'.heap[k]? = w.heap[k]?) : w.keptBut w' (fun _ => False) := by
  refine ⟨h.1, h.2.1, fun i hi => ?_⟩
  rw [h.2.2.2 i hi]
  cases hx : w.heap[i]? with
  | none => rfl
  | some o => cases o <;> simp
theorem frozen_of_blocks {w w' : World} (h : w'.os = w.os ∧ w'.output = w.output ∧ w.heap.size ≤ w'.heap.size ∧ ∀ k, k < w.heap.size → w'.heap[k]? = w.heap[k]?) (a : Addr) (ha : a.block < w.heap.size) : w'.frozen? a = w.frozen? a := by
  simp [World.frozen?, h.2.2.2 _ ha]

theorem Try.own : ownKnob Try.prog.godebug = none := by kernel_rfl

theorem res_bool : Try.f3.resultTypes = #[4] := by kernel_rfl
set_option maxRecDepth 100000 in
theorem shellNames_lifted (os : Os) (started : os.Started) (H : Type) (enc : TypeId × Value → H) :
    ReturnsInHanded {} Try.checked os 3 .any (Rows.shellNamesSpec.pre6 enc Try.prog Try.f3 Rows.shellNamesRow.domain false) (Rows.shellNamesSpec.post enc Try.prog Try.f3 false true false false) := by
  refine returnsInHanded_of_change (C := Try.checked) Try.own started (by kernel_rfl) Try.func3
    (ChangeSpec.witness6 (enc := enc) (C := Try.checked) false ⟨#[], #[.int .i64 0], []⟩ 8 (by kernel_rfl) (by kernel_rfl) (by kernel_rfl) (by kernel_rfl)) ?_
  intro W base args ds gs before hval0 hW hcnd _
  have hval : ∀ (j : Nat) t v, Try.f3.params[j]? = some t → args[j]? = some v → Value.okWide Try.prog W .any base t v := hval0
  have hW' := hW
  obtain ⟨p, q, hA0, hV, rfl, hfz, hnd⟩ := hW
  have hA : DataW.TrodAll enc Try.prog W 0 (fun _ => true) true Try.f3.params.toList args.toList ds p := hA0
  rw [Try.params3] at hA hval
  obtain ⟨v0, d0, rfl, rfl, h0⟩ := trodAll_one hA
  obtain ⟨rfl, rfl⟩ := trodVars_none hV
  obtain ⟨a, rfl, rfl, rfl, wa⟩ := open_int Try.underlying3 (hval 0 3 v0 rfl rfl) h0
  clear hA0 hval0
  simp only [List.append_nil] at hW'
  refine (pure_ends (ShellNames_any a) (fun _ _ => none) W (fun x o c h => by cases h) #[.int .i64 a] rfl (fun j hj => ?_)).mono fun e W' ⟨he, hB⟩ => ?_
  · match j, hj with
    | 0, _ => exact .t _ _ (.int _ _)
  subst he
  refine ⟨_, rfl, _, _, _, [], [], [], hW', ?_, trodAll_mk1 (shut_int Try.underlying3 wa), rfl, World.keptBut_mono (fun _ f => f.elim) (kept_of_blocks hB), fun h => by cases h⟩
  rw [res_bool]
  exact trodAll_mk1 (shut_bool Try.underlying4 true)

theorem shellNames_holds : Rows.ShellNamesSaid :=
  OpenClaim.holds_of_wide 3 Try.f3 rfl rfl rfl rfl rfl rfl rfl ⟨rfl, rfl, rfl, rfl, rfl⟩ rfl rfl rfl rfl rfl (by kernel_rfl) Try.func3 (by kernel_rfl)
    (of_decide_eq_true (by kernel_rfl)) (by unfold Func.isWrapper; first | (rw [if_pos (by decide +kernel)]; kernel_rfl) | (rw [if_neg (by decide +kernel)]; exact ⟨rfl, rfl⟩))
    (fun os started H enc _ => shellNames_lifted os started H enc)
end Go.Proofs.Ythfnaaeddlnckaa
