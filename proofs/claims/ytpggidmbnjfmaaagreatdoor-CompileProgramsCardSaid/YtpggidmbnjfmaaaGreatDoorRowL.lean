/- The same as XRow for rows that say what laid variables of the library read as. -/
import Derived.Test.YtpggidmbnjfmaaaGreatDoorTree
import Derived.Test.YtpggidmbnjfmaaaGreatDoorRowS
import Derived.Test.YtpggidmbnjfmaaaGreatDoorRows
import Derived.Test.YtpggidmbnjfmaaaGreatDoorTie
import Derived.ProofKit
import Derived.Carry
import Derived.LaidMore
import Derived.OpenShut
import Derived.Stop.Joined
set_option linter.unusedSimpArgs false
set_option linter.unusedVariables false
namespace Go.Proofs.YtpggidmbnjfmaaaGreatDoor
open Go.ChangeShapes Go.WideShapes Go.ChangeAt Go.RowKit E

set_option maxRecDepth 100000 in
theorem lifted_laid {os : Os} (started : os.Started) {H : Type} {enc : TypeId × Value → H} {f : FuncId} {fn : Func} {s : ChangeSpec} (lay : List (String × DataW Unit)) (lay_of : ∀ {W : World}, laidMetH Tryz.prog lay W → (∀ (b o : Nat) (c : Value), laidC b o = some c → W.cell? ⟨b, o, none⟩ = some c) ∧
  ∀ (b : Nat) (c : Value), laidC b 0 = some c → ∃ cs ty fz, W.heap[b]? = some (.cells cs ty fz) ∧ cs.size = laidN b) (conds : List PathCond) (noInit : Tryz.prog.inits.idxOf? f = none) (hfn : Tryz.prog.funcs[f]? = some fn)
  (witness : ∃ (w : World) (tape : Tape) (i : Input), w.os = os ∧ (w.forCall tape i).Shaped Tryz.prog ∧ i.vars = [] ∧ Input.okWide Tryz.prog (w.forCall tape i) .any w.heap.size f i ∧
   ((s.pre enc Tryz.prog fn conds false (w.forCall tape i).memory i.args ∧ laidMetH Tryz.prog lay (w.forCall tape i).memory) ∧ sizedMet enc Tryz.prog fn (OpenSpec.ofChange s) false (w.forCall tape i).memory i.args) ∧ ({} : Assume).holds Tryz.prog (lone (Frame.enter Tryz.prog f i.args .normal) [] (w.forCall tape i)))
  (hvars : s.vars = []) (hargs : ∀ ds : List (DataW H), ds.length = fn.params.size → (s.fn H ds).args = ds ∧ (s.fn H ds).vars = [] ∧ (s.fn H ds).results = [.lit (.bool true)]) (tb : TypeId) (hrt : fn.resultTypes = #[tb]) (htb : Tryz.prog.underlying tb = some .bool)
  (l : List TypeId) (hC : okC Tryz.prog l = true) (hok : (fn.params.toList.all fun t => l.contains t) = true) (hrd : (fn.params.toList.all fun t => Tryz.prog.readableRec t && decide (t < Tryz.prog.types.size)) = true)
  (h : ∀ xs, ShA Tryz.prog fn.params.toList xs → Pure Tryz.prog f (argVs Tryz.prog fn.params.toList xs) (.t (.bool true))) :
  ReturnsInHanded {} Tryz.checked os f .any (fun w args => (s.pre enc Tryz.prog fn conds false w args ∧ laidMetH Tryz.prog lay w) ∧ sizedMet enc Tryz.prog fn (OpenSpec.ofChange s) false w args) (s.post enc Tryz.prog fn false true false false) := by
 refine returnsInHanded_of_change_and (C := Tryz.checked) (X := fun w _ => laidMetH Tryz.prog lay w) (fun _ _ _ hh h => h.of_heap hh) Tryz.own started noInit hfn witness ?_
 intro W base args ds gs before hval0 hW hcnd _ hL _
 have hval : ∀ (j : Nat) t v, fn.params[j]? = some t → args[j]? = some v → Value.okWide Tryz.prog W .any base t v := hval0
 have hW' := hW
 obtain ⟨p, q, hA0, hV, rfl, hfz, hnd⟩ := hW
 have hA : DataW.TrodAll enc Tryz.prog W 0 (fun _ => true) true fn.params.toList args.toList ds p := hA0
 rw [hvars] at hV
 obtain ⟨rfl, rfl⟩ := trodVars_none hV
 simp only [List.append_nil] at hW'
 rw [List.all_eq_true] at hok hrd
 obtain ⟨hlay, hlsz⟩ := lay_of hL
 let g : Gh := ⟨Ic W, [], [], W.heap.size, [], fun _ => 0⟩
 have hI0 : Inv g St0 W :=
  ⟨fun b o c h => h, rfl, fun i j blk hi => by simp [g] at hi, fun i blk bx hi => by simp [g] at hi, fun i blk bx hi => by simp [g] at hi, fun i blk hi => by simp [g] at hi, rfl, fun k n blk e z cap hk => by simp [g] at hk, fun k n hk => by simp [g] at hk, fun k l x y hk => by simp [g] at hk,
   Nat.le_refl _, fun i blk hi => by simp [g] at hi, hlay, hlsz⟩
 obtain ⟨xs, hsh, hl, hrel⟩ := args_of hC g rfl hok (fun j t v a b => hval j t v (Array.getElem?_toList.symm.trans a) (Array.getElem?_toList.symm.trans b)) hA
 refine (pure_ends (h xs hsh) g W hI0 rfl rfl args ((Array.length_toList (xs := args)).symm.trans hl) (fun j hj => by rw [← arr_getD]; exact hrel j hj)).mono fun e W' ⟨he, hB⟩ => ?_
 subst he
 have hdl := trodAll_len hA
 obtain ⟨hf1, hf2, hf3⟩ := hargs (ds ++ []) (by simpa using hdl)
 rw [List.append_nil] at hf1 hf2 hf3
 refine ⟨_, rfl, ds, [], p, [], p, [], hW', ?_, ?_, ?_, hB.frame _, fun h => by cases h⟩
 ·rw [List.append_nil, hf3, hrt]
  exact trodAll_mk1 (shut_bool htb true)
 ·rw [List.append_nil, hf1]
  exact trodAll_below Tryz.laidOut hB (fun t ht => by have := hrd t ht; simpa using this) (fun x hx => hW'.lt x hx) hA
 ·rw [List.append_nil, hf2, hvars]
  rfl
end Go.Proofs.YtpggidmbnjfmaaaGreatDoor
