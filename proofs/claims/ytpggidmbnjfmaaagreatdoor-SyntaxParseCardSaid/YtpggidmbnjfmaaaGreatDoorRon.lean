/- Rows of laws over one text. -/
import Derived.Test.YtpggidmbnjfmaaaGreatDoorLay4
set_option linter.unusedSimpArgs false
set_option linter.unusedVariables false
namespace Go.Proofs.YtpggidmbnjfmaaaGreatDoor
open Go.ChangeShapes Go.WideShapes Go.ChangeAt Go.RowKit E

theorem str_at1 {H : Type} {enc : TypeId × Value → H} {P : Program} {w : World} {base : Nat} {t : TypeId} {v : Value} {d : DataW H} {ps : List MemPlace} (hu : P.underlying t = some .string) (hv : Value.okWide P w .any base t v)
  (h : DataW.Trod enc P w 0 (fun _ => true) true t v d ps) : ∃ s : List UInt8, v = .string ⟨s.toArray⟩ ∧ d = .lit (.string s) := by
 obtain ⟨b, rfl⟩ := Go.WideShapes.okWide_string hu hv
 obtain ⟨n, h⟩ := h
 obtain ⟨s, h1, h2, _⟩ := DataW.trod_string hu h
 have e : b = s := by
  have h1' : [Value.string b] = [.string s] := h1
  cases h1'; rfl
 subst e
 cases h2
 exact ⟨b.data.toList, by cases b; rfl, rfl⟩
set_option maxRecDepth 100000 in
theorem lifted_1s {os : Os} (started : os.Started) {H : Type} {enc : TypeId × Value → H} {f : FuncId} {fn : Func} {s : ChangeSpec} (lay : List (String × DataW Unit)) (lay_of : ∀ {W : World}, laidMetH Tryz.prog lay W → (∀ (b o : Nat) (c : Value), laidC b o = some c → W.cell? ⟨b, o, none⟩ = some c) ∧
  ∀ (b : Nat) (c : Value), laidC b 0 = some c → ∃ cs ty fz, W.heap[b]? = some (.cells cs ty fz) ∧ cs.size = laidN b) (conds : List PathCond) (noInit : Tryz.prog.inits.idxOf? f = none) (hfn : Tryz.prog.funcs[f]? = some fn)
  (witness : ∃ (w : World) (tape : Tape) (i : Input), w.os = os ∧ (w.forCall tape i).Shaped Tryz.prog ∧ i.vars = [] ∧ Input.okWide Tryz.prog (w.forCall tape i) .any w.heap.size f i ∧
   ((s.pre enc Tryz.prog fn conds false (w.forCall tape i).memory i.args ∧ laidMetH Tryz.prog lay (w.forCall tape i).memory) ∧ sizedMet enc Tryz.prog fn (OpenSpec.ofChange s) false (w.forCall tape i).memory i.args) ∧ ({} : Assume).holds Tryz.prog (lone (Frame.enter Tryz.prog f i.args .normal) [] (w.forCall tape i)))
  (hvars : s.vars = []) (hargs : ∀ ds : List (DataW H), ds.length = fn.params.size → (s.fn H ds).args = ds ∧ (s.fn H ds).vars = [] ∧ (s.fn H ds).results = [.lit (.bool true)]) (tb : TypeId) (hrt : fn.resultTypes = #[tb]) (htb : Tryz.prog.underlying tb = some .bool)
  (tS : TypeId) (hu : Tryz.prog.underlying tS = some .string) (hpar : fn.params = #[tS]) (hrd : (fn.params.toList.all fun t => Tryz.prog.readableRec t && decide (t < Tryz.prog.types.size)) = true)
  (h : ∀ a : List UInt8, a.length ≤ reachBytes → Pure Tryz.prog f [.t (.str a)] (.t (.bool true))) :
  ReturnsInHanded {} Tryz.checked os f .any (fun w args => (s.pre enc Tryz.prog fn conds false w args ∧ laidMetH Tryz.prog lay w) ∧ sizedMet enc Tryz.prog fn (OpenSpec.ofChange s) false w args) (s.post enc Tryz.prog fn false true false false) := by
 refine returnsInHanded_of_change_and (C := Tryz.checked) (X := fun w _ => laidMetH Tryz.prog lay w) (fun _ _ _ hh h => h.of_heap hh) Tryz.own started noInit hfn witness ?_
 intro W base args ds gs before hval0 hW hcnd hwt hL _
 have hval : ∀ (j : Nat) t v, fn.params[j]? = some t → args[j]? = some v → Value.okWide Tryz.prog W .any base t v := hval0
 have hW' := hW
 obtain ⟨p, q, hA0, hV, rfl, hfz, hnd⟩ := hW
 have hA : DataW.TrodAll enc Tryz.prog W 0 (fun _ => true) true fn.params.toList args.toList ds p := hA0
 rw [hvars] at hV
 obtain ⟨rfl, rfl⟩ := trodVars_none hV
 simp only [List.append_nil] at hW'
 rw [List.all_eq_true] at hrd
 obtain ⟨hlay, hlsz⟩ := lay_of hL
 let g : Gh := ⟨fun b o => W.cell? ⟨b, o, none⟩, [], [], W.heap.size, [], fun _ => 0⟩
 have hI0 : Inv g St0 W :=
  ⟨fun b o c h => h, rfl, fun i j blk hi => by simp [g] at hi, fun i blk bx hi => by simp [g] at hi, fun i blk bx hi => by simp [g] at hi, fun i blk hi => by simp [g] at hi, rfl, fun k n blk e z cap hk => by simp [g] at hk, fun k n hk => by simp [g] at hk, fun k l x y hk => by simp [g] at hk,
   Nat.le_refl _, fun i blk hi => by simp [g] at hi, hlay, hlsz⟩
 have hA2 := hA
 rw [hpar] at hA2
 obtain ⟨v, d, hargs2, hds2, t1⟩ := trodAll_one hA2
 obtain ⟨a, ha1, ha2⟩ := str_at1 hu (hval 0 tS v (by rw [hpar]; rfl) (by rw [hargs2]; rfl)) t1
 have hz : a.length ≤ reachBytes := by
  rw [hpar, hds2, ha2] at hwt
  simp only [List.cons_append, List.nil_append, DataW.weightsEach, DataW.weights, List.all_cons, Bool.and_eq_true, decide_eq_true_eq] at hwt
  exact hwt.1
 refine (pure_ends (h a hz) g W hI0 rfl rfl args (by rw [hargs2]; rfl) (fun j hj => by
  rw [hargs2, ha1]
  match j, hj with
  | 0, _ => exact .t _ _ (.str _))).mono fun e W' ⟨he, hB⟩ => ?_
 subst he
 have hdl := trodAll_len hA
 obtain ⟨hf1, hf2, hf3⟩ := hargs (ds ++ []) (by simpa using hdl)
 rw [List.append_nil] at hf1 hf2 hf3
 refine ⟨_, rfl, ds, [], p, [], p, [], hW', ?_, ?_, ?_, hB.frame _, fun h => by cases h⟩
 ·rw [List.append_nil, hf3, hrt]
  exact trodAll_mk1 (shut_bool htb true)
 ·rw [List.append_nil, hf1]
  exact trodAll_below Tryz.laidOut hB (fun t ht => by have := hrd t ht; simpa using this) (fun x hx => hW'.lt x hx) hA
 ·rw [List.append_nil, hf2, hvars]
  rfl
end Go.Proofs.YtpggidmbnjfmaaaGreatDoor
