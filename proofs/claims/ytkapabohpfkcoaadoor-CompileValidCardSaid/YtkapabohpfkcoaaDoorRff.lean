/- Walks of chapter 34's reference: Fold. -/
import Derived.Test.YtkapabohpfkcoaaDoorRfe
set_option linter.unusedSimpArgs false
set_option linter.unusedVariables false
set_option maxHeartbeats 4000000
set_option maxRecDepth 8000
namespace Go.Proofs.YtkapabohpfkcoaaDoor
open E

/-- Whether the last j instructions are pushes. -/
def pushB (o : List Ins) (j : Nat) : Bool := (o.reverse.take j).all fun y => y.op == 1
theorem pushB_succ {o : List Ins} {j : Nat} (h : j < o.length) (h2 : o.length - 1 - j < o.length) : pushB o (j + 1) = (pushB o j && (o[o.length - 1 - j].op == 1)) := by
  unfold pushB
  have hx : o.reverse[j]? = some o[o.length - 1 - j] := by
    rw [List.getElem?_reverse h, List.getElem?_eq_getElem h2]
  rw [take_next hx, List.all_append]
  simp
theorem pushB_mono {o : List Ins} {j t : Nat} (h : j ≤ t) (hf : pushB o j = false) : pushB o t = false := by
  unfold pushB at *
  rw [List.all_eq_false] at *
  obtain ⟨x, hx, h1⟩ := hf
  exact ⟨x, (List.take_subset_take_left _ h) hx, h1⟩
theorem pushB_any {o : List Ins} {t : Nat} (h : t ≤ o.length) : ((o.drop (o.length - t)).any fun y => y.op != 1) = !pushB o t := by
  unfold pushB
  have : o.reverse.take t = (o.drop (o.length - t)).reverse := by
    rw [List.take_reverse]
  rw [this, List.all_reverse, List.any_eq_not_all_not]
  congr 1
  congr 1
  funext y
  simp [bne]

theorem opC_share (a x y : Int) : (opC 7 a x y).2 = false := by
  unfold opC opG
  cases amtB x
  · rfl
  cases amtB y
  · rfl
  · simp
theorem w_rfold (c : Code) (hlen : c.ins.length ≤ 1000) (hv : (meaR c).2 = true) : Pure Tryd.prog 32 [c.v] (⟨c.name, c.pair, foldC c.ins⟩ : Code).v := by
  have hops : ∀ (k : Nat) (x : Ins), c.ins[k]? = some x → 1 ≤ x.op ∧ x.op ≤ 26 := fun k x hx => mea_ops hv hx
  obtain ⟨cn, pair, ins⟩ := c
  simp only [] at hlen hops
  clear hv
  (refine Pure.of_code mix Tryd.call32 k_32 (by simp) (fun hB => ?_); (try simp at hB); (try simp -implicitDefEqProofs [c_tallystoneref34_Fold_32]))
  refine loop_grow [(.cell 2 2, 103, 3)] (X := Nat × List Nat) (fun X => X.1 ≤ ins.length) (fun X => [(1, .ptr 0 0), (2, .ptr 1 0), (3, .ptr 2 0), (4, vI X.1)])
    (fun X => ⟨[.cells [vS cn, vB pair, Ins.l ins], .cells [vS [], vB false, .snil], .cells [vS cn, vB pair, .own X.2.length 103 3 ((foldC (ins.take X.1)).map Ins.c)]], X.2 ++ [(foldC (ins.take X.1)).length]⟩) (fun X => ins.length - X.1) (0, []) (by simp) (by simp [foldC]) ?_
  rintro ⟨k, τ⟩ hk hbd
  simp only [] at hk
  clear hbd
  have hfl := foldC_length (ins.take k)
  rw [List.length_take, Nat.min_eq_left hk] at hfl
  have tg : ∀ (a : Nat), (τ ++ [a])[τ.length]? = some a := fun a => by simp
  have ts : ∀ (a b : Nat), (τ ++ [a]).set τ.length b = τ ++ [b] := fun a b => by simp
  rcases Nat.lt_or_ge k ins.length with h | h
  · have hx : ins[k]? = some ins[k] := by simp [h]
    obtain ⟨o1, o2⟩ := hops k _ hx
    obtain ⟨n, hn⟩ : ∃ n : Nat, ins[k].op = n := ⟨ins[k].op.toNat, by omega⟩
    have hn26 : n ≤ 26 := by omega
    obtain ⟨q1, q2, q3⟩ := tak_tab hn26
    have hpk := pt_tk hn26
    have htak : Pure Tryd.prog 67 [vI n] (.tup [vI (tk n), vI (pt n)]) := by rw [← q1, ← q2]; exact w_rtak n
    have e3 : IntKind.i64.wrap ((k : Int) + 1) = (k : Int) + 1 := wrap64 (by omega) (by omega)
    have htk : foldC (ins.take (k + 1)) = foldStep (foldC (ins.take k)) ins[k] := by rw [take_next hx, foldC_snoc]
    generalize foldC (ins.take k) = o at *
    obtain ⟨t, ht⟩ : ∃ t : Nat, tk n = t := ⟨(tk n).toNat, by omega⟩
    obtain ⟨pu, hp⟩ : ∃ pu : Nat, pt n = pu := ⟨(pt n).toNat, by omega⟩
    rw [ht, hp] at htak
    rw [ht, hp] at hpk
    by_cases hc : 0 < t ∧ 0 < pu ∧ n ≠ 7 ∧ t ≤ o.length
    rotate_left
    · have hst : foldStep o ins[k] = o ++ [ins[k]] := by
        unfold foldStep
        simp only []
        rw [hn, ht, hp]
        by_cases c0 : (pu : Int) = 0 ∨ (t : Int).toNat = 0 ∨ o.length < (t : Int).toNat
        · rw [if_pos c0]
        · rw [if_neg c0]
          have h7 : n = 7 := by
            simp only [Int.toNat_natCast] at c0
            omega
          subst h7
          split
          · rfl
          · rename_i a b hab
            have : (opC ((7 : Nat) : Int) ins[k].a a b).2 = false := opC_share _ _ _
            rw [this]; simp
      have lr : ∀ l : List Nat, LeNs l l := fun l => by induction l <;> simp_all [LeNs]
      have hm : (foldStep o ins[k]).map Ins.c = o.map Ins.c ++ [[.int .i64 n, .int .i64 ins[k].a, .int .i64 ins[k].b]] := by rw [hst]; simp [hn]
      have hcI : ¬ ((0 : Int) < t ∧ (0 : Int) < pu ∧ ((n : Int) != 7) = true ∧ (t : Int) ≤ o.length) := by
        rintro ⟨c1, c2, c3, c4⟩
        simp at c3
        exact hc ⟨by omega, by omega, by omega, by omega⟩
      ((try simp at htak); (try simp -implicitDefEqProofs [h, hn, tg, ts]); repeat' first | (with_reducible refine gdK_em (fun hc => ?_) (fun hc => ?_) <;> (have hc' := hc; (try simp at hc'); simp -implicitDefEqProofs [hc, hc', h, hn, tg, ts])) | (with_reducible refine cdK_em (fun hc => ?_) (fun hc => ?_) <;> (have hc' := hc; (try simp at hc'); simp -implicitDefEqProofs [hc, hc', h, hn, tg, ts])) | (with_reducible refine pickK_em (fun hc => ?_) (fun hc => ?_) <;> (have hc' := hc; (try simp at hc'); simp -implicitDefEqProofs [hc, hc', h, hn, tg, ts])) | (with_reducible apply callK_pure <;> first | (simp only [eras, era, eras_map]; first | with_reducible exact htak | simpa using htak) | (simp -implicitDefEqProofs [h, hn, tg, ts])))
      all_goals first
        | (exfalso; refine hcI ⟨?_, ?_, ?_, ?_⟩ <;> simp_all <;> done)
        | (refine loop_rule (X := Unit) (fun _ => True) (fun _ => [(1, .ptr 0 0), (2, .ptr 1 0), (3, .ptr 2 0), (4, vI k), (5, .ptr 3 0), (6, vI t), (7, vI pu), (8, vI o.length), (9, vB false), (10, vI 0)])
            (fun _ => ⟨[.cells [vS cn, vB pair, Ins.l ins], .cells [vS [], vB false, .snil], .cells [vS cn, vB pair, .own τ.length 103 3 (o.map Ins.c)], .cells [vI n, vI ins[k].a, vI ins[k].b]], τ ++ [o.length]⟩) (fun _ => 0) () trivial ?hs ?_
           case hs => (simp [lr]; try (first | omega | (simp_all; done) | (simp_all; omega)))
           rintro ⟨⟩ _ _
           ((try simp at htak); (try simp -implicitDefEqProofs [h, hn, tg, ts, e3]); repeat' first | (with_reducible refine gdK_em (fun hc => ?_) (fun hc => ?_) <;> (have hc' := hc; (try simp at hc'); simp -implicitDefEqProofs [hc, hc', h, hn, tg, ts, e3])) | (with_reducible refine cdK_em (fun hc => ?_) (fun hc => ?_) <;> (have hc' := hc; (try simp at hc'); simp -implicitDefEqProofs [hc, hc', h, hn, tg, ts, e3])) | (with_reducible refine pickK_em (fun hc => ?_) (fun hc => ?_) <;> (have hc' := hc; (try simp at hc'); simp -implicitDefEqProofs [hc, hc', h, hn, tg, ts, e3])) | (with_reducible apply callK_pure <;> first | (simp only [eras, era, eras_map]; first | with_reducible exact htak | simpa using htak) | (simp -implicitDefEqProofs [h, hn, tg, ts, e3])))
           all_goals exact ⟨⟨by unfold maxLen; omega, by omega⟩, k + 1, by omega, by omega, ⟨τ, by rw [htk, hm]; exact .inl rfl, by rw [htk, hst, List.length_append]; exact lr _⟩, by push_cast; rfl⟩)
    obtain ⟨c1, c2, c3, c4⟩ := hc
    have lr : ∀ l : List Nat, LeNs l l := fun l => by induction l <;> simp_all [LeNs]
    have d1 : (0 : Int) < t := by omega
    have d2 : (0 : Int) < pu := by omega
    have d3 : ((n : Int) == 7) = false := by simp; omega
    have d4 : (t : Int) ≤ o.length := by omega
    have e6 : IntKind.i64.wrap ((o.length : Int) - 1) = (o.length : Int) - 1 := wrap64 (by omega) (by omega)
    ((try simp at htak); (try simp -implicitDefEqProofs [h, hn, tg, ts, c1, c2, d1, d2, d3, d4, bne]); repeat' first | (with_reducible refine gdK_em (fun hc => ?_) (fun hc => ?_) <;> (have hc' := hc; (try simp at hc'); simp -implicitDefEqProofs [hc, hc', h, hn, tg, ts, c1, c2, d1, d2, d3, d4, bne])) | (with_reducible refine cdK_em (fun hc => ?_) (fun hc => ?_) <;> (have hc' := hc; (try simp at hc'); simp -implicitDefEqProofs [hc, hc', h, hn, tg, ts, c1, c2, d1, d2, d3, d4, bne])) | (with_reducible refine pickK_em (fun hc => ?_) (fun hc => ?_) <;> (have hc' := hc; (try simp at hc'); simp -implicitDefEqProofs [hc, hc', h, hn, tg, ts, c1, c2, d1, d2, d3, d4, bne])) | (with_reducible apply callK_pure <;> first | (simp only [eras, era, eras_map]; first | with_reducible exact htak | simpa using htak) | (simp -implicitDefEqProofs [h, hn, tg, ts, c1, c2, d1, d2, d3, d4, bne])))
    refine loop_rule (X := Nat) (fun j => j ≤ t) (fun j => [(1, .ptr 0 0), (2, .ptr 1 0), (3, .ptr 2 0), (4, vI k), (5, .ptr 3 0), (6, vI t), (7, vI pu), (8, vI o.length), (9, vB (pushB o j)), (10, vI j)])
      (fun _ => ⟨[.cells [vS cn, vB pair, Ins.l ins], .cells [vS [], vB false, .snil], .cells [vS cn, vB pair, .own τ.length 103 3 (o.map Ins.c)], .cells [vI n, vI ins[k].a, vI ins[k].b]], τ ++ [o.length]⟩) (fun j => t - j) 0 (by omega) ?hs ?_
    case hs => (simp [lr, pushB]; try (first | omega | (simp_all; done) | (simp_all; omega)))
    rintro j hj hbd
    clear hbd
    have hd2 : (((o.drop (o.length - t)).any fun y => y.op != 1)) = !pushB o t := pushB_any c4
    cases hpb : pushB o j
    · have hst : foldStep o ins[k] = o ++ [ins[k]] := by
        unfold foldStep argsF
        simp only []
        rw [hn, ht, hp]
        simp only [Int.toNat_natCast, hd2, pushB_mono hj hpb, Bool.not_false, if_true]
        split <;> rfl
      have hm : (foldStep o ins[k]).map Ins.c = o.map Ins.c ++ [[.int .i64 n, .int .i64 ins[k].a, .int .i64 ins[k].b]] := by rw [hst]; simp [hn]
      ((try simp at htak); (try simp -implicitDefEqProofs [h, hn, hpb, tg, ts, e3]); repeat' first | (with_reducible refine gdK_em (fun hc => ?_) (fun hc => ?_) <;> (have hc' := hc; (try simp at hc'); simp -implicitDefEqProofs [hc, hc', h, hn, hpb, tg, ts, e3])) | (with_reducible refine cdK_em (fun hc => ?_) (fun hc => ?_) <;> (have hc' := hc; (try simp at hc'); simp -implicitDefEqProofs [hc, hc', h, hn, hpb, tg, ts, e3])) | (with_reducible refine pickK_em (fun hc => ?_) (fun hc => ?_) <;> (have hc' := hc; (try simp at hc'); simp -implicitDefEqProofs [hc, hc', h, hn, hpb, tg, ts, e3])) | (with_reducible apply callK_pure <;> first | (simp only [eras, era, eras_map]; first | with_reducible exact htak | simpa using htak) | (simp -implicitDefEqProofs [h, hn, hpb, tg, ts, e3])))
      all_goals exact ⟨⟨by unfold maxLen; omega, by omega⟩, k + 1, by omega, by omega, ⟨τ, by rw [htk, hm]; exact .inl rfl, by rw [htk, hst, List.length_append]; exact lr _⟩, by push_cast; rfl⟩
    · rcases Nat.lt_or_ge j t with hjt | hjt
      · have hq : o.length - 1 - j < o.length := by omega
        have hps := pushB_succ (o := o) (j := j) (by omega) hq
        have e7 : IntKind.i64.wrap ((o.length : Int) - 1 - j) = ((o.length - 1 - j : Nat) : Int) := by rw [wrap64 (by omega) (by omega)]; omega
        have e8 : IntKind.i64.wrap ((j : Int) + 1) = (j : Int) + 1 := wrap64 (by omega) (by omega)
        generalize hqq : o.length - 1 - j = q at *
        ((try simp at htak); (try simp -implicitDefEqProofs [h, hn, hpb, hjt, hq, e6, e7, e8, tg, ts, e3]); repeat' first | (with_reducible refine gdK_em (fun hc => ?_) (fun hc => ?_) <;> (have hc' := hc; (try simp at hc'); simp -implicitDefEqProofs [hc, hc', h, hn, hpb, hjt, hq, e6, e7, e8, tg, ts, e3])) | (with_reducible refine cdK_em (fun hc => ?_) (fun hc => ?_) <;> (have hc' := hc; (try simp at hc'); simp -implicitDefEqProofs [hc, hc', h, hn, hpb, hjt, hq, e6, e7, e8, tg, ts, e3])) | (with_reducible refine pickK_em (fun hc => ?_) (fun hc => ?_) <;> (have hc' := hc; (try simp at hc'); simp -implicitDefEqProofs [hc, hc', h, hn, hpb, hjt, hq, e6, e7, e8, tg, ts, e3])) | (with_reducible apply callK_pure <;> first | (simp only [eras, era, eras_map]; first | with_reducible exact htak | simpa using htak) | (simp -implicitDefEqProofs [h, hn, hpb, hjt, hq, e6, e7, e8, tg, ts, e3])))
        exact ⟨j + 1, by omega, by omega, lr _, by rw [hps, hpb]; simp, by push_cast; rfl⟩
      · have hjt' : j = t := by omega
        subst hjt'
        rw [hpb] at hd2
        obtain ⟨m, hmo⟩ : ∃ m, o.length - j = m := ⟨_, rfl⟩
        rw [hmo] at hd2
        have tg2 : ∀ (a b : Nat), (τ ++ [a, b])[τ.length + 1]? = some b := fun a b => by simp
        have ts2 : ∀ (a b c : Nat), (τ ++ [a, b]).set (τ.length + 1) c = τ ++ [a, c] := fun a b c => by simp
        rcases (by omega : j = 1 ∨ j = 2) with rfl | rfl
        · have hml : m < o.length := by omega
          have e9m : IntKind.i64.wrap ((o.length : Int) - 1) = (m : Int) := by rw [wrap64 (by omega) (by omega)]; omega
          obtain ⟨rv, rb, hrr⟩ : ∃ rv rb, opC n ins[k].a (o[m]'(by omega)).a 0 = (rv, rb) := ⟨_, _, rfl⟩
          have hop := w_rop n ins[k].a (o[m]'(by omega)).a 0
          rw [← op_eq, hrr] at hop
          simp only [vO] at hop
          have hst : foldStep o ins[k] = if rb = true then o.take m ++ [⟨1, rv, 0⟩] else o ++ [ins[k]] := by
            unfold foldStep argsF
            simp only []
            rw [hn, ht, hp]
            simp only [Int.toNat_natCast, hmo, hd2]
            rw [if_neg (by omega)]
            simp [hml, hrr]
          cases rb
          · have hm : (foldStep o ins[k]).map Ins.c = o.map Ins.c ++ [[.int .i64 n, .int .i64 ins[k].a, .int .i64 ins[k].b]] := by rw [hst]; simp [hn]
            have hst' : foldStep o ins[k] = o ++ [ins[k]] := by rw [hst]; simp
            ((try simp at htak); (try simp at hop); (try simp -implicitDefEqProofs [h, hn, hpb, e9m, hml, tg, ts, tg2, ts2, e3]); repeat' first | (with_reducible refine gdK_em (fun hc => ?_) (fun hc => ?_) <;> (have hc' := hc; (try simp at hc'); simp -implicitDefEqProofs [hc, hc', h, hn, hpb, e9m, hml, tg, ts, tg2, ts2, e3])) | (with_reducible refine cdK_em (fun hc => ?_) (fun hc => ?_) <;> (have hc' := hc; (try simp at hc'); simp -implicitDefEqProofs [hc, hc', h, hn, hpb, e9m, hml, tg, ts, tg2, ts2, e3])) | (with_reducible refine pickK_em (fun hc => ?_) (fun hc => ?_) <;> (have hc' := hc; (try simp at hc'); simp -implicitDefEqProofs [hc, hc', h, hn, hpb, e9m, hml, tg, ts, tg2, ts2, e3])) | (with_reducible apply callK_pure <;> first | (simp only [eras, era, eras_map]; first | with_reducible exact htak | simpa using htak) | (simp -implicitDefEqProofs [h, hn, hpb, e9m, hml, tg, ts, tg2, ts2, e3])) | (with_reducible apply callK_pure <;> first | (simp only [eras, era, eras_map]; first | with_reducible exact hop | simpa using hop) | (simp -implicitDefEqProofs [h, hn, hpb, e9m, hml, tg, ts, tg2, ts2, e3])))
            exact ⟨⟨by unfold maxLen; omega, by omega⟩, k + 1, by omega, by omega, ⟨τ, by rw [htk, hm]; exact .inl rfl, by rw [htk, hst', List.length_append]; exact lr _⟩, by push_cast; rfl⟩
          · have hm : (foldStep o ins[k]).map Ins.c = (o.map Ins.c).take m ++ [[.int .i64 1, .int .i64 rv, .int .i64 0]] := by rw [hst]; simp
            have hll : (foldStep o ins[k]).length = m + 1 := by rw [hst, if_pos rfl, List.length_append, List.length_take]; simp; omega
            have hmin : min m o.length = m := by omega
            ((try simp at htak); (try simp at hop); (try simp -implicitDefEqProofs [h, hn, hpb, e9m, hml, tg, ts, tg2, ts2, e3]); repeat' first | (with_reducible refine gdK_em (fun hc => ?_) (fun hc => ?_) <;> (have hc' := hc; (try simp at hc'); simp -implicitDefEqProofs [hc, hc', h, hn, hpb, e9m, hml, tg, ts, tg2, ts2, e3])) | (with_reducible refine cdK_em (fun hc => ?_) (fun hc => ?_) <;> (have hc' := hc; (try simp at hc'); simp -implicitDefEqProofs [hc, hc', h, hn, hpb, e9m, hml, tg, ts, tg2, ts2, e3])) | (with_reducible refine pickK_em (fun hc => ?_) (fun hc => ?_) <;> (have hc' := hc; (try simp at hc'); simp -implicitDefEqProofs [hc, hc', h, hn, hpb, e9m, hml, tg, ts, tg2, ts2, e3])) | (with_reducible apply callK_pure <;> first | (simp only [eras, era, eras_map]; first | with_reducible exact htak | simpa using htak) | (simp -implicitDefEqProofs [h, hn, hpb, e9m, hml, tg, ts, tg2, ts2, e3])) | (with_reducible apply callK_pure <;> first | (simp only [eras, era, eras_map]; first | with_reducible exact hop | simpa using hop) | (simp -implicitDefEqProofs [h, hn, hpb, e9m, hml, tg, ts, tg2, ts2, e3])))
            refine ⟨by omega, fun y hy => ?_, ?_⟩
            · obtain ⟨z, _, rfl⟩ := List.mem_map.1 (List.mem_of_mem_take hy)
              rfl
            split
            · rename_i h0
              have hm0 : m = 0 := by
                rcases h0 with h0 | h0
                · exact h0
                · rw [h0] at hml; simp at hml
              subst hm0
              refine ⟨by simp [maxLen], k + 1, by omega, by omega, ⟨τ ++ [o.length], ?_, ?_⟩, by push_cast; rfl⟩
              · rw [htk, hm, List.length_append]; exact .inl rfl
              · rw [htk, hll, List.append_assoc]; exact lr _
            · refine ⟨⟨by unfold maxLen; omega, by omega⟩, ⟨by unfold maxLen; omega, by omega⟩, k + 1, by omega, by omega, ⟨τ ++ [o.length], ?_, ?_⟩, by push_cast; rfl⟩
              · rw [htk, hm, List.length_append]; exact .inl rfl
              · rw [htk, hll, List.append_assoc, hmin]; exact lr _
        · have hml : m < o.length := by omega
          have e9m : IntKind.i64.wrap ((o.length : Int) - 2) = (m : Int) := by rw [wrap64 (by omega) (by omega)]; omega
          have e9 : IntKind.i64.wrap ((o.length : Int) - 1) = (m : Int) + 1 := by rw [wrap64 (by omega) (by omega)]; omega
          have hm1 : m + 1 < o.length := by omega
          have e10 : (m : Int) + 1 < o.length := by omega
          have e11 : (0 : Int) ≤ (m : Int) + 1 := by omega
          have e12 : ((m : Int) + 1).toNat = m + 1 := by omega
          obtain ⟨rv, rb, hrr⟩ : ∃ rv rb, opC n ins[k].a (o[m]'(by omega)).a (o[m + 1]'(by omega)).a = (rv, rb) := ⟨_, _, rfl⟩
          have hop := w_rop n ins[k].a (o[m]'(by omega)).a (o[m + 1]'(by omega)).a
          rw [← op_eq, hrr] at hop
          simp only [vO] at hop
          have hst : foldStep o ins[k] = if rb = true then o.take m ++ [⟨1, rv, 0⟩] else o ++ [ins[k]] := by
            unfold foldStep argsF
            simp only []
            rw [hn, ht, hp]
            simp only [Int.toNat_natCast, hmo, hd2]
            rw [if_neg (by omega)]
            simp [hml, hm1, hrr]
          cases rb
          · have hm : (foldStep o ins[k]).map Ins.c = o.map Ins.c ++ [[.int .i64 n, .int .i64 ins[k].a, .int .i64 ins[k].b]] := by rw [hst]; simp [hn]
            have hst' : foldStep o ins[k] = o ++ [ins[k]] := by rw [hst]; simp
            ((try simp at htak); (try simp at hop); (try simp -implicitDefEqProofs [h, hn, hpb, e9m, hml, tg, ts, tg2, ts2, e3, e9, e10, e11, e12, hm1]); repeat' first | (with_reducible refine gdK_em (fun hc => ?_) (fun hc => ?_) <;> (have hc' := hc; (try simp at hc'); simp -implicitDefEqProofs [hc, hc', h, hn, hpb, e9m, hml, tg, ts, tg2, ts2, e3, e9, e10, e11, e12, hm1])) | (with_reducible refine cdK_em (fun hc => ?_) (fun hc => ?_) <;> (have hc' := hc; (try simp at hc'); simp -implicitDefEqProofs [hc, hc', h, hn, hpb, e9m, hml, tg, ts, tg2, ts2, e3, e9, e10, e11, e12, hm1])) | (with_reducible refine pickK_em (fun hc => ?_) (fun hc => ?_) <;> (have hc' := hc; (try simp at hc'); simp -implicitDefEqProofs [hc, hc', h, hn, hpb, e9m, hml, tg, ts, tg2, ts2, e3, e9, e10, e11, e12, hm1])) | (with_reducible apply callK_pure <;> first | (simp only [eras, era, eras_map]; first | with_reducible exact htak | simpa using htak) | (simp -implicitDefEqProofs [h, hn, hpb, e9m, hml, tg, ts, tg2, ts2, e3, e9, e10, e11, e12, hm1])) | (with_reducible apply callK_pure <;> first | (simp only [eras, era, eras_map]; first | with_reducible exact hop | simpa using hop) | (simp -implicitDefEqProofs [h, hn, hpb, e9m, hml, tg, ts, tg2, ts2, e3, e9, e10, e11, e12, hm1])))
            exact ⟨⟨by unfold maxLen; omega, by omega⟩, k + 1, by omega, by omega, ⟨τ, by rw [htk, hm]; exact .inl rfl, by rw [htk, hst', List.length_append]; exact lr _⟩, by push_cast; rfl⟩
          · have hm : (foldStep o ins[k]).map Ins.c = (o.map Ins.c).take m ++ [[.int .i64 1, .int .i64 rv, .int .i64 0]] := by rw [hst]; simp
            have hll : (foldStep o ins[k]).length = m + 1 := by rw [hst, if_pos rfl, List.length_append, List.length_take]; simp; omega
            have hmin : min m o.length = m := by omega
            ((try simp at htak); (try simp at hop); (try simp -implicitDefEqProofs [h, hn, hpb, e9m, hml, tg, ts, tg2, ts2, e3, e9, e10, e11, e12, hm1]); repeat' first | (with_reducible refine gdK_em (fun hc => ?_) (fun hc => ?_) <;> (have hc' := hc; (try simp at hc'); simp -implicitDefEqProofs [hc, hc', h, hn, hpb, e9m, hml, tg, ts, tg2, ts2, e3, e9, e10, e11, e12, hm1])) | (with_reducible refine cdK_em (fun hc => ?_) (fun hc => ?_) <;> (have hc' := hc; (try simp at hc'); simp -implicitDefEqProofs [hc, hc', h, hn, hpb, e9m, hml, tg, ts, tg2, ts2, e3, e9, e10, e11, e12, hm1])) | (with_reducible refine pickK_em (fun hc => ?_) (fun hc => ?_) <;> (have hc' := hc; (try simp at hc'); simp -implicitDefEqProofs [hc, hc', h, hn, hpb, e9m, hml, tg, ts, tg2, ts2, e3, e9, e10, e11, e12, hm1])) | (with_reducible apply callK_pure <;> first | (simp only [eras, era, eras_map]; first | with_reducible exact htak | simpa using htak) | (simp -implicitDefEqProofs [h, hn, hpb, e9m, hml, tg, ts, tg2, ts2, e3, e9, e10, e11, e12, hm1])) | (with_reducible apply callK_pure <;> first | (simp only [eras, era, eras_map]; first | with_reducible exact hop | simpa using hop) | (simp -implicitDefEqProofs [h, hn, hpb, e9m, hml, tg, ts, tg2, ts2, e3, e9, e10, e11, e12, hm1])))
            refine ⟨by omega, fun y hy => ?_, ?_⟩
            · obtain ⟨z, _, rfl⟩ := List.mem_map.1 (List.mem_of_mem_take hy)
              rfl
            split
            · rename_i h0
              have hm0 : m = 0 := by
                rcases h0 with h0 | h0
                · exact h0
                · rw [h0] at hml; simp at hml
              subst hm0
              refine ⟨by simp [maxLen], k + 1, by omega, by omega, ⟨τ ++ [o.length], ?_, ?_⟩, by push_cast; rfl⟩
              · rw [htk, hm, List.length_append]; exact .inl rfl
              · rw [htk, hll, List.append_assoc]; exact lr _
            · refine ⟨⟨by unfold maxLen; omega, by omega⟩, ⟨by unfold maxLen; omega, by omega⟩, k + 1, by omega, by omega, ⟨τ ++ [o.length], ?_, ?_⟩, by push_cast; rfl⟩
              · rw [htk, hm, List.length_append]; exact .inl rfl
              · rw [htk, hll, List.append_assoc, hmin]; exact lr _
  · have hke : k = ins.length := by omega
    subst hke
    rw [List.take_length] at *
    ((try simp -implicitDefEqProofs [tg, ts]); repeat' first | (with_reducible refine gdK_em (fun hc => ?_) (fun hc => ?_) <;> (have hc' := hc; (try simp at hc'); simp -implicitDefEqProofs [hc, hc', tg, ts])) | (with_reducible refine cdK_em (fun hc => ?_) (fun hc => ?_) <;> (have hc' := hc; (try simp at hc'); simp -implicitDefEqProofs [hc, hc', tg, ts])) | (with_reducible refine pickK_em (fun hc => ?_) (fun hc => ?_) <;> (have hc' := hc; (try simp at hc'); simp -implicitDefEqProofs [hc, hc', tg, ts])))
end Go.Proofs.YtkapabohpfkcoaaDoor
