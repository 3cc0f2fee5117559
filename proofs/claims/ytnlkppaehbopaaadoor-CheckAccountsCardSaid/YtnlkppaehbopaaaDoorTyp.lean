/- Chapter 33: check.settle. -/
import Derived.Test.YtnlkppaehbopaaaDoorExq
import Derived.Test.YtnlkppaehbopaaaDoorSyf
section
set_option linter.unusedSimpArgs false
set_option linter.unusedVariables false
set_option maxHeartbeats 4000000
set_option maxRecDepth 8000
namespace Go.Proofs.YtnlkppaehbopaaaDoor
open E

theorem w_settle0 (b : Nat) (B : List Bx) (hle : ∀ n m, B.length ≤ n → LeBs n m B B) : FnS Tryd.prog 25 [.ptr b 0, .t .nili] ⟨B, []⟩ (.tup []) ⟨B, []⟩ := by
  have h0 := hle B.length 0 (Nat.le_refl _)
  (refine FnS.of_code mix Tryd.call25 k_25 (by simp) (fun hB => ?_); (try simp at hB); (try simp -implicitDefEqProofs [c_check_settle_25]))
  ((try simp -implicitDefEqProofs [h0]); repeat' first | ((first | with_reducible refine gdK_em (fun hc => ?_) (fun hc => ?_) | with_reducible refine cdK_em (fun hc => ?_) (fun hc => ?_) | with_reducible refine pickK_em (fun hc => ?_) (fun hc => ?_)) <;> (have hc' := hc; (try simp at hc'); simp -implicitDefEqProofs [hc, hc', h0])))
theorem w_settle1 (b : Nat) (B : List Bx) (e0 e : Int) (hb : B[b]? = some (.cells [vI e0])) (hle : ∀ n m, B.length ≤ n → LeBs n m (B.set b (.cells [vI e])) (B.set b (.cells [vI e]))) : FnS Tryd.prog 25 [.ptr b 0, mistV e] ⟨B, []⟩ (.tup []) ⟨B.set b (.cells [vI e]), []⟩ := by
  have h0 := hle B.length 0 (Nat.le_refl _)
  unfold mistV
  (refine FnS.of_code mix Tryd.call25 k_25 (by simp) (fun hB => ?_); (try simp at hB); (try simp -implicitDefEqProofs [c_check_settle_25]))
  ((try simp -implicitDefEqProofs [h0, hb]); repeat' first | ((first | with_reducible refine gdK_em (fun hc => ?_) (fun hc => ?_) | with_reducible refine cdK_em (fun hc => ?_) (fun hc => ?_) | with_reducible refine pickK_em (fun hc => ?_) (fun hc => ?_)) <;> (have hc' := hc; (try simp at hc'); simp -implicitDefEqProofs [hc, hc', h0, hb])))
end Go.Proofs.YtnlkppaehbopaaaDoor
end

/- Chapter 33: check.Type (begun). -/
section
set_option linter.unusedSimpArgs false
set_option linter.unusedVariables false
set_option maxHeartbeats 4000000
set_option maxRecDepth 8000
namespace Go.Proofs.YtnlkppaehbopaaaDoor
open E

theorem aset_setOf_mem {α : Type} [DecidableEq α] {l : List α} {k : α} (h : k ∈ l) : aset (setOf l) k true = setOf l := by
  induction l with
  | nil => cases h
  | cons x l ih =>
    simp only [setOf, List.map_cons, aset] at ih ⊢
    by_cases hx : k = x
    · subst hx; rw [if_pos rfl]
    · rw [if_neg hx, ih ((List.mem_cons.1 h).resolve_left hx)]
def typB (x : Xp) : Bool := decide (x.dep ≤ 30) && x.prop
theorem w_TypeN (x : Xp) (names : List (List UInt8)) (pair : Bool) (hc : x.cnt ≤ 100000) (hv : prgB [⟨[114], false, [⟨2, 0, [], x⟩], 1⟩] = false) : Pure Tryd.prog 9 [x.v, vSL names, vB pair] (.tup [vI 0, vI 1]) := by
  have hval := w_Valid [⟨[114], false, [⟨2, 0, [], x⟩], 1⟩] (by intro r hr s hs; simp at hr; subst hr; simp at hs; subst hs; exact hc)
  rw [hv] at hval
  simp only [Rul.l, Rul.c, Stm.c, List.map] at hval
  have hlc := len_c x
  have htc := take_c x
  show FnS _ _ _ _ _ _
  (refine FnS.of_codeD mix Tryd.call9 kd_9 (by simp) (fun hB => ?_); (try simp at hB); (try simp -implicitDefEqProofs))
  ((try simp at hval); (try simp -implicitDefEqProofs [hlc, htc]); repeat' first | ((first | with_reducible refine gdK_em (fun hc => ?_) (fun hc => ?_) | with_reducible refine cdK_em (fun hc => ?_) (fun hc => ?_) | with_reducible refine pickK_em (fun hc => ?_) (fun hc => ?_)) <;> (have hc' := hc; (try simp at hc'); simp -implicitDefEqProofs [hc, hc', hlc, htc])) | (with_reducible apply callK_pure <;> first | (simp only [eras, era, eras_map]; first | with_reducible exact hval | simpa using hval) | (simp -implicitDefEqProofs [hlc, htc])))
theorem w_infErr (x : Xp) (pair : Bool) (q : List UInt8 → Bool) (he : (x.inf q pair).2 ≠ 0) : (x.inf q pair).1 = 0 := by
  obtain ⟨k, v, f, t, n, xs⟩ := x
  rw [Xp.inf] at he ⊢
  unfold finI at he ⊢
  (repeat' split) <;> simp_all
theorem w_TypeV (x : Xp) (names : List (List UInt8)) (pair : Bool) (hc : x.cnt ≤ 100000) (hv : prgB [⟨[114], false, [⟨2, 0, [], x⟩], 1⟩] = true) (hp : x.prop = true) (hn : names.length ≤ 20) : Pure Tryd.prog 9 [x.v, vSL names, vB pair] (.tup [vI (x.inf (fun s => decide (s ∈ names)) pair).1, vI (x.inf (fun s => decide (s ∈ names)) pair).2]) := by
  have hval := w_Valid [⟨[114], false, [⟨2, 0, [], x⟩], 1⟩] (by intro r hr s hs; simp at hr; subst hr; simp at hs; subst hs; exact hc)
  rw [hv] at hval
  simp only [Rul.l, Rul.c, Stm.c, List.map] at hval
  have hlc := len_c x
  have htc := take_c x
  generalize hR : V.tup [vI (x.inf (fun s => decide (s ∈ names)) pair).1, vI (x.inf (fun s => decide (s ∈ names)) pair).2] = R
  show FnS _ _ _ _ _ _
  (refine FnS.of_codeD mix Tryd.call9 kd_9 (by simp) (fun hB => ?_); (try simp at hB); (try simp -implicitDefEqProofs))
  ((try simp at hval); (try simp -implicitDefEqProofs [hlc, htc]); repeat' first | ((first | with_reducible refine gdK_em (fun hc => ?_) (fun hc => ?_) | with_reducible refine cdK_em (fun hc => ?_) (fun hc => ?_) | with_reducible refine pickK_em (fun hc => ?_) (fun hc => ?_)) <;> (have hc' := hc; (try simp at hc'); simp -implicitDefEqProofs [hc, hc', hlc, htc])) | (with_reducible apply callK_pure <;> first | (simp only [eras, era, eras_map]; first | with_reducible exact hval | simpa using hval) | (simp -implicitDefEqProofs [hlc, htc])))
  refine loop_rule (X := Nat × List (List UInt8)) (fun X => X.1 ≤ names.length ∧ (∀ y, y ∈ X.2 ↔ y ∈ names.take X.1) ∧ X.2.length ≤ X.1) (fun X => [(3, .ptr 0 0), (6, vI 0), (7, .ptr 1 0), (8, .ptr 3 0), (22, vSL names), (23, vI names.length), (24, vI X.1)])
    (fun X => ⟨[.cells (x.c.map V.t), .cells [vI 0], .mp (mS boolX (setOf X.2)), .cells [.mp 2, vB pair]], []⟩) (fun X => names.length - X.1) (0, []) ⟨by simp, by simp, by simp⟩ (by simp [setOf]) ?_
  rintro ⟨k, M⟩ ⟨hk, hm, hl⟩ hbd
  simp only [] at hk hm hl
  clear hbd
  rcases Nat.lt_or_ge k names.length with h | h
  · have hx : names[k]? = some names[k] := by simp [h]
    have e3 : IntKind.i64.wrap ((k : Int) + 1) = (k : Int) + 1 := wrap64 (by omega) (by omega)
    have hsm := setM_S boolX names[k] true (setOf M)
    have htk := take_next hx
    by_cases hin : names[k] ∈ M
    · rw [aset_setOf_mem hin] at hsm
      ((try simp -implicitDefEqProofs [h, e3, hsm]); repeat' first | ((first | with_reducible refine gdK_em (fun hc => ?_) (fun hc => ?_) | with_reducible refine cdK_em (fun hc => ?_) (fun hc => ?_) | with_reducible refine pickK_em (fun hc => ?_) (fun hc => ?_)) <;> (have hc' := hc; (try simp at hc'); simp -implicitDefEqProofs [hc, hc', h, e3, hsm])))
      exact ⟨by simp [maxLen]; omega, k + 1, M, ⟨by omega, fun y => by
        rw [htk, List.mem_append, ← hm y]
        constructor
        · exact .inl
        · rintro (h1 | h1)
          · exact h1
          · simp at h1; subst h1; exact hin, by omega⟩, by omega, ⟨rfl, okNs_all (fun v hv => by obtain ⟨p, _, rfl⟩ := List.mem_map.1 hv; rfl), okNs_all (fun v hv => by obtain ⟨p, _, rfl⟩ := List.mem_map.1 hv; rfl)⟩, by push_cast; rfl⟩
    · rw [aset_setOf hin] at hsm
      ((try simp -implicitDefEqProofs [h, e3, hsm]); repeat' first | ((first | with_reducible refine gdK_em (fun hc => ?_) (fun hc => ?_) | with_reducible refine cdK_em (fun hc => ?_) (fun hc => ?_) | with_reducible refine pickK_em (fun hc => ?_) (fun hc => ?_)) <;> (have hc' := hc; (try simp at hc'); simp -implicitDefEqProofs [hc, hc', h, e3, hsm])))
      exact ⟨by simp [maxLen]; omega, k + 1, M ++ [names[k]], ⟨by omega, fun y => by rw [htk, List.mem_append, List.mem_append, hm y], by simp; omega⟩, by omega, ⟨rfl, okNs_all (fun v hv => by obtain ⟨p, _, rfl⟩ := List.mem_map.1 hv; rfl), okNs_all (fun v hv => by obtain ⟨p, _, rfl⟩ := List.mem_map.1 hv; rfl)⟩, by push_cast; rfl⟩
  · have : k = names.length := by omega
    subst this
    rw [List.take_length] at hm
    have hMn : (fun s => decide (s ∈ M)) = (fun s => decide (s ∈ names)) := by funext s; simp [hm s]
    have hex := w_expr 2 M pair x hp
    have hH : Hlds 2 M [.cells (x.c.map V.t), .cells [vI 0], .mp (mS boolX (setOf M)), .cells [.mp 2, vB pair]] := ⟨rfl, fun n m hn => by
      simp only [List.length_cons, List.length_nil] at hn
      refine ⟨⟨LeL_refl _, ?_⟩, ⟨LeL_refl _, ?_⟩, ⟨rfl, ?_, ?_⟩, ⟨LeL_refl _, ?_⟩, trivial⟩
      · exact okNs_all (fun v hv => by obtain ⟨t, _, rfl⟩ := List.mem_map.1 hv; rfl)
      · simp [okNs, okN]
      · exact okNs_all (fun v hv => by obtain ⟨p, hp', rfl⟩ := List.mem_map.1 hv; obtain ⟨q, _, rfl⟩ := List.mem_map.1 hp'; rfl)
      · exact okNs_all (fun v hv => by obtain ⟨p, hp', rfl⟩ := List.mem_map.1 hv; obtain ⟨q, _, rfl⟩ := List.mem_map.1 hp'; rfl)
      · simp [okNs, okN]; omega⟩
    obtain ⟨x1, x2⟩ := hex _ hH
    rw [hMn] at x1 x2
    ((try simp -implicitDefEqProofs [hlc, htc]); repeat' first | ((first | with_reducible refine gdK_em (fun hc => ?_) (fun hc => ?_) | with_reducible refine cdK_em (fun hc => ?_) (fun hc => ?_) | with_reducible refine pickK_em (fun hc => ?_) (fun hc => ?_)) <;> (have hc' := hc; (try simp at hc'); simp -implicitDefEqProofs [hc, hc', hlc, htc])))
    by_cases he : (x.inf (fun s => decide (s ∈ names)) pair).2 = 0
    · refine callK_fn (x1 he) (fun hd => by cases hd) ?_
      ((try simp -implicitDefEqProofs [hlc, htc]); repeat' first | ((first | with_reducible refine gdK_em (fun hc => ?_) (fun hc => ?_) | with_reducible refine cdK_em (fun hc => ?_) (fun hc => ?_) | with_reducible refine pickK_em (fun hc => ?_) (fun hc => ?_)) <;> (have hc' := hc; (try simp at hc'); simp -implicitDefEqProofs [hc, hc', hlc, htc])))
      refine ⟨_, DefR.of_rec Tryd.call24 (by kernel_rfl) (w_settle0 1 _ hH.le), ?_⟩
      subst hR
      simp [he]
    · refine callK_pan (x2 he) ?_
      ((try simp -implicitDefEqProofs [hlc, htc]); repeat' first | ((first | with_reducible refine gdK_em (fun hc => ?_) (fun hc => ?_) | with_reducible refine cdK_em (fun hc => ?_) (fun hc => ?_) | with_reducible refine pickK_em (fun hc => ?_) (fun hc => ?_)) <;> (have hc' := hc; (try simp at hc'); simp -implicitDefEqProofs [hc, hc', hlc, htc])))
      refine ⟨_, DefP.of_rec Tryd.call24 (by kernel_rfl) (w_settle1 1 _ 0 _ rfl ?_), ?_⟩
      · intro n m hn
        have hq := hH.le n m (by simpa using hn)
        exact ⟨hq.1, ⟨LeL_refl _, by simp [okNs, okN]⟩, hq.2.2⟩
      · subst hR
        have h0 := w_infErr x pair (fun s => decide (s ∈ names)) he
        simp [h0]
end Go.Proofs.YtnlkppaehbopaaaDoor
end

/- Chapter 33: both Types. -/
section
set_option linter.unusedSimpArgs false
set_option linter.unusedVariables false
set_option maxHeartbeats 4000000
set_option maxRecDepth 8000
namespace Go.Proofs.YtnlkppaehbopaaaDoor
open E

theorem prg1 (c : UInt8) (x : Xp) (hc : nameB [c] = true) : prgB [⟨[c], false, [⟨2, 0, [], x⟩], 1⟩] = typB x := by
  simp [prgB, rulB, hc, acB, stmB, shdB, typB]
/-- The type and the error. -/
def typR (x : Xp) (q : List UInt8 → Bool) (pair : Bool) : Int × Int := if typB x = true then x.inf q pair else (0, 1)
theorem w_Type (x : Xp) (names : List (List UInt8)) (pair : Bool) (hc : x.cnt ≤ 100000) (hn : names.length ≤ 20) : Pure Tryd.prog 9 [x.v, vSL names, vB pair] (.tup [vI (typR x (fun s => decide (s ∈ names)) pair).1, vI (typR x (fun s => decide (s ∈ names)) pair).2]) := by
  have h1 := prg1 114 x (by decide)
  unfold typR
  cases ht : typB x
  · rw [if_neg (by simp)]
    exact w_TypeN x names pair hc (by rw [h1, ht])
  · rw [if_pos rfl]
    have hp : x.prop = true := by unfold typB at ht; rw [Bool.and_eq_true] at ht; exact ht.2
    exact w_TypeV x names pair hc (by rw [h1, ht]) hp hn
theorem w_TypeR (x : Xp) (names : List (List UInt8)) (pair : Bool) (hc : x.cnt ≤ 100000) (hok : x.ok) : Pure Tryd.prog 11 [x.v, vSL names, vB pair] (.tup [vI (typR x (inS names) pair).1, vI (typR x (inS names) pair).2]) := by
  have hval := w_ValidR [⟨[97], false, [⟨2, 0, [], x⟩], 1⟩] (by intro r hr; simp at hr; subst hr; exact ⟨by simp [maxLen], fun s hs => by simp at hs; subst hs; exact ⟨by simp, hok⟩⟩) (by intro r hr s hs; simp at hr; subst hr; simp at hs; subst hs; exact hc)
  rw [prg1 97 x (by decide)] at hval
  simp only [Rul.l, Rul.c, Stm.c, List.map] at hval
  have hinf := w_Infer names pair x
  have hlc := len_c x
  have htc := take_c x
  unfold typR
  cases ht : typB x
  · rw [ht] at hval
    rw [if_neg (by simp)]
    (refine Pure.of_code mix Tryd.call11 k_11 (by simp) (fun hB => ?_); (try simp at hB); (try simp -implicitDefEqProofs [c_tallystoneref33_Type_11]))
    ((try simp at hval); (try simp at hinf); (try simp -implicitDefEqProofs [hlc, htc]); repeat' first | ((first | with_reducible refine gdK_em (fun hc => ?_) (fun hc => ?_) | with_reducible refine cdK_em (fun hc => ?_) (fun hc => ?_) | with_reducible refine pickK_em (fun hc => ?_) (fun hc => ?_)) <;> (have hc' := hc; (try simp at hc'); simp -implicitDefEqProofs [hc, hc', hlc, htc])) | (with_reducible apply callK_pure <;> first | (simp only [eras, era, eras_map]; first | with_reducible exact hval | with_reducible exact hinf | simpa using hval | simpa using hinf) | (simp -implicitDefEqProofs [hlc, htc])))
  · rw [ht] at hval
    rw [if_pos rfl]
    generalize x.inf (inS names) pair = r at *
    (refine Pure.of_code mix Tryd.call11 k_11 (by simp) (fun hB => ?_); (try simp at hB); (try simp -implicitDefEqProofs [c_tallystoneref33_Type_11]))
    ((try simp at hval); (try simp at hinf); (try simp -implicitDefEqProofs [hlc, htc]); repeat' first | ((first | with_reducible refine gdK_em (fun hc => ?_) (fun hc => ?_) | with_reducible refine cdK_em (fun hc => ?_) (fun hc => ?_) | with_reducible refine pickK_em (fun hc => ?_) (fun hc => ?_)) <;> (have hc' := hc; (try simp at hc'); simp -implicitDefEqProofs [hc, hc', hlc, htc])) | (with_reducible apply callK_pure <;> first | (simp only [eras, era, eras_map]; first | with_reducible exact hval | with_reducible exact hinf | simpa using hval | simpa using hinf) | (simp -implicitDefEqProofs [hlc, htc])))
end Go.Proofs.YtnlkppaehbopaaaDoor
end
