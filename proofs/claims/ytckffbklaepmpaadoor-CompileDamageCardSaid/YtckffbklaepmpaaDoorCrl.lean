/- Chapter 34: compile.rule, Compile. -/
import Derived.Test.YtckffbklaepmpaaDoorCad
import Derived.Test.YtckffbklaepmpaaDoorRul
set_option linter.unusedSimpArgs false
set_option linter.unusedVariables false
set_option maxHeartbeats 4000000
set_option maxRecDepth 8000
namespace Go.Proofs.YtckffbklaepmpaaDoor
open E

/-- The locals' numbers as a map. -/
def locA : Nat → List (List UInt8) → List (List UInt8 × Int)
  | _, [] => []
  | i, s :: l => (s, (i : Int)) :: locA (i + 1) l
theorem locA_len : ∀ (i : Nat) (l : List (List UInt8)), (locA i l).length = l.length
  | _, [] => rfl
  | i, s :: l => by rw [locA, List.length_cons, locA_len, List.length_cons]
theorem idxF_not {s : List UInt8} : ∀ (l : List (List UInt8)) (i : Nat) (c : Int), s ∉ l → idxF s i l c = c
  | [], _, _, _ => rfl
  | z :: l, i, c, h => by
    rw [idxF, if_neg (fun e => h (by rw [e]; simp)), idxF_not l _ _ (fun e => h (by simp [e]))]
theorem aget_locA {s : List UInt8} : ∀ (l : List (List UInt8)) (i : Nat), l.Nodup → (aget (locA i l) s).getD 0 = idxF s i l 0
  | [], i, _ => rfl
  | y :: l, i, h => by
    have h' := List.nodup_cons.1 h
    rw [locA, aget, idxF]
    by_cases e : s = y
    · subst e
      rw [if_pos rfl, if_pos rfl, idxF_not l _ _ h'.1]; rfl
    · rw [if_neg e, if_neg (Ne.symm e)]
      exact aget_locA l (i + 1) h'.2
theorem aset_locA {s : List UInt8} : ∀ (l : List (List UInt8)) (i : Nat), s ∉ l → aset (locA i l) s ((i + l.length : Nat) : Int) = locA i (l ++ [s])
  | [], i, _ => rfl
  | y :: l, i, h => by
    have h1 : ¬ s = y := fun e => h (by rw [e]; simp)
    have := aset_locA l (i + 1) (fun e => h (List.mem_cons_of_mem _ e))
    rw [List.cons_append, locA, locA, aset, if_neg h1, ← this, List.length_cons, show i + (l.length + 1) = i + 1 + l.length by omega]
def locL (M : List (List UInt8)) : List (List UInt8 × Int) := locA 0 M
theorem aget_locL {M : List (List UInt8)} (h : M.Nodup) (s : List UInt8) : (aget (locL M) s).getD 0 = idxN M s := aget_locA M 0 h
theorem aset_locL {M : List (List UInt8)} {s : List UInt8} (h : s ∉ M) : aset (locL M) s (M.length : Int) = locL (M ++ [s]) := by
  have := aset_locA M 0 h
  rw [Nat.zero_add] at this
  exact this
theorem leB_mp {n m : Nat} (L : List (List UInt8 × Int)) : leB n m (mpL L) (mpL L) := ⟨rfl, okNs_all (fun v hv => by obtain ⟨p, hp, rfl⟩ := List.mem_map.1 hv; obtain ⟨q, _, rfl⟩ := List.mem_map.1 hp; rfl), okNs_all (fun v hv => by obtain ⟨p, hp, rfl⟩ := List.mem_map.1 hv; obtain ⟨q, _, rfl⟩ := List.mem_map.1 hp; rfl)⟩
theorem codeSs_le (ss : List Stm) (M : List (List UInt8)) (k : Nat) : (codeSs M (ss.take k)).length ≤ ss.length + cntS ss := by
  rw [codeSs_len]
  have h1 : (ss.take k).length ≤ ss.length := by simp; omega
  have h2 : cntS (ss.take k) ≤ cntS ss := by
    have := List.take_append_drop k ss
    conv => rhs; rw [← this]
    unfold cntS
    rw [List.map_append, List.sum_append]; omega
  omega
theorem cntS_mem {ss : List Stm} {s : Stm} (h : s ∈ ss) : s.ex.cnt ≤ cntS ss := by
  induction ss with
  | nil => cases h
  | cons y ss ih =>
    unfold cntS at ih ⊢
    rw [List.map_cons, List.sum_cons]
    rcases List.mem_cons.1 h with rfl | h
    · omega
    · have := ih h; omega
theorem stmE_fresh {known : Int → Bool} {M : List (List UInt8)} {pair : Bool} {s : Stm} (h : stmE known (memB M) pair s = 0) (hk : s.kind = 1) : s.name ∉ M := by
  intro hm
  unfold stmE at h
  split at h
  · rename_i q; exact absurd h q
  split at h
  · exact absurd h (by decide)
  rename_i h3
  rw [if_pos ⟨hk, by simpa [memB] using hm⟩] at h
  exact absurd h (by decide)
theorem cX (k m : Nat) (e : List Ins) : cellsX (bldX k m e) = some [.own k 51 3 (e.map Ins.c), .mp m] := rfl
theorem w_crule (known : Int → Bool) (r : Rul) (hb : rulB r = true) (he : rulE known r = 0) (hlen : cntS r.stmts ≤ 100000) : Pure Tryd.prog 16 [r.v] (codeR r).v := by
  obtain ⟨nm, pair, ss, to⟩ := r
  unfold rulB at hb
  simp only [Bool.and_eq_true, decide_eq_true_eq, List.all_eq_true] at hb hlen
  obtain ⟨⟨⟨_, hss⟩, hto⟩, hst⟩ := hb
  have h0 : stmsE known pair [] ss = 0 := by
    unfold rulE at he
    simp only [] at he
    split at he
    · rename_i q; exact absurd he q
    · rename_i q; simpa using q
  have hrc : Rul.c ⟨nm, pair, ss, to⟩ = [T.str nm, T.bool pair, T.sl (ss.map Stm.c), T.int .i64 to] := rfl
  obtain ⟨RES, hRES⟩ : ∃ RES, RES = (codeR ⟨nm, pair, ss, to⟩).v := ⟨_, rfl⟩
  rw [← hRES]
  (refine Pure.of_code mix Tryd.call16 k_16 (by simp) (fun hB => ?_); (try simp at hB); (try simp -implicitDefEqProofs [c_compile_rule_16]))
  ((try simp -implicitDefEqProofs [hrc]); repeat' first | ((first | with_reducible refine gdK_em (fun hc => ?_) (fun hc => ?_) | with_reducible refine cdK_em (fun hc => ?_) (fun hc => ?_) | with_reducible refine pickK_em (fun hc => ?_) (fun hc => ?_)) <;> (have hc' := hc; (try simp at hc'); simp -implicitDefEqProofs [hc, hc', hrc])))
  refine loop_grow [(.cell 3 0, 51, 3)] (X := Nat) (fun k => k ≤ ss.length ∧ (namesOf (ss.take k)).Nodup ∧ stmsE known pair (namesOf (ss.take k)) (ss.drop k) = 0)
    (fun k => [(1, .ptr 0 0), (2, .ptr 1 0), (3, .ptr 3 0), (10, Stm.l ss), (11, vI ss.length), (12, vI k)])
    (fun k => ⟨[.cells [vS nm, vB pair, Stm.l ss, vI to], .cells [vS [], vB false, .snil], mpL (locL (namesOf (ss.take k))), bldX 0 2 (codeSs [] (ss.take k))], [(codeSs [] (ss.take k)).length]⟩) (fun k => ss.length - k) 0 ⟨by simp, by simp [namesOf], by simpa [namesOf] using h0⟩ ?_ ?_
  · simp [namesOf, locL, locA, bldX, codeSs]
  rintro k ⟨hk, hnd, hi⟩ hbd
  clear hbd
  have hcl := codeSs_le ss [] k
  rcases Nat.lt_or_ge k ss.length with h | h
  · have hx : ss[k]? = some ss[k] := by simp [h]
    have e3 : IntKind.i64.wrap ((k : Int) + 1) = (k : Int) + 1 := wrap64 (by omega) (by omega)
    rw [stmsE_at hx] at hi
    have hse : stmE known (memB (namesOf (ss.take k))) pair ss[k] = 0 := by
      by_cases q : stmE known (memB (namesOf (ss.take k))) pair ss[k] = 0
      · exact q
      · rw [if_pos q] at hi; exact absurd hi q
    rw [if_neg (by simpa using hse)] at hi
    have hnn := namesOf_next hx
    have hcn := codeSs_next (M := []) hx
    rw [List.nil_append] at hcn
    obtain ⟨hpx, hkd⟩ := stmB_of (hst _ (List.getElem_mem h))
    have hxc := cntS_mem (List.getElem_mem h)
    have hfr := fun hk1 => stmE_fresh hse hk1
    have hlt := lt_of_get hx
    generalize hMM : namesOf (ss.take k) = M at *
    generalize hEE : codeSs [] (ss.take k) = es at *
    obtain ⟨kd, acc, sn, x, hs⟩ : ∃ kd acc sn x, ss[k] = ⟨kd, acc, sn, x⟩ := ⟨_, _, _, _, rfl⟩
    have hsk : (ss.map Stm.c)[k]? = some (.int .i64 kd :: .int .i64 acc :: .str sn :: x.c) := by simp [h, hs, Stm.c]
    have hcc : Stm.c ⟨kd, acc, sn, x⟩ = (.int .i64 kd :: .int .i64 acc :: .str sn :: x.c) := rfl
    have hlc := len_c x
    have htc := take_c x
    rw [hs] at hpx hkd hxc hfr hi hnn hcn
    simp only [] at hpx hkd hxc hfr
    have hok : ∀ (e2 : List Ins) (j : Nat), OkBK [.cells [vS nm, vB pair, Stm.l ss, vI to], .cells [vS [], vB false, .snil], mpL (locL M), bldX 0 2 e2, .cells (vI kd :: vI acc :: vS sn :: x.c.map V.t)] [j] := fun e2 j n m hn hm => by
      simp only [List.length_cons, List.length_nil] at hn hm
      exact ⟨⟨LeL_refl _, rfl⟩, ⟨LeL_refl _, rfl⟩, leB_mp _, leB_bld _ (by omega) (by omega), ⟨LeL_refl _, okNs_all (fun v hv => by
        rcases List.mem_cons.1 hv with rfl | hv
        · rfl
        rcases List.mem_cons.1 hv with rfl | hv
        · rfl
        rcases List.mem_cons.1 hv with rfl | hv
        · rfl
        obtain ⟨t, _, rfl⟩ := List.mem_map.1 hv; rfl)⟩, trivial⟩
    have hexp := w_bexpr M (locL M) (fun n => aget_locL hnd n) x hpx 3 0 2 es _ [es.length] rfl rfl rfl (by omega) (hok es es.length)
    have hadd := fun (e2 : List Ins) (op a b : Int) (hl : e2.length ≤ 1000000) => w_add 3 0 2 e2 op a b _ [e2.length] rfl rfl hl (by simp) (hok e2 e2.length)
    have hxl : (es ++ x.codeX M).length = es.length + x.cnt := by rw [List.length_append, Xp.codeX_len]
    have hadd2 := fun op a b => hadd (es ++ x.codeX M) op a b (by omega)
    simp only [List.set_cons_succ, List.set_cons_zero, hxl] at hexp hadd2
    have hmsl : (mS vI (locL M)).length = M.length := by simp [mS, locL, locA_len]
    rcases hkd with rfl | rfl | rfl
    · have hN : namesOf [⟨1, acc, sn, x⟩] = [sn] := rfl
      rw [hN] at hnn hi
      have hcn' : codeSs [] (ss.take (k + 1)) = es ++ x.codeX M ++ [⟨23, M.length, 0⟩] := by rw [hcn, List.append_assoc]; rfl
      have hsn := hfr rfl
      have hnd' : (M ++ [sn]).Nodup := by
        rw [List.nodup_append]
        exact ⟨hnd, by simp, fun a ha b hb e => by simp at hb; subst hb; subst e; exact hsn ha⟩
      have hsm := setM_S vI sn (M.length : Int) (locL M)
      rw [aset_locL hsn] at hsm
      have hml2 : (mS vI (locL (M ++ [sn]))).length ≤ maxLen := by
        have := namesOf_len (ss.take (k + 1))
        rw [hnn] at this
        simp [mS, locL, locA_len, maxLen] at this ⊢
        omega
      ((try simp -implicitDefEqProofs [h, hs, hsk, hcc, hlc, htc]); repeat' first | ((first | with_reducible refine gdK_em (fun hc => ?_) (fun hc => ?_) | with_reducible refine cdK_em (fun hc => ?_) (fun hc => ?_) | with_reducible refine pickK_em (fun hc => ?_) (fun hc => ?_)) <;> (have hc' := hc; (try simp at hc'); simp -implicitDefEqProofs [hc, hc', h, hs, hsk, hcc, hlc, htc])))
      refine callK_fn hexp (fun hd => by cases hd) ?_
      ((try simp -implicitDefEqProofs [h, hmsl, cX, mpL]); repeat' first | ((first | with_reducible refine gdK_em (fun hc => ?_) (fun hc => ?_) | with_reducible refine cdK_em (fun hc => ?_) (fun hc => ?_) | with_reducible refine pickK_em (fun hc => ?_) (fun hc => ?_)) <;> (have hc' := hc; (try simp at hc'); simp -implicitDefEqProofs [hc, hc', h, hmsl, cX, mpL])))
      refine callK_fn (hadd2 23 M.length 0) (fun hd => by cases hd) ?_
      ((try simp -implicitDefEqProofs [h, e3, cX, mpL, hmsl, hsm, hml2]); repeat' first | ((first | with_reducible refine gdK_em (fun hc => ?_) (fun hc => ?_) | with_reducible refine cdK_em (fun hc => ?_) (fun hc => ?_) | with_reducible refine pickK_em (fun hc => ?_) (fun hc => ?_)) <;> (have hc' := hc; (try simp at hc'); simp -implicitDefEqProofs [hc, hc', h, e3, cX, mpL, hmsl, hsm, hml2])))
      exact ⟨by have := hml2; simpa [mS] using this, k + 1, ⟨by omega, by rw [hnn]; exact hnd', by rw [hnn]; exact hi⟩, by omega, ⟨⟨⟨by rw [hnn], okNs_all (fun v hv => by obtain ⟨p, _, rfl⟩ := List.mem_map.1 hv; rfl), okNs_all (fun v hv => by obtain ⟨p, _, rfl⟩ := List.mem_map.1 hv; rfl)⟩, by rw [hcn', List.append_assoc]; exact leB_bld _ (by omega) (by omega)⟩, by rw [hcn', List.length_append, hxl]; rfl⟩, by push_cast; rfl⟩
    · have hN : namesOf [⟨2, acc, sn, x⟩] = [] := rfl
      rw [hN] at hnn hi
      have hcn' : codeSs [] (ss.take (k + 1)) = es ++ x.codeX M ++ [⟨24, 0, 0⟩] := by rw [hcn, List.append_assoc]; rfl
      rw [List.append_nil] at hnn hi
      have hnd' := hnd
      ((try simp -implicitDefEqProofs [h, hs, hsk, hcc, hlc, htc]); repeat' first | ((first | with_reducible refine gdK_em (fun hc => ?_) (fun hc => ?_) | with_reducible refine cdK_em (fun hc => ?_) (fun hc => ?_) | with_reducible refine pickK_em (fun hc => ?_) (fun hc => ?_)) <;> (have hc' := hc; (try simp at hc'); simp -implicitDefEqProofs [hc, hc', h, hs, hsk, hcc, hlc, htc])))
      refine callK_fn hexp (fun hd => by cases hd) ?_
      ((try simp -implicitDefEqProofs [h, hmsl, cX, mpL]); repeat' first | ((first | with_reducible refine gdK_em (fun hc => ?_) (fun hc => ?_) | with_reducible refine cdK_em (fun hc => ?_) (fun hc => ?_) | with_reducible refine pickK_em (fun hc => ?_) (fun hc => ?_)) <;> (have hc' := hc; (try simp at hc'); simp -implicitDefEqProofs [hc, hc', h, hmsl, cX, mpL])))
      refine callK_fn (hadd2 24 0 0) (fun hd => by cases hd) ?_
      ((try simp -implicitDefEqProofs [h, e3, cX, mpL]); repeat' first | ((first | with_reducible refine gdK_em (fun hc => ?_) (fun hc => ?_) | with_reducible refine cdK_em (fun hc => ?_) (fun hc => ?_) | with_reducible refine pickK_em (fun hc => ?_) (fun hc => ?_)) <;> (have hc' := hc; (try simp at hc'); simp -implicitDefEqProofs [hc, hc', h, e3, cX, mpL])))
      exact ⟨k + 1, ⟨by omega, by rw [hnn]; exact hnd', by rw [hnn]; exact hi⟩, by omega, ⟨⟨⟨by rw [hnn], okNs_all (fun v hv => by obtain ⟨p, _, rfl⟩ := List.mem_map.1 hv; rfl), okNs_all (fun v hv => by obtain ⟨p, _, rfl⟩ := List.mem_map.1 hv; rfl)⟩, by rw [hcn', List.append_assoc]; exact leB_bld _ (by omega) (by omega)⟩, by rw [hcn', List.length_append, hxl]; rfl⟩, by push_cast; rfl⟩
    · have hN : namesOf [⟨3, acc, sn, x⟩] = [] := rfl
      rw [hN] at hnn hi
      have hcn' : codeSs [] (ss.take (k + 1)) = es ++ x.codeX M ++ [⟨25, acc, 0⟩] := by rw [hcn, List.append_assoc]; rfl
      rw [List.append_nil] at hnn hi
      have hnd' := hnd
      ((try simp -implicitDefEqProofs [h, hs, hsk, hcc, hlc, htc]); repeat' first | ((first | with_reducible refine gdK_em (fun hc => ?_) (fun hc => ?_) | with_reducible refine cdK_em (fun hc => ?_) (fun hc => ?_) | with_reducible refine pickK_em (fun hc => ?_) (fun hc => ?_)) <;> (have hc' := hc; (try simp at hc'); simp -implicitDefEqProofs [hc, hc', h, hs, hsk, hcc, hlc, htc])))
      refine callK_fn hexp (fun hd => by cases hd) ?_
      ((try simp -implicitDefEqProofs [h, hmsl, cX, mpL]); repeat' first | ((first | with_reducible refine gdK_em (fun hc => ?_) (fun hc => ?_) | with_reducible refine cdK_em (fun hc => ?_) (fun hc => ?_) | with_reducible refine pickK_em (fun hc => ?_) (fun hc => ?_)) <;> (have hc' := hc; (try simp at hc'); simp -implicitDefEqProofs [hc, hc', h, hmsl, cX, mpL])))
      refine callK_fn (hadd2 25 acc 0) (fun hd => by cases hd) ?_
      ((try simp -implicitDefEqProofs [h, e3, cX, mpL]); repeat' first | ((first | with_reducible refine gdK_em (fun hc => ?_) (fun hc => ?_) | with_reducible refine cdK_em (fun hc => ?_) (fun hc => ?_) | with_reducible refine pickK_em (fun hc => ?_) (fun hc => ?_)) <;> (have hc' := hc; (try simp at hc'); simp -implicitDefEqProofs [hc, hc', h, e3, cX, mpL])))
      exact ⟨k + 1, ⟨by omega, by rw [hnn]; exact hnd', by rw [hnn]; exact hi⟩, by omega, ⟨⟨⟨by rw [hnn], okNs_all (fun v hv => by obtain ⟨p, _, rfl⟩ := List.mem_map.1 hv; rfl), okNs_all (fun v hv => by obtain ⟨p, _, rfl⟩ := List.mem_map.1 hv; rfl)⟩, by rw [hcn', List.append_assoc]; exact leB_bld _ (by omega) (by omega)⟩, by rw [hcn', List.length_append, hxl]; rfl⟩, by push_cast; rfl⟩
  · have : k = ss.length := by omega
    subst this
    rw [List.take_length] at *
    generalize hMM : namesOf ss = M at *
    generalize hEE : codeSs [] ss = es at *
    have hok : OkBK [.cells [vS nm, vB pair, Stm.l ss, vI to], .cells [vS [], vB false, .snil], mpL (locL M), bldX 0 2 es] [es.length] := fun n m hn hm => by
      simp only [List.length_cons, List.length_nil] at hn hm
      exact ⟨⟨LeL_refl _, rfl⟩, ⟨LeL_refl _, rfl⟩, leB_mp _, leB_bld _ (by omega) (by omega), trivial⟩
    have hadd := w_add 3 0 2 es 26 to 0 _ [es.length] rfl rfl (by omega) (by simp) hok
    simp only [List.set_cons_succ, List.set_cons_zero] at hadd
    have hR : RES = .agg [vS nm, vB pair, .t (.sl ((es ++ [(⟨26, to, 0⟩ : Ins)]).map Ins.c))] := by
      rw [hRES]
      simp only [codeR, hEE]
      rfl
    rw [hR]
    ((try simp -implicitDefEqProofs); repeat' first | ((first | with_reducible refine gdK_em (fun hc => ?_) (fun hc => ?_) | with_reducible refine cdK_em (fun hc => ?_) (fun hc => ?_) | with_reducible refine pickK_em (fun hc => ?_) (fun hc => ?_)) <;> (have hc' := hc; (try simp at hc'); simp -implicitDefEqProofs [hc, hc'])))
    refine callK_fn hadd (fun hd => by cases hd) ?_
    ((try simp -implicitDefEqProofs [cX]); repeat' first | ((first | with_reducible refine gdK_em (fun hc => ?_) (fun hc => ?_) | with_reducible refine cdK_em (fun hc => ?_) (fun hc => ?_) | with_reducible refine pickK_em (fun hc => ?_) (fun hc => ?_)) <;> (have hc' := hc; (try simp at hc'); simp -implicitDefEqProofs [hc, hc', cX])))
theorem chkR_rules {p : List Rul} {l : List Account} (h : (chkR p l).2 = 0) : prgB p = true ∧ ∀ (M : List (List UInt8)) (i : Nat), True := by
  unfold chkR at h
  split at h
  · rename_i q; exact ⟨q.1, fun _ _ => trivial⟩
  · exact absurd h (by simp)
theorem rulsE_all {known : Int → Bool} : ∀ (p : List Rul) (M : List (List UInt8)) (i : Nat), (rulsE known M i p).2 = 0 → ∀ r ∈ p, rulE known r = 0
  | [], M, i, _, r, hr => by cases hr
  | y :: p, M, i, h, r, hr => by
    rw [rulsE] at h
    split at h
    · exact absurd h (by simp)
    split at h
    · rename_i h1; exact absurd h h1
    · rename_i h1
      rcases List.mem_cons.1 hr with rfl | hr
      · simpa using h1
      · exact rulsE_all p _ _ h r hr
theorem chkR_all {p : List Rul} {l : List Account} (h : (chkR p l).2 = 0) : ∀ r ∈ p, rulB r = true ∧ rulE (knownB l) r = 0 := by
  unfold chkR at h
  split at h
  · rename_i q
    intro r hr
    have hv := q.1
    unfold prgB at hv
    simp only [Bool.and_eq_true, List.all_eq_true] at hv
    exact ⟨hv.1 r hr, rulsE_all p [] 0 h r hr⟩
  · exact absurd h (by simp)
theorem w_Compile (p : List Rul) (l : List Account) (hc : ∀ r ∈ p, ∀ s ∈ r.stmts, s.ex.cnt ≤ 1000) (hss : ∀ r ∈ p, cntS r.stmts ≤ 100000) (hp : p.length ≤ 1000) (hl : l.length ≤ 1000000) :
    Pure Tryd.prog 7 [Rul.l p, Account.l l] (.tup [.t (.sl ((cmpR p l).1.map Code.c)), vI (cmpR p l).2.1, vI (cmpR p l).2.2]) := by
  have hchk := w_Check p l (fun r hr s hs => by have := hc r hr s hs; omega) hl
  unfold cmpR
  by_cases h0 : (chkR p l).2 = 0
  case neg =>
    rw [if_neg h0]
    generalize chkR p l = q at *
    have h1 : (q.2 == 0) = false := by simpa using h0
    have h2 : (q.2 != 0) = true := by simpa using h0
    (refine Pure.of_code mix Tryd.call7 k_7 (by simp) (fun hB => ?_); (try simp at hB); (try simp -implicitDefEqProofs [c_compile_Compile_7]))
    ((try simp at hchk); (try simp -implicitDefEqProofs [h0, h1, h2]); repeat' first | ((first | with_reducible refine gdK_em (fun hc => ?_) (fun hc => ?_) | with_reducible refine cdK_em (fun hc => ?_) (fun hc => ?_) | with_reducible refine pickK_em (fun hc => ?_) (fun hc => ?_)) <;> (have hc' := hc; (try simp at hc'); simp -implicitDefEqProofs [hc, hc', h0, h1, h2])) | (with_reducible apply callK_pure <;> first | (simp only [eras, era, eras_map]; first | with_reducible exact hchk | simpa using hchk) | (simp -implicitDefEqProofs [h0, h1, h2])))
  rw [if_pos h0]
  have hall := chkR_all h0
  rw [h0] at hchk
  obtain ⟨L, hL⟩ : ∃ L, L = (p.map codeR).map Code.c := ⟨_, rfl⟩
  have hLl : L.length = p.length := by rw [hL]; simp
  simp only []
  rw [← hL]
  (refine Pure.of_code mix Tryd.call7 k_7 (by simp) (fun hB => ?_); (try simp at hB); (try simp -implicitDefEqProofs [c_compile_Compile_7]))
  ((try simp at hchk); (try simp -implicitDefEqProofs); repeat' first | ((first | with_reducible refine gdK_em (fun hc => ?_) (fun hc => ?_) | with_reducible refine cdK_em (fun hc => ?_) (fun hc => ?_) | with_reducible refine pickK_em (fun hc => ?_) (fun hc => ?_)) <;> (have hc' := hc; (try simp at hc'); simp -implicitDefEqProofs [hc, hc'])) | (with_reducible apply callK_pure <;> first | (simp only [eras, era, eras_map]; first | with_reducible exact hchk | simpa using hchk) | (simp -implicitDefEqProofs)))
  refine loop_grow [(.slot 9, 45, 3)] (X := Nat) (fun k => k ≤ p.length) (fun k => [(9, .own 0 45 3 (L.take k)), (22, Rul.l p), (23, vI p.length), (24, vI k)])
    (fun k => ⟨[], [k]⟩) (fun k => p.length - k) 0 (by simp) (by simp) ?_
  rintro k hk hbd
  clear hbd
  rcases Nat.lt_or_ge k p.length with h | h
  · have hx : p[k]? = some p[k] := by simp [h]
    have e3 : IntKind.i64.wrap ((k : Int) + 1) = (k : Int) + 1 := wrap64 (by omega) (by omega)
    obtain ⟨q1, q2⟩ := hall p[k] (List.getElem_mem h)
    have hrule := w_crule (knownB l) p[k] q1 q2 (hss _ (List.getElem_mem h))
    have hrv : L.take (k + 1) = L.take k ++ [(codeR p[k]).c] := take_next (by rw [hL]; simp [h])
    have hmin : min k L.length = k := by omega
    obtain ⟨nm, pr, ss, to, hr⟩ : ∃ nm pr ss to, p[k] = ⟨nm, pr, ss, to⟩ := ⟨_, _, _, _, rfl⟩
    have hrk : (p.map Rul.c)[k]? = some [.str nm, .bool pr, .sl (ss.map Stm.c), .int .i64 to] := by simp [h, hr, Rul.c]
    have hcc : p[k].c = [.str nm, .bool pr, .sl (ss.map Stm.c), .int .i64 to] := by rw [hr]; rfl
    have hcd : (codeR p[k]).c = [.str (codeR p[k]).name, .bool (codeR p[k]).pair, .sl ((codeR p[k]).ins.map Ins.c)] := rfl
    rw [Rul.v, hcc] at hrule
    generalize codeR p[k] = cd at *
    obtain ⟨cn, cp, ci⟩ := cd
    simp only [List.map] at hrule
    ((try simp at hrule); (try simp -implicitDefEqProofs [h, hrk, hcc, e3, hmin]); repeat' first | ((first | with_reducible refine gdK_em (fun hc => ?_) (fun hc => ?_) | with_reducible refine cdK_em (fun hc => ?_) (fun hc => ?_) | with_reducible refine pickK_em (fun hc => ?_) (fun hc => ?_)) <;> (have hc' := hc; (try simp at hc'); simp -implicitDefEqProofs [hc, hc', h, hrk, hcc, e3, hmin])) | (with_reducible apply callK_pure <;> first | (simp only [eras, era, eras_map]; first | with_reducible exact hrule | simpa using hrule) | (simp -implicitDefEqProofs [h, hrk, hcc, e3, hmin])))
    exact ⟨⟨by unfold maxLen; omega, by omega⟩, k + 1, by omega, by omega, rfl, by rw [hrv]; exact leA.refl _, by push_cast; rfl⟩
  · have : k = p.length := by omega
    subst this
    have ht : L.take p.length = L := List.take_of_length_le (by omega)
    ((try simp -implicitDefEqProofs [ht]); repeat' first | ((first | with_reducible refine gdK_em (fun hc => ?_) (fun hc => ?_) | with_reducible refine cdK_em (fun hc => ?_) (fun hc => ?_) | with_reducible refine pickK_em (fun hc => ?_) (fun hc => ?_)) <;> (have hc' := hc; (try simp at hc'); simp -implicitDefEqProofs [hc, hc', ht])))
end Go.Proofs.YtckffbklaepmpaaDoor
