/- Chapter 34: the law CompileCounts. -/
import Derived.Test.YtckffbklaepmpaaDoorCrl
import Derived.Test.YtckffbklaepmpaaDoorAwk4
import Derived.Test.YtckffbklaepmpaaDoorPrg
import Derived.Test.YtckffbklaepmpaaDoorSyg
set_option linter.unusedSimpArgs false
set_option linter.unusedVariables false
set_option maxHeartbeats 4000000
set_option maxRecDepth 8000
namespace Go.Proofs.YtckffbklaepmpaaDoor
open E

theorem w_few (p : List Rul) (l : List Account) : Pure Tryd.prog 6 [Rul.l p, Account.l l] (vB (fewB p && decide (l.length ≤ 210))) := by
  have hf := w_Few p
  by_cases h1 : fewB p = true
  · rw [h1] at hf ⊢
    have h2 : decide (l.length ≤ 210) = decide ((l.length : Int) ≤ 210) := by rw [decide_eq_decide]; omega
    rw [h2]
    (refine Pure.of_code mix Tryd.call6 k_6 (by simp) (fun hB => ?_); (try simp at hB); (try simp -implicitDefEqProofs [c_tallystonelaw34_few_6]))
    ((try simp at hf); (try simp -implicitDefEqProofs); repeat' first | ((first | with_reducible refine gdK_em (fun hc => ?_) (fun hc => ?_) | with_reducible refine cdK_em (fun hc => ?_) (fun hc => ?_) | with_reducible refine pickK_em (fun hc => ?_) (fun hc => ?_)) <;> (have hc' := hc; (try simp at hc'); simp -implicitDefEqProofs [hc, hc'])) | (with_reducible apply callK_pure <;> first | (simp only [eras, era, eras_map]; first | with_reducible exact hf | simpa using hf) | (simp -implicitDefEqProofs)))
  · rw [Bool.not_eq_true] at h1
    rw [h1] at hf ⊢
    (refine Pure.of_code mix Tryd.call6 k_6 (by simp) (fun hB => ?_); (try simp at hB); (try simp -implicitDefEqProofs [c_tallystonelaw34_few_6]))
    ((try simp at hf); (try simp -implicitDefEqProofs); repeat' first | ((first | with_reducible refine gdK_em (fun hc => ?_) (fun hc => ?_) | with_reducible refine cdK_em (fun hc => ?_) (fun hc => ?_) | with_reducible refine pickK_em (fun hc => ?_) (fun hc => ?_)) <;> (have hc' := hc; (try simp at hc'); simp -implicitDefEqProofs [hc, hc'])) | (with_reducible apply callK_pure <;> first | (simp only [eras, era, eras_map]; first | with_reducible exact hf | simpa using hf) | (simp -implicitDefEqProofs)))
theorem few_of {p : List Rul} (h : fewB p = true) : p.length ≤ 50 ∧ (∀ r ∈ p, r.stmts.length ≤ 40) ∧ (∀ r ∈ p, ∀ s ∈ r.stmts, s.ex.cnt ≤ 200) := by
  unfold fewB fewR fewS at h
  simp only [Bool.and_eq_true, List.all_eq_true, decide_eq_true_eq] at h
  exact ⟨h.2, fun r hr => (h.1 r hr).1.2, fun r hr s hs => ((h.1 r hr).2 s hs).2⟩
theorem cntS_le {ss : List Stm} {m : Nat} (h : ∀ s ∈ ss, s.ex.cnt ≤ m) : cntS ss ≤ ss.length * m := by
  induction ss with
  | nil => simp [cntS]
  | cons s ss ih =>
    have h1 := ih (fun x hx => h x (by simp [hx]))
    have h2 := h s (by simp)
    simp only [cntS, List.map_cons, List.sum_cons, List.length_cons] at h1 ⊢
    rw [Nat.add_mul]; omega
theorem few_cnt {p : List Rul} (h : fewB p = true) : ∀ r ∈ p, cntS r.stmts ≤ 8000 := fun r hr => by
  obtain ⟨_, b, c⟩ := few_of h
  have h1 := cntS_le (c r hr)
  have h2 := b r hr
  have h3 : r.stmts.length * 200 ≤ 40 * 200 := Nat.mul_le_mul_right _ h2
  omega
theorem w_progOf {p : List Rul} (h : fewB p = true) : Pure Tryd.prog 8 [Rul.l p] (Rul.l p) := by
  obtain ⟨a, b, c⟩ := few_of h
  exact w_prog32 p (by omega) (fun r hr => by have := b r hr; omega) (fun r hr s hs => by have := c r hr s hs; omega)
theorem w_CompOf {p : List Rul} {l : List Account} (h : fewB p = true) (hl : l.length ≤ 210) : Pure Tryd.prog 7 [Rul.l p, Account.l l] (.tup [.t (.sl ((cmpR p l).1.map Code.c)), vI (cmpR p l).2.1, vI (cmpR p l).2.2]) := by
  obtain ⟨a, b, c⟩ := few_of h
  exact w_Compile p l (fun r hr s hs => by have := c r hr s hs; omega) (fun r hr => by have := few_cnt h r hr; omega) (by omega) (by omega)
theorem w_Count : ∀ (x : Xp), x.cnt ≤ 100000 → Pure Tryd.prog 9 [x.v] (vI x.cnt) := by
  refine Xp.ind fun kd vl fr to nm xs ih hcnt => ?_
  rw [Xp.cnt] at hcnt ⊢
  have hal := Xp.cnts_len xs
  rw [Xp.v, Xp.c_mk]
  (refine Pure.of_code mix Tryd.call9 k_9 (by simp) (fun hB => ?_); (try simp at hB); (try simp -implicitDefEqProofs [c_tallystoneref34_Count_9]))
  refine loop_rule (X := Nat) (fun k => k ≤ xs.length) (fun k => [(1, .ptr 0 0), (3, vI ((1 : Int) + Xp.cnts (xs.take k))), (4, vI k)]) (fun _ => ⟨[.cells [vI kd, vI vl, vI fr, vI to, vS nm, Xp.l xs]], []⟩) (fun k => xs.length - k) 0 (by simp) (by simp [Xp.cnts]) ?_
  rintro k hk hbd
  clear hbd
  rcases Nat.lt_or_ge k xs.length with h | h
  · have hx : xs[k]? = some xs[k] := by simp [h]
    have hxc := Xp.cnts_mem (List.getElem_mem h)
    have hrec := ih xs[k] (List.getElem_mem h) (by omega)
    have e3 : IntKind.i64.wrap ((k : Int) + 1) = (k : Int) + 1 := wrap64 (by omega) (by omega)
    have hc2 : Xp.cnts (xs.take (k + 1)) = Xp.cnts (xs.take k) + xs[k].cnt := by rw [take_next hx, Xp.cnts_append]; simp [Xp.cnts]
    have hc3 : Xp.cnts (xs.take (k + 1)) ≤ Xp.cnts xs := by
      have := Xp.cnts_append (xs.take (k + 1)) (xs.drop (k + 1))
      rw [List.take_append_drop] at this; omega
    have e4 : IntKind.i64.wrap ((1 : Int) + Xp.cnts (xs.take k) + xs[k].cnt) = (1 : Int) + Xp.cnts (xs.take k) + xs[k].cnt := wrap64 (by omega) (by omega)
    have hlc := len_c xs[k]
    have htc := take_c xs[k]
    ((try simp at hrec); (try simp -implicitDefEqProofs [h, e3, e4, hlc, htc]); repeat' first | ((first | with_reducible refine gdK_em (fun hc => ?_) (fun hc => ?_) | with_reducible refine cdK_em (fun hc => ?_) (fun hc => ?_) | with_reducible refine pickK_em (fun hc => ?_) (fun hc => ?_)) <;> (have hc' := hc; (try simp at hc'); simp -implicitDefEqProofs [hc, hc', h, e3, e4, hlc, htc])) | (with_reducible apply callK_pure <;> first | (simp only [eras, era, eras_map]; first | with_reducible exact hrec | simpa using hrec) | (simp -implicitDefEqProofs [h, e3, e4, hlc, htc])))
    exact ⟨k + 1, by omega, by omega, by rw [hc2]; push_cast; omega, by push_cast; rfl⟩
  · have : k = xs.length := by omega
    subst this
    rw [List.take_length]
    ((try simp -implicitDefEqProofs); repeat' first | ((first | with_reducible refine gdK_em (fun hc => ?_) (fun hc => ?_) | with_reducible refine cdK_em (fun hc => ?_) (fun hc => ?_) | with_reducible refine pickK_em (fun hc => ?_) (fun hc => ?_)) <;> (have hc' := hc; (try simp at hc'); simp -implicitDefEqProofs [hc, hc'])))
theorem l_counts (p : List Rul) (l : List Account) : Pure Tryd.prog 3 [Rul.l p, Account.l l] (vB true) := by
  have ha := w_awake
  have hf := w_few p l
  by_cases h : (fewB p && decide (l.length ≤ 210)) = true
  case neg =>
    rw [Bool.not_eq_true] at h
    rw [h] at hf
    (refine Pure.of_code mix Tryd.call3 k_3 (by simp) (fun hB => ?_); (try simp at hB); (try simp -implicitDefEqProofs [c_tallystonelaw34_CompileCounts_3]))
    ((try simp at ha); (try simp at hf); (try simp -implicitDefEqProofs); repeat' first | ((first | with_reducible refine gdK_em (fun hc => ?_) (fun hc => ?_) | with_reducible refine cdK_em (fun hc => ?_) (fun hc => ?_) | with_reducible refine pickK_em (fun hc => ?_) (fun hc => ?_)) <;> (have hc' := hc; (try simp at hc'); simp -implicitDefEqProofs [hc, hc'])) | (with_reducible apply callK_pure <;> first | (simp only [eras, era, eras_map]; first | with_reducible exact ha | with_reducible exact hf | simpa using ha | simpa using hf) | (simp -implicitDefEqProofs)))
  rw [h] at hf
  simp only [Bool.and_eq_true, decide_eq_true_eq] at h
  obtain ⟨h1, h2⟩ := h
  obtain ⟨fa, fb, fc⟩ := few_of h1
  have fd := few_cnt h1
  have hp := w_progOf h1
  have hc := w_CompOf h1 h2
  unfold cmpR at hc
  by_cases h0 : (chkR p l).2 = 0
  case neg =>
    rw [if_neg h0] at hc
    generalize chkR p l = q at *
    have q1 : (q.2 == 0) = false := by simpa using h0
    have q2 : (q.2 != 0) = true := by simpa using h0
    (refine Pure.of_code mix Tryd.call3 k_3 (by simp) (fun hB => ?_); (try simp at hB); (try simp -implicitDefEqProofs [c_tallystonelaw34_CompileCounts_3]))
    ((try simp at ha); (try simp at hf); (try simp at hp); (try simp at hc); (try simp -implicitDefEqProofs [h0, q1, q2]); repeat' first | ((first | with_reducible refine gdK_em (fun hc => ?_) (fun hc => ?_) | with_reducible refine cdK_em (fun hc => ?_) (fun hc => ?_) | with_reducible refine pickK_em (fun hc => ?_) (fun hc => ?_)) <;> (have hc' := hc; (try simp at hc'); simp -implicitDefEqProofs [hc, hc', h0, q1, q2])) | (with_reducible apply callK_pure <;> first | (simp only [eras, era, eras_map]; first | with_reducible exact ha | with_reducible exact hf | with_reducible exact hp | with_reducible exact hc | simpa using ha | simpa using hf | simpa using hp | simpa using hc) | (simp -implicitDefEqProofs [h0, q1, q2])))
  rw [if_pos h0] at hc
  have hall := chkR_all h0
  obtain ⟨L, hL⟩ : ∃ L, L = (p.map codeR).map Code.c := ⟨_, rfl⟩
  have hLl : L.length = p.length := by rw [hL]; simp
  simp only [] at hc
  rw [← hL] at hc
  (refine Pure.of_code mix Tryd.call3 k_3 (by simp) (fun hB => ?_); (try simp at hB); (try simp -implicitDefEqProofs [c_tallystonelaw34_CompileCounts_3]))
  ((try simp at ha); (try simp at hf); (try simp at hp); (try simp at hc); (try simp -implicitDefEqProofs [hLl]); repeat' first | ((first | with_reducible refine gdK_em (fun hc => ?_) (fun hc => ?_) | with_reducible refine cdK_em (fun hc => ?_) (fun hc => ?_) | with_reducible refine pickK_em (fun hc => ?_) (fun hc => ?_)) <;> (have hc' := hc; (try simp at hc'); simp -implicitDefEqProofs [hc, hc', hLl])) | (with_reducible apply callK_pure <;> first | (simp only [eras, era, eras_map]; first | with_reducible exact ha | with_reducible exact hf | with_reducible exact hp | with_reducible exact hc | simpa using ha | simpa using hf | simpa using hp | simpa using hc) | (simp -implicitDefEqProofs [hLl])))
  refine loop_rule (X := Nat) (fun i => i ≤ p.length) (fun i => [(0, Rul.l p), (5, .t (.sl L)), (8, vI i)]) (fun _ => ⟨[], []⟩) (fun i => p.length - i) 0 (by simp) (by simp) ?_
  rintro i hi hbd
  clear hbd
  rcases Nat.lt_or_ge i p.length with g | g
  · have hx : p[i]? = some p[i] := by simp [g]
    have e3 : IntKind.i64.wrap ((i : Int) + 1) = (i : Int) + 1 := wrap64 (by omega) (by omega)
    obtain ⟨v1, v2⟩ := hall p[i] (List.getElem_mem g)
    have hvalid := codeR_valid v1 v2
    have hclen := codeR_len p[i]
    have hsl := fb p[i] (List.getElem_mem g)
    have hcs := fd p[i] (List.getElem_mem g)
    have hxs := fc p[i] (List.getElem_mem g)
    have hcv := meaB (codeR p[i]) (by omega)
    rw [hvalid] at hcv
    have hnm : (codeR p[i]).name = p[i].name ∧ (codeR p[i]).pair = p[i].pair := ⟨rfl, rfl⟩
    have hLk : L[i]? = some [.str (codeR p[i]).name, .bool (codeR p[i]).pair, .sl ((codeR p[i]).ins.map Ins.c)] := by rw [hL]; simp [g, Code.c]
    obtain ⟨nm, pr, ss, to, hr⟩ : ∃ nm pr ss to, p[i] = ⟨nm, pr, ss, to⟩ := ⟨_, _, _, _, rfl⟩
    have hrk : (p.map Rul.c)[i]? = some [.str nm, .bool pr, .sl (ss.map Stm.c), .int .i64 to] := by simp [g, hr, Rul.c]
    have hcc : p[i].c = [.str nm, .bool pr, .sl (ss.map Stm.c), .int .i64 to] := by rw [hr]; rfl
    rw [hnm.1, hnm.2] at hLk
    generalize codeR p[i] = cd at *
    obtain ⟨cn, cp, ci⟩ := cd
    simp only [] at hnm hclen hLk
    rw [hr] at hsl hcs hxs hnm hclen hLk
    simp only [] at hsl hcs hxs hnm hclen hLk
    obtain ⟨rfl, rfl⟩ := hnm
    have hLe : ∀ h, L[i]'h = [.str cn, .bool cp, .sl (ci.map Ins.c)] := fun h => by rw [List.getElem?_eq_getElem h] at hLk; exact Option.some.inj hLk
    have e5 : IntKind.i64.wrap ((1 : Int) + ss.length) = (1 : Int) + ss.length := wrap64 (by omega) (by omega)
    ((try simp -implicitDefEqProofs [g, hrk, hcc, e5]); repeat' first | ((first | with_reducible refine gdK_em (fun hc => ?_) (fun hc => ?_) | with_reducible refine cdK_em (fun hc => ?_) (fun hc => ?_) | with_reducible refine pickK_em (fun hc => ?_) (fun hc => ?_)) <;> (have hc' := hc; (try simp at hc'); simp -implicitDefEqProofs [hc, hc', g, hrk, hcc, e5])))
    refine loop_rule (X := Nat) (fun k => k ≤ ss.length) (fun k => [(0, Rul.l p), (5, .t (.sl L)), (8, vI i), (9, vI ((1 : Int) + ss.length + cntS (ss.take k))), (10, vI k)]) (fun _ => ⟨[], []⟩) (fun k => ss.length - k) 0 (by simp) (by simp [cntS]) ?_
    rintro k hk hbd
    clear hbd
    rcases Nat.lt_or_ge k ss.length with gk | gk
    · have gx : ss[k]? = some ss[k] := by simp [gk]
      have e4 : IntKind.i64.wrap ((k : Int) + 1) = (k : Int) + 1 := wrap64 (by omega) (by omega)
      have hxk := hxs _ (List.getElem_mem gk)
      obtain ⟨kd, acc, sn, x, hs⟩ : ∃ kd acc sn x, ss[k] = ⟨kd, acc, sn, x⟩ := ⟨_, _, _, _, rfl⟩
      have hsk : (ss.map Stm.c)[k]? = some (.int .i64 kd :: .int .i64 acc :: .str sn :: x.c) := by simp [gk, hs, Stm.c]
      have hc2 : Stm.c ⟨kd, acc, sn, x⟩ = (.int .i64 kd :: .int .i64 acc :: .str sn :: x.c) := rfl
      rw [hs] at hxk
      simp only [] at hxk
      have hcn := w_Count x (by omega)
      have hs2 : cntS (ss.take (k + 1)) = cntS (ss.take k) + x.cnt := by rw [take_next gx, hs]; simp [cntS]
      have hs3 : cntS (ss.take (k + 1)) ≤ cntS ss := by
        have := List.take_append_drop (k + 1) ss
        conv => rhs; rw [← this]
        unfold cntS
        rw [List.map_append, List.sum_append]; omega
      have e6 : IntKind.i64.wrap ((1 : Int) + ss.length + cntS (ss.take k) + x.cnt) = (1 : Int) + ss.length + cntS (ss.take k) + x.cnt := wrap64 (by omega) (by omega)
      have hlc := len_c x
      have htc := take_c x
      ((try simp at hcn); (try simp -implicitDefEqProofs [g, hrk, hcc, gk, hs, hsk, hc2, hlc, htc, e4, e6]); repeat' first | ((first | with_reducible refine gdK_em (fun hc => ?_) (fun hc => ?_) | with_reducible refine cdK_em (fun hc => ?_) (fun hc => ?_) | with_reducible refine pickK_em (fun hc => ?_) (fun hc => ?_)) <;> (have hc' := hc; (try simp at hc'); simp -implicitDefEqProofs [hc, hc', g, hrk, hcc, gk, hs, hsk, hc2, hlc, htc, e4, e6])) | (with_reducible apply callK_pure <;> first | (simp only [eras, era, eras_map]; first | with_reducible exact hcn | simpa using hcn) | (simp -implicitDefEqProofs [g, hrk, hcc, gk, hs, hsk, hc2, hlc, htc, e4, e6])))
      exact ⟨k + 1, by omega, by omega, by rw [hs2]; push_cast; omega, by push_cast; rfl⟩
    · have : k = ss.length := by omega
      subst this
      rw [List.take_length]
      have hw : (ci.length : Int) = (1 : Int) + ss.length + cntS ss := by omega
      simp only [Code.v, Code.c, List.map] at hcv
      ((try simp at hcv); (try simp -implicitDefEqProofs [g, hrk, hcc, hLl, hLk, hLe, hw, e3]); repeat' first | ((first | with_reducible refine gdK_em (fun hc => ?_) (fun hc => ?_) | with_reducible refine cdK_em (fun hc => ?_) (fun hc => ?_) | with_reducible refine pickK_em (fun hc => ?_) (fun hc => ?_)) <;> (have hc' := hc; (try simp at hc'); simp -implicitDefEqProofs [hc, hc', g, hrk, hcc, hLl, hLk, hLe, hw, e3])) | (with_reducible apply callK_pure <;> first | (simp only [eras, era, eras_map]; first | with_reducible exact hcv | simpa using hcv) | (simp -implicitDefEqProofs [g, hrk, hcc, hLl, hLk, hLe, hw, e3])))
      exact ⟨i + 1, by omega, by omega, by push_cast; rfl⟩
  · have : i = p.length := by omega
    subst this
    ((try simp -implicitDefEqProofs [g]); repeat' first | ((first | with_reducible refine gdK_em (fun hc => ?_) (fun hc => ?_) | with_reducible refine cdK_em (fun hc => ?_) (fun hc => ?_) | with_reducible refine pickK_em (fun hc => ?_) (fun hc => ?_)) <;> (have hc' := hc; (try simp at hc'); simp -implicitDefEqProofs [hc, hc', g])))
end Go.Proofs.YtckffbklaepmpaaDoor
