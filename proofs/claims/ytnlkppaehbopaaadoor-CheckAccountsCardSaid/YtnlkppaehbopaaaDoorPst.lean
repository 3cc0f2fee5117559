/- Chapter 33: check.Posts. -/
import Derived.Test.YtnlkppaehbopaaaDoorSrt
set_option linter.unusedSimpArgs false
set_option linter.unusedVariables false
set_option maxHeartbeats 4000000
set_option maxRecDepth 8000
namespace Go.Proofs.YtnlkppaehbopaaaDoor
open E

theorem okI (a b : Nat) (q : List Int) : okNs a b (q.map vI) = true := okNs_all (fun v hv => by obtain ⟨t, _, rfl⟩ := List.mem_map.1 hv; rfl)
theorem okT (a b : Nat) (q : List T) : okNs a b (q.map V.t) = true := okNs_all (fun v hv => by obtain ⟨t, _, rfl⟩ := List.mem_map.1 hv; rfl)
theorem leB_bufI (n m : Nat) (L : List Int) : leB n m (bufI L) (bufI L) := ⟨rfl, rfl, LeL_refl _, okI n m L⟩
theorem leB_cellsT (n m : Nat) (q : List T) : leB n m (.cells (q.map V.t)) (.cells (q.map V.t)) := ⟨LeL_refl _, okT n m q⟩
def pstV (k : Nat) (A : List Bx) (L : List Int) : V := if k = 0 then .snil else .bw A.length L.length
def pstB (k : Nat) (A : List Bx) (L : List Int) : List Bx := if k = 0 then A else A ++ [bufI L]
theorem w_Posts (p : List Rul) (hp : p.length ≤ 50) (hss : ∀ r ∈ p, r.stmts.length ≤ 40) : Pure Tryd.prog 16 [Rul.l p] (intsV (ddL (srtI (postL p)))) := by
  generalize hR : ddL (srtI (postL p)) = R
  (refine Pure.of_codeB mix Tryd.call16 kb_16 (by simp) (fun hB => ?_); (try simp at hB); (try simp -implicitDefEqProofs [b_check_Posts_16]))
  refine loop_rule (X := Nat × List Bx) (fun X => X.1 ≤ p.length ∧ OkB X.2)
    (fun X => [(3, pstV X.1 X.2 (postL (p.take X.1))), (8, Rul.l p), (9, vI p.length), (10, vI X.1)])
    (fun X => ⟨pstB X.1 X.2 (postL (p.take X.1)), []⟩) (fun X => p.length - X.1) (0, []) ⟨by simp, fun _ _ _ => trivial⟩ (by simp [pstV, pstB]) ?_
  rintro ⟨i, A⟩ ⟨hi, hA⟩ hbd
  simp only [] at hi hA
  clear hbd
  have gz : ∀ (l : List Bx), (A ++ l)[A.length]? = l[0]? := fun l => get0 A l
  have g1 : ∀ (l : List Bx), (A ++ l)[A.length + 1]? = l[1]? := fun l => get1 A l
  have s0 : ∀ (l : List Bx) (v : Bx), (A ++ l).set A.length v = A ++ l.set 0 v := fun l v => by rw [List.set_append_right _ _ (by omega)]; simp
  have s1 : ∀ (l : List Bx) (v : Bx), (A ++ l).set (A.length + 1) v = A ++ l.set 1 v := fun l v => by rw [List.set_append_right _ _ (by omega)]; simp
  have hle := fun l l' n m h => LeBs.app' (l := l) (l' := l') (hA n m h)
  have hdr := fun l n m h => LeBs.drop' (n := n) (m := m) l (hA n m h)
  rcases Nat.lt_or_ge i p.length with h | h
  · have hx : p[i]? = some p[i] := by simp [h]
    have e3 : IntKind.i64.wrap ((i : Int) + 1) = (i : Int) + 1 := wrap64 (by omega) (by omega)
    have hsl := hss _ (List.getElem_mem h)
    have hnx := postL_next hx
    have hpl : (postL (p.take i)).length ≤ 2050 := by
      have := postL_len (p.take i) 40 (fun r hr => hss r (List.mem_of_mem_take hr))
      have h2 : (p.take i).length ≤ 50 := by simp; omega
      omega
    obtain ⟨nm, pr, ss, to, hr⟩ : ∃ nm pr ss to, p[i] = ⟨nm, pr, ss, to⟩ := ⟨_, _, _, _, rfl⟩
    have hrk : (p.map Rul.c)[i]? = some [.str nm, .bool pr, .sl (ss.map Stm.c), .int .i64 to] := by simp [h, hr, Rul.c]
    have hcc : p[i].c = [.str nm, .bool pr, .sl (ss.map Stm.c), .int .i64 to] := by rw [hr]; rfl
    rw [hr] at hsl hnx
    simp only [] at hsl hnx
    have e9 : ∀ (A2 : List Bx) (L : List Int), pstV (i + 1) A2 L = .bw A2.length L.length := fun A2 L => by unfold pstV; rw [if_neg (by omega)]
    have e8 : ∀ (A2 : List Bx) (L : List Int), pstB (i + 1) A2 L = A2 ++ [bufI L] := fun A2 L => by unfold pstB; rw [if_neg (by omega)]
    rcases Nat.eq_zero_or_pos i with hi0 | hi0
    · subst hi0
      have hL00 : postL (p.take 0) = [] := by simp [postL]
      rw [hL00] at hnx hpl
      have e7 : ∀ L, pstV 0 A L = .snil := fun _ => rfl
      have e6 : ∀ L, pstB 0 A L = A := fun _ => rfl
      simp only [e7, e6]
      obtain ⟨L0, hL0⟩ : ∃ L0 : List Int, L0 = [] := ⟨_, rfl⟩
      rw [← hL0] at hnx hpl
      ((try simp -implicitDefEqProofs [h, hrk, hcc, gz, g1, s0, s1, hle, hdr]); repeat' first | ((first | with_reducible refine gdK_em (fun hc => ?_) (fun hc => ?_) | with_reducible refine cdK_em (fun hc => ?_) (fun hc => ?_) | with_reducible refine pickK_em (fun hc => ?_) (fun hc => ?_)) <;> (have hc' := hc; (try simp at hc'); simp -implicitDefEqProofs [hc, hc', h, hrk, hcc, gz, g1, s0, s1, hle, hdr])))
      refine ⟨by unfold maxLen; omega, ?_⟩
      refine loop_rule (X := Nat × List Bx) (fun X => X.1 ≤ ss.length ∧ OkB X.2)
        (fun X => [(3, .bw X.2.length (L0 ++ to :: accs (ss.take X.1)).length), (8, Rul.l p), (9, vI p.length), (10, vI (0 : Nat)), (20, Stm.l ss), (21, vI ss.length), (22, vI X.1)])
        (fun X => ⟨X.2 ++ [bufI (L0 ++ to :: accs (ss.take X.1))], []⟩) (fun X => ss.length - X.1) (0, A ++ [.cells [vS nm, vB pr, Stm.l ss, vI to]]) ⟨by simp, ?_⟩ ?_ ?_
      · refine hA.more _ (fun n m _ => ?_)
        exact ⟨⟨LeL_refl _, rfl⟩, trivial⟩
      · simp only [hL0]
        simp [accs, bufI, hle, leB, LeL_refl, LeBs, okNs, okN]
      rintro ⟨k, A2⟩ ⟨hk, hA2⟩ hbd
      simp only [] at hk hA2
      clear hbd gz g1 s0 s1 hle hdr
      have gz : ∀ (l : List Bx), (A2 ++ l)[A2.length]? = l[0]? := fun l => get0 A2 l
      have g1 : ∀ (l : List Bx), (A2 ++ l)[A2.length + 1]? = l[1]? := fun l => get1 A2 l
      have s0 : ∀ (l : List Bx) (v : Bx), (A2 ++ l).set A2.length v = A2 ++ l.set 0 v := fun l v => by rw [List.set_append_right _ _ (by omega)]; simp
      have s1 : ∀ (l : List Bx) (v : Bx), (A2 ++ l).set (A2.length + 1) v = A2 ++ l.set 1 v := fun l v => by rw [List.set_append_right _ _ (by omega)]; simp
      have hle := fun l l' n m h => LeBs.app' (l := l) (l' := l') (hA2 n m h)
      have hdr := fun l n m h => LeBs.drop' (n := n) (m := m) l (hA2 n m h)
      have hal := accs_len (ss.take k)
      have htl : (ss.take k).length ≤ 40 := by simp; omega
      rcases Nat.lt_or_ge k ss.length with g | g
      · have e4 : IntKind.i64.wrap ((k : Int) + 1) = (k : Int) + 1 := wrap64 (by omega) (by omega)
        have gx : ss[k]? = some ss[k] := by simp [g]
        have han := accs_next gx
        obtain ⟨kd, acc, sn, x, hs⟩ : ∃ kd acc sn x, ss[k] = ⟨kd, acc, sn, x⟩ := ⟨_, _, _, _, rfl⟩
        have hsk : (ss.map Stm.c)[k]? = some (.int .i64 kd :: .int .i64 acc :: .str sn :: x.c) := by simp [g, hs, Stm.c]
        have hc2 : Stm.c ⟨kd, acc, sn, x⟩ = (.int .i64 kd :: .int .i64 acc :: .str sn :: x.c) := rfl
        have hlc := len_c x
        have htc := take_c x
        rw [hs] at han
        by_cases k3 : kd = 3
        · subst k3
          have ha : accs [⟨3, acc, sn, x⟩] = [acc] := rfl
          rw [ha] at han
          have hML : (L0 ++ to :: accs (ss.take (k + 1))) = (L0 ++ to :: accs (ss.take k)) ++ [acc] := by rw [han]; simp
          have hMl : (L0 ++ to :: accs (ss.take k)).length ≤ 3000 := by simp; omega
          generalize hM : (L0 ++ to :: accs (ss.take k)) = M at *
          simp only [bufI]
          have hbl : (M.map vI).length = M.length := by simp
          generalize hbv : M.map vI = bv at *
          ((try simp -implicitDefEqProofs [g, hs, hsk, hc2, hlc, htc, e4, gz, g1, s0, s1, hle, hdr, hbl]); repeat' first | ((first | with_reducible refine gdK_em (fun hc => ?_) (fun hc => ?_) | with_reducible refine cdK_em (fun hc => ?_) (fun hc => ?_) | with_reducible refine pickK_em (fun hc => ?_) (fun hc => ?_)) <;> (have hc' := hc; (try simp at hc'); simp -implicitDefEqProofs [hc, hc', g, hs, hsk, hc2, hlc, htc, e4, gz, g1, s0, s1, hle, hdr, hbl])))
          have hbt : bv.take M.length = bv := List.take_of_length_le (by omega)
          have hfin : L0.map vI ++ vI to :: (accs (ss.take (k + 1))).map vI = bv ++ [vI acc] := by
            have := congrArg (List.map vI) hML
            simp only [List.map_append, List.map_cons, List.map_nil, hbv] at this
            exact this
          have hsc := leB_cellsT
          refine ⟨⟨by unfold maxLen; omega, by omega⟩, k + 1, A2 ++ [.dead, .cells (vI 3 :: vI acc :: vS sn :: x.c.map V.t)], ⟨by omega, by refine hA2.more _ (fun n m _ => ?_); exact ⟨trivial, leB_cellsT n m (.int .i64 3 :: .int .i64 acc :: .str sn :: x.c), trivial⟩⟩, by omega, ?_, ?_, by push_cast; rfl⟩
          · rw [hfin, hbt, List.append_assoc]
            refine (hle _ _ _ _ (by simp; omega)).2 ⟨trivial, leB_cellsT _ _ (.int .i64 3 :: .int .i64 acc :: .str sn :: x.c), ?_, trivial⟩
            have : bv ++ [vI acc] = (M ++ [acc]).map vI := by rw [List.map_append, hbv]; rfl
            show leB _ _ (.buf _ _ (bv ++ [vI acc])) (.buf _ _ (bv ++ [vI acc]))
            rw [this]
            exact leB_bufI _ _ _
          · have q1 : (A2 ++ [Bx.dead, .cells (vI 3 :: vI acc :: vS sn :: x.c.map V.t)]).length = A2.length + 2 := by simp
            have q2 : L0.length + ((accs (ss.take (k + 1))).length + 1) = M.length + 1 := by
              have := congrArg List.length hML
              simp only [List.length_append, List.length_cons, List.length_nil] at this
              omega
            rw [q1, q2]
            exact leA.refl _
        · have k3' : (kd == 3) = false := by simpa using k3
          have ha : accs [⟨kd, acc, sn, x⟩] = [] := by simp [accs, k3]
          rw [ha, List.append_nil] at han
          ((try simp -implicitDefEqProofs [g, hs, hsk, hc2, hlc, htc, e4, k3, k3', gz, g1, s0, s1, hle, hdr]); repeat' first | ((first | with_reducible refine gdK_em (fun hc => ?_) (fun hc => ?_) | with_reducible refine cdK_em (fun hc => ?_) (fun hc => ?_) | with_reducible refine pickK_em (fun hc => ?_) (fun hc => ?_)) <;> (have hc' := hc; (try simp at hc'); simp -implicitDefEqProofs [hc, hc', g, hs, hsk, hc2, hlc, htc, e4, k3, k3', gz, g1, s0, s1, hle, hdr])))
          refine ⟨k + 1, A2, ⟨by omega, hA2⟩, by omega, ?_, by rw [han]; exact leA.refl _, by push_cast; rfl⟩
          rw [han]
          exact (hle _ _ _ _ (by omega)).2 ⟨leB_bufI _ _ _, trivial⟩
      · have : k = ss.length := by omega
        subst this
        rw [List.take_length] at *
        ((try simp -implicitDefEqProofs [e3, hle, hdr]); repeat' first | ((first | with_reducible refine gdK_em (fun hc => ?_) (fun hc => ?_) | with_reducible refine cdK_em (fun hc => ?_) (fun hc => ?_) | with_reducible refine pickK_em (fun hc => ?_) (fun hc => ?_)) <;> (have hc' := hc; (try simp at hc'); simp -implicitDefEqProofs [hc, hc', e3, hle, hdr])))
        refine ⟨0 + 1, A2, ⟨by omega, hA2⟩, by omega, ?_, ⟨?_, ?_⟩, by simp⟩
        · rw [e8, hnx]
          exact (hle _ _ _ _ (by simp)).2 ⟨leB_bufI _ _ _, trivial⟩
        · rw [e9, hnx]
          have q : (L0 ++ to :: accs ss).length = L0.length + ((accs ss).length + 1) := by simp
          rw [q]
          exact leA.refl _
        · rw [e8, e9]; simp [okN]
    · have e7 : pstV i A (postL (p.take i)) = .bw A.length (postL (p.take i)).length := by unfold pstV; rw [if_neg (by omega)]
      have e6 : pstB i A (postL (p.take i)) = A ++ [bufI (postL (p.take i))] := by unfold pstB; rw [if_neg (by omega)]
      rw [e7, e6]
      generalize postL (p.take i) = L0 at *
      simp only [bufI]
      have hbl : (L0.map vI).length = L0.length := by simp
      generalize hbv : L0.map vI = bv at *
      ((try simp -implicitDefEqProofs [h, hrk, hcc, gz, g1, s0, s1, hle, hdr, hbl]); repeat' first | ((first | with_reducible refine gdK_em (fun hc => ?_) (fun hc => ?_) | with_reducible refine cdK_em (fun hc => ?_) (fun hc => ?_) | with_reducible refine pickK_em (fun hc => ?_) (fun hc => ?_)) <;> (have hc' := hc; (try simp at hc'); simp -implicitDefEqProofs [hc, hc', h, hrk, hcc, gz, g1, s0, s1, hle, hdr, hbl])))
      refine ⟨⟨by unfold maxLen; omega, by omega⟩, ?_⟩
      refine loop_rule (X := Nat × List Bx) (fun X => X.1 ≤ ss.length ∧ OkB X.2)
        (fun X => [(3, .bw X.2.length (L0 ++ to :: accs (ss.take X.1)).length), (8, Rul.l p), (9, vI p.length), (10, vI (i : Nat)), (20, Stm.l ss), (21, vI ss.length), (22, vI X.1)])
        (fun X => ⟨X.2 ++ [bufI (L0 ++ to :: accs (ss.take X.1))], []⟩) (fun X => ss.length - X.1) (0, A ++ [.dead, .cells [vS nm, vB pr, Stm.l ss, vI to]]) ⟨by simp, ?_⟩ ?_ ?_
      · refine hA.more _ (fun n m _ => ?_)
        exact ⟨trivial, ⟨LeL_refl _, rfl⟩, trivial⟩
      · have hbt : bv.take L0.length = bv := List.take_of_length_le (by omega)
        have hok2 : ∀ a b, okNs a b (bv ++ [V.t (T.int .i64 to)]) = true := fun a b => by
          have := okI a b (L0 ++ [to])
          rw [List.map_append, hbv] at this
          exact this
        simp [accs, bufI, hbt, hbv, hle, leB, LeL_refl, LeBs, okNs, okN, hok2]
      rintro ⟨k, A2⟩ ⟨hk, hA2⟩ hbd
      simp only [] at hk hA2
      clear hbd gz g1 s0 s1 hle hdr
      have gz : ∀ (l : List Bx), (A2 ++ l)[A2.length]? = l[0]? := fun l => get0 A2 l
      have g1 : ∀ (l : List Bx), (A2 ++ l)[A2.length + 1]? = l[1]? := fun l => get1 A2 l
      have s0 : ∀ (l : List Bx) (v : Bx), (A2 ++ l).set A2.length v = A2 ++ l.set 0 v := fun l v => by rw [List.set_append_right _ _ (by omega)]; simp
      have s1 : ∀ (l : List Bx) (v : Bx), (A2 ++ l).set (A2.length + 1) v = A2 ++ l.set 1 v := fun l v => by rw [List.set_append_right _ _ (by omega)]; simp
      have hle := fun l l' n m h => LeBs.app' (l := l) (l' := l') (hA2 n m h)
      have hdr := fun l n m h => LeBs.drop' (n := n) (m := m) l (hA2 n m h)
      have hal := accs_len (ss.take k)
      have htl : (ss.take k).length ≤ 40 := by simp; omega
      rcases Nat.lt_or_ge k ss.length with g | g
      · have e4 : IntKind.i64.wrap ((k : Int) + 1) = (k : Int) + 1 := wrap64 (by omega) (by omega)
        have gx : ss[k]? = some ss[k] := by simp [g]
        have han := accs_next gx
        obtain ⟨kd, acc, sn, x, hs⟩ : ∃ kd acc sn x, ss[k] = ⟨kd, acc, sn, x⟩ := ⟨_, _, _, _, rfl⟩
        have hsk : (ss.map Stm.c)[k]? = some (.int .i64 kd :: .int .i64 acc :: .str sn :: x.c) := by simp [g, hs, Stm.c]
        have hc2 : Stm.c ⟨kd, acc, sn, x⟩ = (.int .i64 kd :: .int .i64 acc :: .str sn :: x.c) := rfl
        have hlc := len_c x
        have htc := take_c x
        rw [hs] at han
        by_cases k3 : kd = 3
        · subst k3
          have ha : accs [⟨3, acc, sn, x⟩] = [acc] := rfl
          rw [ha] at han
          have hML : (L0 ++ to :: accs (ss.take (k + 1))) = (L0 ++ to :: accs (ss.take k)) ++ [acc] := by rw [han]; simp
          have hMl : (L0 ++ to :: accs (ss.take k)).length ≤ 3000 := by simp; omega
          generalize hM : (L0 ++ to :: accs (ss.take k)) = M at *
          simp only [bufI]
          have hbl : (M.map vI).length = M.length := by simp
          generalize hbv : M.map vI = bv at *
          ((try simp -implicitDefEqProofs [g, hs, hsk, hc2, hlc, htc, e4, gz, g1, s0, s1, hle, hdr, hbl]); repeat' first | ((first | with_reducible refine gdK_em (fun hc => ?_) (fun hc => ?_) | with_reducible refine cdK_em (fun hc => ?_) (fun hc => ?_) | with_reducible refine pickK_em (fun hc => ?_) (fun hc => ?_)) <;> (have hc' := hc; (try simp at hc'); simp -implicitDefEqProofs [hc, hc', g, hs, hsk, hc2, hlc, htc, e4, gz, g1, s0, s1, hle, hdr, hbl])))
          have hbt : bv.take M.length = bv := List.take_of_length_le (by omega)
          have hfin : L0.map vI ++ vI to :: (accs (ss.take (k + 1))).map vI = bv ++ [vI acc] := by
            have := congrArg (List.map vI) hML
            simp only [List.map_append, List.map_cons, List.map_nil, hbv] at this
            exact this
          have hsc := leB_cellsT
          refine ⟨⟨by unfold maxLen; omega, by omega⟩, k + 1, A2 ++ [.dead, .cells (vI 3 :: vI acc :: vS sn :: x.c.map V.t)], ⟨by omega, by refine hA2.more _ (fun n m _ => ?_); exact ⟨trivial, leB_cellsT n m (.int .i64 3 :: .int .i64 acc :: .str sn :: x.c), trivial⟩⟩, by omega, ?_, ?_, by push_cast; rfl⟩
          · rw [hfin, hbt, List.append_assoc]
            refine (hle _ _ _ _ (by simp; omega)).2 ⟨trivial, leB_cellsT _ _ (.int .i64 3 :: .int .i64 acc :: .str sn :: x.c), ?_, trivial⟩
            have : bv ++ [vI acc] = (M ++ [acc]).map vI := by rw [List.map_append, hbv]; rfl
            show leB _ _ (.buf _ _ (bv ++ [vI acc])) (.buf _ _ (bv ++ [vI acc]))
            rw [this]
            exact leB_bufI _ _ _
          · have q1 : (A2 ++ [Bx.dead, .cells (vI 3 :: vI acc :: vS sn :: x.c.map V.t)]).length = A2.length + 2 := by simp
            have q2 : L0.length + ((accs (ss.take (k + 1))).length + 1) = M.length + 1 := by
              have := congrArg List.length hML
              simp only [List.length_append, List.length_cons, List.length_nil] at this
              omega
            rw [q1, q2]
            exact leA.refl _
        · have k3' : (kd == 3) = false := by simpa using k3
          have ha : accs [⟨kd, acc, sn, x⟩] = [] := by simp [accs, k3]
          rw [ha, List.append_nil] at han
          ((try simp -implicitDefEqProofs [g, hs, hsk, hc2, hlc, htc, e4, k3, k3', gz, g1, s0, s1, hle, hdr]); repeat' first | ((first | with_reducible refine gdK_em (fun hc => ?_) (fun hc => ?_) | with_reducible refine cdK_em (fun hc => ?_) (fun hc => ?_) | with_reducible refine pickK_em (fun hc => ?_) (fun hc => ?_)) <;> (have hc' := hc; (try simp at hc'); simp -implicitDefEqProofs [hc, hc', g, hs, hsk, hc2, hlc, htc, e4, k3, k3', gz, g1, s0, s1, hle, hdr])))
          refine ⟨k + 1, A2, ⟨by omega, hA2⟩, by omega, ?_, by rw [han]; exact leA.refl _, by push_cast; rfl⟩
          rw [han]
          exact (hle _ _ _ _ (by omega)).2 ⟨leB_bufI _ _ _, trivial⟩
      · have : k = ss.length := by omega
        subst this
        rw [List.take_length] at *
        ((try simp -implicitDefEqProofs [e3, hle, hdr]); repeat' first | ((first | with_reducible refine gdK_em (fun hc => ?_) (fun hc => ?_) | with_reducible refine cdK_em (fun hc => ?_) (fun hc => ?_) | with_reducible refine pickK_em (fun hc => ?_) (fun hc => ?_)) <;> (have hc' := hc; (try simp at hc'); simp -implicitDefEqProofs [hc, hc', e3, hle, hdr])))
        refine ⟨i + 1, A2, ⟨by omega, hA2⟩, by omega, ?_, ⟨?_, ?_⟩, by simp⟩
        · rw [e8, hnx]
          exact (hle _ _ _ _ (by simp)).2 ⟨leB_bufI _ _ _, trivial⟩
        · rw [e9, hnx]
          have q : (L0 ++ to :: accs ss).length = L0.length + ((accs ss).length + 1) := by simp
          rw [q]
          exact leA.refl _
        · rw [e8, e9]; simp [okN]
  · have : i = p.length := by omega
    subst this
    rw [List.take_length]
    rcases Nat.eq_zero_or_pos p.length with hp0 | hp0
    · have : p = [] := List.length_eq_zero_iff.1 hp0
      subst this
      have hR0 : R = [] := by rw [← hR]; simp [postL, srtI, ddL]
      subst hR0
      have h1 := w_Sort0
      have h2 := w_Cmp0
      simp only [pstV, pstB, List.length_nil, if_true]
      ((try simp at h1); (try simp at h2); (try simp -implicitDefEqProofs); repeat' first | ((first | with_reducible refine gdK_em (fun hc => ?_) (fun hc => ?_) | with_reducible refine cdK_em (fun hc => ?_) (fun hc => ?_) | with_reducible refine pickK_em (fun hc => ?_) (fun hc => ?_)) <;> (have hc' := hc; (try simp at hc'); simp -implicitDefEqProofs [hc, hc'])) | (with_reducible apply callK_pure <;> first | (simp only [eras, era, eras_map]; first | with_reducible exact h1 | with_reducible exact h2 | simpa using h1 | simpa using h2) | (simp -implicitDefEqProofs)))
    · have e9 : pstV p.length A (postL p) = .bw A.length (postL p).length := by unfold pstV; rw [if_neg (by omega)]
      have e8 : pstB p.length A (postL p) = A ++ [bufI (postL p)] := by unfold pstB; rw [if_neg (by omega)]
      have hpl := postL_len p 40 hss
      rw [e9, e8]
      have h1 := w_Sort A.length (postL p) ⟨A ++ [bufI (postL p)], []⟩ (by omega) (by simp)
      have h2 := w_Cmp A (srtI (postL p)) (by rw [srtI_len]; omega) hA
      simp only [s0, List.set_cons_zero] at h1
      rw [hR, srtI_len] at h2
      ((try simp -implicitDefEqProofs); repeat' first | ((first | with_reducible refine gdK_em (fun hc => ?_) (fun hc => ?_) | with_reducible refine cdK_em (fun hc => ?_) (fun hc => ?_) | with_reducible refine pickK_em (fun hc => ?_) (fun hc => ?_)) <;> (have hc' := hc; (try simp at hc'); simp -implicitDefEqProofs [hc, hc'])))
      refine callK_fn h1 (fun hd => by cases hd) ?_
      ((try simp -implicitDefEqProofs); repeat' first | ((first | with_reducible refine gdK_em (fun hc => ?_) (fun hc => ?_) | with_reducible refine cdK_em (fun hc => ?_) (fun hc => ?_) | with_reducible refine pickK_em (fun hc => ?_) (fun hc => ?_)) <;> (have hc' := hc; (try simp at hc'); simp -implicitDefEqProofs [hc, hc'])))
      refine callK_fn h2 (fun hd => by cases hd) ?_
      ((try simp -implicitDefEqProofs); repeat' first | ((first | with_reducible refine gdK_em (fun hc => ?_) (fun hc => ?_) | with_reducible refine cdK_em (fun hc => ?_) (fun hc => ?_) | with_reducible refine pickK_em (fun hc => ?_) (fun hc => ?_)) <;> (have hc' := hc; (try simp at hc'); simp -implicitDefEqProofs [hc, hc'])))
end Go.Proofs.YtnlkppaehbopaaaDoor
