/- slices.Compact of ints, in a box. -/
import Derived.Test.YtnlkppaehbopaaaDoorPut
set_option linter.unusedSimpArgs false
set_option linter.unusedVariables false
set_option maxHeartbeats 4000000
set_option maxRecDepth 8000
namespace Go.Proofs.YtnlkppaehbopaaaDoor
open E

/-- The box with the list l of ints. -/
def bufI (l : List Int) : Bx := .buf 3 1 (l.map vI)
theorem toTs_ints : ∀ (l : List Int), toTs (l.map vI) = some (l.map fun n => T.int .i64 n)
  | [] => rfl
  | n :: l => by simp [toTs, toT, toTs_ints l]
theorem rowsT_ints (l : List Int) : rowsT 1 l.length (l.map fun n => T.int .i64 n) = some (l.map fun n => [T.int .i64 n]) := by
  unfold rowsT
  rw [if_pos (by simp)]
  congr 1
  apply List.ext_getElem?
  intro i
  simp only [List.getElem?_map, List.getElem?_range]
  rcases Nat.lt_or_ge i l.length with h | h
  · simp [h, List.take_one, List.head?_drop]
  · simp [h]
theorem rowsV_ints (l : List Int) (tl : List V) : rowsV 1 0 l.length (l.map vI ++ tl) = some (l.map fun n => [T.int .i64 n]) := by
  unfold rowsV
  have : ((l.map vI ++ tl).drop 0).take (l.length * 1) = l.map vI := by simp
  rw [this, toTs_ints, Option.bind_some, rowsT_ints]
theorem w_Cmp0 : Pure Tryd.prog 34 [.t (.sl [])] (.t (.sl [])) := by
  (refine Pure.of_code mix Tryd.call34 k_34 (by simp) (fun hB => ?_); (try simp at hB); (try simp -implicitDefEqProofs [c_slices_Compact___int_int__34]))
  ((try simp -implicitDefEqProofs); repeat' first | ((first | with_reducible refine gdK_em (fun hc => ?_) (fun hc => ?_) | with_reducible refine cdK_em (fun hc => ?_) (fun hc => ?_) | with_reducible refine pickK_em (fun hc => ?_) (fun hc => ?_)) <;> (have hc' := hc; (try simp at hc'); simp -implicitDefEqProofs [hc, hc'])))
theorem w_Cmp (A : List Bx) (zs : List Int) (hl : zs.length ≤ 1000000) (hA : OkB A) :
    FnS Tryd.prog 34 [.bw A.length zs.length] ⟨A ++ [bufI zs], []⟩ (intsV (ddL zs)) ⟨A ++ [.dead], []⟩ := by
  have gz : ∀ (l : List Bx), (A ++ l)[A.length]? = l[0]? := fun l => get0 A l
  have s0 : ∀ (l : List Bx) (v : Bx), (A ++ l).set A.length v = A ++ l.set 0 v := fun l v => by rw [List.set_append_right _ _ (by omega)]; simp
  have hle := fun l l' n m h => LeBs.app' (l := l) (l' := l') (hA n m h)
  have hdr := fun l n m h => LeBs.drop' (n := n) (m := m) l (hA n m h)
  obtain ⟨c, hc⟩ : ∃ c, c = zs.map vI := ⟨_, rfl⟩
  have hcl : c.length = zs.length := by rw [hc]; simp
  have hct : c.take zs.length = c := List.take_of_length_le (by omega)
  have hrow : (toTs (c.take zs.length)).bind (rowsT 1 zs.length) = some (zs.map fun n => [T.int .i64 n]) := by rw [hct, hc, toTs_ints, Option.bind_some, rowsT_ints]
  have hok : ∀ a b, okNs a b c = true := fun a b => by rw [hc]; exact okNs_all (fun v hv => by obtain ⟨t, _, rfl⟩ := List.mem_map.1 hv; rfl)
  have hgt : ∀ (i : Nat) (x : Int), zs[i]? = some x → c[i]? = some (vI x) ∧ ∀ h, c[i]'h = vI x := fun i x hx => by
    have h1 : c[i]? = some (vI x) := by rw [hc]; simp [hx]
    exact ⟨h1, fun h => by rw [List.getElem?_eq_getElem h] at h1; exact Option.some.inj h1⟩
  have hbuf : bufI zs = .buf 3 1 c := by rw [hc]; rfl
  rw [hbuf]
  by_cases h2 : zs.length < 2
  · have hdd : ddL zs = zs := by
      match zs, h2 with
      | [], _ => rfl
      | [x], _ => rfl
    rw [hdd]
    have h2' : decide ((zs.length : Int) < 2) = true := by simp; omega
    have h2'' : (zs.length : Int) < 2 := by omega
    (refine FnS.of_code mix Tryd.call34 k_34 (by simp) (fun hB => ?_); (try simp at hB); (try simp -implicitDefEqProofs [c_slices_Compact___int_int__34]))
    ((try simp -implicitDefEqProofs [gz, s0, hle, hdr, h2', h2'', frzV, hrow]); repeat' first | ((first | with_reducible refine gdK_em (fun hc => ?_) (fun hc => ?_) | with_reducible refine cdK_em (fun hc => ?_) (fun hc => ?_) | with_reducible refine pickK_em (fun hc => ?_) (fun hc => ?_)) <;> (have hc' := hc; (try simp at hc'); simp -implicitDefEqProofs [hc, hc', gz, s0, hle, hdr, h2', h2'', frzV, hrow])))
  have h2' : decide ((zs.length : Int) < 2) = false := by simp; omega
  have h2'' : ¬ (zs.length : Int) < 2 := by omega
  (refine FnS.of_code mix Tryd.call34 k_34 (by simp) (fun hB => ?_); (try simp at hB); (try simp -implicitDefEqProofs [c_slices_Compact___int_int__34]))
  ((try simp -implicitDefEqProofs [gz, s0, hle, hdr, h2', h2'']); repeat' first | ((first | with_reducible refine gdK_em (fun hc => ?_) (fun hc => ?_) | with_reducible refine cdK_em (fun hc => ?_) (fun hc => ?_) | with_reducible refine pickK_em (fun hc => ?_) (fun hc => ?_)) <;> (have hc' := hc; (try simp at hc'); simp -implicitDefEqProofs [hc, hc', gz, s0, hle, hdr, h2', h2''])))
  refine loop_rule (X := Nat) (fun j => j + 1 ≤ zs.length ∧ ddL (zs.take (j + 1)) = zs.take (j + 1))
    (fun j => [(0, .bw A.length zs.length), (3, vI ((j : Int) + 1))]) (fun _ => ⟨A ++ [.buf 3 1 c], []⟩) (fun j => zs.length - j) 0 ⟨by omega, ?h0⟩ ?hs ?_
  case h0 =>
    match zs with
    | [] => rfl
    | x :: l => rfl
  case hs => simp [hle, leB, LeL_refl, hok]
  rintro j ⟨hj, hd⟩ hbd
  clear hbd
  have i0 : ((j : Int) + 1).toNat = j + 1 := by omega
  have e2 : IntKind.i64.wrap (j : Int) = (j : Int) := wrap64 (by omega) (by omega)
  rcases Nat.lt_or_ge (j + 1) zs.length with h | h
  · obtain ⟨x, hx⟩ := get_of_lt h
    obtain ⟨y, hy⟩ := get_of_lt (show j < zs.length by omega)
    have hnx := ddL_next hx hy
    obtain ⟨c1, c1'⟩ := hgt _ _ hx
    obtain ⟨c2, c2'⟩ := hgt _ _ hy
    have e3 : IntKind.i64.wrap ((j : Int) + 1 + 1) = (j : Int) + 1 + 1 := wrap64 (by omega) (by omega)
    have hi : (j : Int) + 1 < zs.length := by omega
    have hi2 : (j : Int) < zs.length := by omega
    have hj0 : (0 : Int) ≤ (j : Int) + 1 := by omega
    by_cases hq : x = y
    · subst hq
      rw [if_pos rfl, List.append_nil, hd] at hnx
      ((try simp -implicitDefEqProofs [gz, s0, hle, hdr, hcl, i0, e2, h, hi, hi2, hj0, c1, c2, c1', c2']); repeat' first | ((first | with_reducible refine gdK_em (fun hc => ?_) (fun hc => ?_) | with_reducible refine cdK_em (fun hc => ?_) (fun hc => ?_) | with_reducible refine pickK_em (fun hc => ?_) (fun hc => ?_)) <;> (have hc' := hc; (try simp at hc'); simp -implicitDefEqProofs [hc, hc', gz, s0, hle, hdr, hcl, i0, e2, h, hi, hi2, hj0, c1, c2, c1', c2'])))
      refine ⟨by omega, by omega, by omega, ?_⟩
      have hstart : (zs.take (j + 1)).map vI ++ c.drop (zs.take (j + 1)).length = c := by
        have hl1 : (zs.take (j + 1)).length = j + 1 := by simp; omega
        rw [hl1, hc, ← List.map_drop, ← List.map_append, List.take_append_drop]
      have hsub : ((zs.length : Int) - ((j : Int) + 1)).toNat = zs.length - (j + 1) := by omega
      have hl1 : (zs.take (j + 1)).length = j + 1 := by simp; omega
      refine loop_rule (X := Nat) (fun i => j + 2 + i ≤ zs.length ∧ (ddL (zs.take (j + 2 + i))).length ≤ j + 1 + i)
        (fun i => [(0, .bw A.length zs.length), (3, vI (ddL (zs.take (j + 2 + i))).length), (4, .vw A.length (j + 1) (zs.length - (j + 1))), (5, vI ((i : Int) + 1))])
        (fun i => ⟨A ++ [.buf 3 1 ((ddL (zs.take (j + 2 + i))).map vI ++ c.drop (ddL (zs.take (j + 2 + i))).length)], []⟩) (fun i => zs.length - i) 0 ⟨by omega, ?h1⟩ ?hs2 ?_
      case h1 => rw [hnx, hl1]; omega
      case hs2 =>
        rw [Nat.add_zero, hnx, hstart, hl1]
        simp [hle, leB, LeL_refl, hok, hsub]
      rintro i ⟨hi1, hi3⟩ hbd
      clear hbd
      have hD1 : (ddL (zs.take (j + 2 + i))).length ≤ zs.length := by omega
      have hnext : ∀ u v : Int, zs[j + 1 + i + 1]? = some u → zs[j + 1 + i]? = some v → ddL (zs.take (j + 2 + (i + 1))) = ddL (zs.take (j + 2 + i)) ++ (if u = v then [] else [u]) := by
        intro u v hu hv
        have := ddL_next hu hv
        rw [show j + 1 + i + 2 = j + 2 + (i + 1) by omega, show j + 1 + i + 1 = j + 2 + i by omega] at this
        exact this
      generalize hD : ddL (zs.take (j + 2 + i)) = D at *
      have hDc : (D.map vI).length = D.length := by simp
      have hcsl : (D.map vI ++ c.drop D.length).length = zs.length := by simp; omega
      have hcsg : ∀ q, D.length ≤ q → (D.map vI ++ c.drop D.length)[q]? = c[q]? := fun q hq => by
        rw [List.getElem?_append_right (by omega), List.getElem?_drop]; congr 1; omega
      have hcst : (D.map vI ++ c.drop D.length).take D.length = D.map vI := by
        rw [List.take_append_of_le_length (by omega), List.take_of_length_le (by omega)]
      have hcsd : (D.map vI ++ c.drop D.length).drop (D.length + 1) = c.drop (D.length + 1) := by
        rw [List.drop_append, List.drop_of_length_le (by omega), List.nil_append, List.drop_drop]; congr 1; omega
      have hcso : ∀ a b, okNs a b (D.map vI ++ c.drop D.length) = true := fun a b => okNs_all (fun v hv => by
        rcases List.mem_append.1 hv with hv | hv
        · obtain ⟨t, _, rfl⟩ := List.mem_map.1 hv; rfl
        · have := List.mem_of_mem_drop hv
          rw [hc] at this
          obtain ⟨t, _, rfl⟩ := List.mem_map.1 this; rfl)
      obtain ⟨cs, hcs⟩ : ∃ cs, cs = D.map vI ++ c.drop D.length := ⟨_, rfl⟩
      rw [← hcs] at hcsl hcsg hcst hcsd hcso ⊢
      have f1 : IntKind.i64.wrap ((i : Int) + 1 + 1) = (i : Int) + 1 + 1 := wrap64 (by omega) (by omega)
      have f2 : IntKind.i64.wrap (i : Int) = (i : Int) := wrap64 (by omega) (by omega)
      have f3 : IntKind.i64.wrap ((D.length : Int) + 1) = (D.length : Int) + 1 := wrap64 (by omega) (by omega)
      have f4 : ((i : Int) + 1).toNat = i + 1 := by omega
      rcases Nat.lt_or_ge (j + 2 + i) zs.length with g | g
      · obtain ⟨u, hu⟩ := get_of_lt (show j + 1 + i + 1 < zs.length by omega)
        obtain ⟨v, hv⟩ := get_of_lt (show j + 1 + i < zs.length by omega)
        have hn2 := hnext u v hu hv
        have d1 : cs[j + 1 + (i + 1)]? = some (vI u) := by rw [hcsg _ (by omega)]; exact (hgt _ _ hu).1
        have d2 : cs[j + 1 + i]? = some (vI v) := by rw [hcsg _ (by omega)]; exact (hgt _ _ hv).1
        have d1' : ∀ h, cs[j + 1 + (i + 1)]'h = vI u := fun h => by rw [List.getElem?_eq_getElem h] at d1; exact Option.some.inj d1
        have d2' : ∀ h, cs[j + 1 + i]'h = vI v := fun h => by rw [List.getElem?_eq_getElem h] at d2; exact Option.some.inj d2
        have g1 : (i : Int) + 1 < ((zs.length - (j + 1) : Nat) : Int) := by omega
        have g2 : (i : Int) < ((zs.length - (j + 1) : Nat) : Int) := by omega
        have g3 : j + 1 + (i + 1) < zs.length := by omega
        have g4 : j + 1 + i < zs.length := by omega
        have g5 : (D.length : Int) < zs.length := by omega
        by_cases huv : u = v
        · subst huv
          rw [if_pos rfl, List.append_nil] at hn2
          ((try simp -implicitDefEqProofs [gz, s0, hle, hdr, hcsl, f1, f2, f4, g1, g2, g3, g4, d1, d2, d1', d2']); repeat' first | ((first | with_reducible refine gdK_em (fun hc => ?_) (fun hc => ?_) | with_reducible refine cdK_em (fun hc => ?_) (fun hc => ?_) | with_reducible refine pickK_em (fun hc => ?_) (fun hc => ?_)) <;> (have hc' := hc; (try simp at hc'); simp -implicitDefEqProofs [hc, hc', gz, s0, hle, hdr, hcsl, f1, f2, f4, g1, g2, g3, g4, d1, d2, d1', d2'])))
          exact ⟨by omega, by omega, by omega, i + 1, ⟨by omega, by rw [hn2]; omega⟩, by omega, ⟨by rw [hn2, ← hcs]; exact LeL_refl _, by rw [hn2, ← hcs]; exact hcso _ _⟩, by rw [hn2], by push_cast; rfl⟩
        · have huv' : (u == v) = false := by simpa using huv
          rw [if_neg huv] at hn2
          ((try simp -implicitDefEqProofs [gz, s0, hle, hdr, hcsl, f1, f2, f3, f4, g1, g2, g3, g4, g5, d1, d2, d1', d2', huv', huv, hcst, hcsd]); repeat' first | ((first | with_reducible refine gdK_em (fun hc => ?_) (fun hc => ?_) | with_reducible refine cdK_em (fun hc => ?_) (fun hc => ?_) | with_reducible refine pickK_em (fun hc => ?_) (fun hc => ?_)) <;> (have hc' := hc; (try simp at hc'); simp -implicitDefEqProofs [hc, hc', gz, s0, hle, hdr, hcsl, f1, f2, f3, f4, g1, g2, g3, g4, g5, d1, d2, d1', d2', huv', huv, hcst, hcsd])))
          refine ⟨by omega, by omega, by omega, ?_⟩
          have huv2 : (u != v) = true := by simpa using huv
          have hxl : D.length ≤ zs.length := by omega
          have hxl2 : D.length + 1 ≤ zs.length := by omega
          have hnew : (D ++ [u]).map vI ++ c.drop (D ++ [u]).length = D.map vI ++ vI u :: c.drop (D.length + 1) := by simp
          have hnewo : ∀ a b, okNs a b (D.map vI ++ vI u :: c.drop (D.length + 1)) = true := fun a b => okNs_all (fun v hv => by
            rcases List.mem_append.1 hv with hv | hv
            · obtain ⟨t, _, rfl⟩ := List.mem_map.1 hv; rfl
            · rcases List.mem_cons.1 hv with rfl | hv
              · rfl
              · have := List.mem_of_mem_drop hv
                rw [hc] at this
                obtain ⟨t, _, rfl⟩ := List.mem_map.1 this; rfl)
          ((try simp -implicitDefEqProofs [gz, s0, hle, hdr, hcsl, f1, f2, f3, f4, g1, g2, g3, g4, g5, d1, d2, d1', d2', huv2, huv', huv, hcst, hcsd, hxl, hxl2]); repeat' first | ((first | with_reducible refine gdK_em (fun hc => ?_) (fun hc => ?_) | with_reducible refine cdK_em (fun hc => ?_) (fun hc => ?_) | with_reducible refine pickK_em (fun hc => ?_) (fun hc => ?_)) <;> (have hc' := hc; (try simp at hc'); simp -implicitDefEqProofs [hc, hc', gz, s0, hle, hdr, hcsl, f1, f2, f3, f4, g1, g2, g3, g4, g5, d1, d2, d1', d2', huv2, huv', huv, hcst, hcsd, hxl, hxl2])))
          exact ⟨by omega, by omega, i + 1, ⟨by omega, by rw [hn2]; simp; omega⟩, by omega, ⟨by rw [hn2, hnew]; exact LeL_refl _, by rw [hn2, hnew]; exact hnewo _ _⟩, by rw [hn2]; simp, by push_cast; rfl⟩
      · have hend : j + 2 + i = zs.length := by omega
        rw [hend, List.take_length] at hD
        rw [hD]
        have g1 : ¬ (i : Int) + 1 < ((zs.length - (j + 1) : Nat) : Int) := by omega
        have g5 : (D.length : Int) < zs.length := by omega
        have hfz2 : (toTs (cs.take D.length)).bind (rowsT 1 D.length) = some (D.map fun n => [T.int .i64 n]) := by rw [hcst, toTs_ints, Option.bind_some, rowsT_ints]
        have hfz : ∀ X : List V, (toTs ((cs.take D.length ++ X).take D.length)).bind (rowsT 1 D.length) = some (D.map fun n => [T.int .i64 n]) := fun X => by
          rw [hcst, List.take_append_of_le_length (by simp), List.take_of_length_le (by simp), toTs_ints, Option.bind_some, rowsT_ints]
        have hxl : D.length ≤ zs.length := by omega
        have hxl2 : D.length < zs.length := by omega
        have hxl3 : D.length + (zs.length - D.length) = zs.length := by omega
        have hxl4 : ¬ zs.length ≤ D.length := by omega
        ((try simp -implicitDefEqProofs [gz, s0, hle, hdr, hcsl, g1, g5, frzV, hfz, hfz2, hxl, hxl2, hxl3, hxl4]); repeat' first | ((first | with_reducible refine gdK_em (fun hc => ?_) (fun hc => ?_) | with_reducible refine cdK_em (fun hc => ?_) (fun hc => ?_) | with_reducible refine pickK_em (fun hc => ?_) (fun hc => ?_)) <;> (have hc' := hc; (try simp at hc'); simp -implicitDefEqProofs [hc, hc', gz, s0, hle, hdr, hcsl, g1, g5, frzV, hfz, hfz2, hxl, hxl2, hxl3, hxl4])))
        all_goals omega
    · have hq' : (x == y) = false := by simpa using hq
      rw [if_neg hq, hd, ← take_next hx] at hnx
      ((try simp -implicitDefEqProofs [gz, s0, hle, hdr, hcl, i0, e2, e3, h, hi, hi2, hj0, c1, c2, c1', c2', hq']); repeat' first | ((first | with_reducible refine gdK_em (fun hc => ?_) (fun hc => ?_) | with_reducible refine cdK_em (fun hc => ?_) (fun hc => ?_) | with_reducible refine pickK_em (fun hc => ?_) (fun hc => ?_)) <;> (have hc' := hc; (try simp at hc'); simp -implicitDefEqProofs [hc, hc', gz, s0, hle, hdr, hcl, i0, e2, e3, h, hi, hi2, hj0, c1, c2, c1', c2', hq'])))
      exact ⟨by omega, by omega, j + 1, ⟨by omega, hnx⟩, by omega, hok _ _, by push_cast; rfl⟩
  · have : j + 1 = zs.length := by omega
    have hni : ¬ (j : Int) + 1 < zs.length := by omega
    rw [this, List.take_length] at hd
    rw [hd]
    ((try simp -implicitDefEqProofs [gz, s0, hle, hdr, hni, frzV, hrow]); repeat' first | ((first | with_reducible refine gdK_em (fun hc => ?_) (fun hc => ?_) | with_reducible refine cdK_em (fun hc => ?_) (fun hc => ?_) | with_reducible refine pickK_em (fun hc => ?_) (fun hc => ?_)) <;> (have hc' := hc; (try simp at hc'); simp -implicitDefEqProofs [hc, hc', gz, s0, hle, hdr, hni, frzV, hrow])))
end Go.Proofs.YtnlkppaehbopaaaDoor
