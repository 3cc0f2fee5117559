/- Walks of chapter 34's reference: Text. -/
import Derived.Test.YtkapabohpfkcoaaDoorRfd
set_option linter.unusedSimpArgs false
set_option linter.unusedVariables false
set_option maxHeartbeats 2000000
set_option maxRecDepth 8000
namespace Go.Proofs.YtkapabohpfkcoaaDoor
open E

/-- The numbers of a valid code are amounts or accounts. -/
theorem mea_num {c : Code} (hlen : c.ins.length ≤ 1000000) (h : (meaR c).2 = true) {x : Ins} (hx : x ∈ c.ins) : (-1000000000000 ≤ x.a ∧ x.a ≤ 1000000000000) ∧ (-1000000000000 ≤ x.b ∧ x.b ≤ 1000000000000) := by
  obtain ⟨k, hk, rfl⟩ := List.mem_iff_getElem.1 hx
  have hx : c.ins[k]? = some c.ins[k] := by simp [hk]
  unfold meaR at h
  split at h
  · cases h
  split at h
  · rename_i s hs
    obtain ⟨s1, h1⟩ := runM_before hs (Nat.le_of_lt hk)
    obtain ⟨s2, h2⟩ := runM_before hs (show k + 1 ≤ _ from hk)
    have hbd := runM_bd h1
    rw [runM_succ h1 hx] at h2
    unfold stepM at h2
    split at h2
    · cases h2
    · rename_i hb
      have hb : badM c.ins.length c.pair k c.ins[k] s1.2.2 = false := by simpa using hb
      simp only [badM, Bool.or_eq_false_iff, Bool.not_eq_false'] at hb
      have hn := hb.2
      unfold numB accB amtB at hn
      (repeat' split at hn) <;> simp at hn <;> omega
  · cases h

def nmL : List (List T) := opTab.map fun r => [T.str r.1]
theorem nmL_at {n : Nat} (h : n ≤ 26) : nmL[n]? = some [.str (nm n)] := by
  rcases (by omega : n = 0 ∨ n = 1 ∨ n = 2 ∨ n = 3 ∨ n = 4 ∨ n = 5 ∨ n = 6 ∨ n = 7 ∨ n = 8 ∨ n = 9 ∨ n = 10 ∨ n = 11 ∨ n = 12 ∨ n = 13 ∨ n = 14 ∨ n = 15 ∨ n = 16 ∨ n = 17 ∨ n = 18 ∨ n = 19 ∨ n = 20 ∨ n = 21 ∨ n = 22 ∨ n = 23 ∨ n = 24 ∨ n = 25 ∨ n = 26) with rfl | rfl | rfl | rfl | rfl | rfl | rfl | rfl | rfl | rfl | rfl | rfl | rfl | rfl | rfl | rfl | rfl | rfl | rfl | rfl | rfl | rfl | rfl | rfl | rfl | rfl | rfl <;> rfl

theorem w_rtext (c : Code) (hlen : c.ins.length ≤ 1000) (hv : (meaR c).2 = true) : Pure Tryd.prog 31 [c.v] (vS (txtC c.ins)) := by
  have hnum := fun x hx => mea_num (c := c) (by omega) hv (x := x) hx
  have hops : ∀ (k : Nat) (x : Ins), c.ins[k]? = some x → 1 ≤ x.op ∧ x.op ≤ 26 := fun k x hx => mea_ops hv hx
  obtain ⟨cn, pair, ins⟩ := c
  simp only [] at hlen hnum hops
  clear hv
  (refine Pure.of_code mix Tryd.call31 k_31 (by simp) (fun hB => ?_); (try simp at hB); (try simp -implicitDefEqProofs [c_tallystoneref34_Text_31]))
  refine loop_rule (X := Nat) (fun k => k ≤ ins.length) (fun k => [(1, .ptr 0 0), (3, .t (.sl nmL)), (4, vS (txtC (ins.take k))), (5, vI k)]) (fun _ => ⟨[.cells [vS cn, vB pair, Ins.l ins]], []⟩) (fun k => ins.length - k) 0 (by omega) ?hs ?_
  case hs => simp [txtC]; exact leA_full _
  rintro k hk hbd
  have hL : ∀ n : Nat, n ≤ 26 → nmL[n]? = some [.str (nm n)] := fun n h => nmL_at h
  have hNl : nmL.length = 27 := rfl
  generalize nmL = NL at *
  rcases Nat.lt_or_ge k ins.length with h | h
  · have hx : ins[k]? = some ins[k] := by simp [h]
    obtain ⟨o1, o2⟩ := hops k _ hx
    obtain ⟨n, hn⟩ : ∃ n : Nat, ins[k].op = n := ⟨ins[k].op.toNat, by omega⟩
    have hn26 : n ≤ 26 := by omega
    obtain ⟨⟨a1, a2⟩, b1, b2⟩ := hnum ins[k] (List.getElem_mem h)
    have hna := w_rnum ins[k].a (by omega) (by omega)
    have hnb := w_rnum ins[k].b (by omega) (by omega)
    obtain ⟨q1, q2, q3⟩ := tak_tab hn26
    have huse : Pure Tryd.prog 65 [vI n] (vI (us n)) := by rw [← q3]; exact w_ruse n
    have hLn := hL n hn26
    have hg : ∀ h : n < NL.length, NL[n]'h = [.str (nm n)] := fun h => by
      rw [List.getElem?_eq_getElem h] at hLn
      exact Option.some.inj hLn
    have hnl : n < NL.length := by omega
    have e3 : IntKind.i64.wrap ((k : Int) + 1) = (k : Int) + 1 := wrap64 (by omega) (by omega)
    have hil : ∀ x ∈ ins, (insT x).length ≤ 60 := fun x hx => by
      obtain ⟨j, hj, rfl⟩ := List.mem_iff_getElem.1 hx
      have hxj : ins[j]? = some ins[j] := by simp [hj]
      obtain ⟨p1, p2⟩ := hops j _ hxj
      obtain ⟨p3, p4⟩ := hnum _ hx
      exact insT_len (n := ins[j].op.toNat) (by omega) (by omega) ⟨by omega, by omega⟩ ⟨by omega, by omega⟩
    have htl := txt_len (l := ins.take k) (fun x hx => hil x (List.mem_of_mem_take hx))
    have htn : txtC (ins.take (k + 1)) = txtC (ins.take k) ++ insT ins[k] := by rw [take_next hx]; simp only [txtC, List.flatMap_append, List.flatMap_cons, List.flatMap_nil, List.append_nil]
    have htk : (ins.take k).length ≤ 1000 := by rw [List.length_take]; omega
    have hnm := nm_len hn26
    have hal := argT_len (n := ins[k].a) ⟨by omega, by omega⟩
    have hbl := argT_len (n := ins[k].b) ⟨by omega, by omega⟩
    simp only [argT, List.length_cons] at hal hbl
    generalize txtC (ins.take k) = w at *
    rcases us_in hn26 with hu | hu | hu
    · rw [hu] at huse
      ((try simp at huse); (try simp at hna); (try simp at hnb); (try simp -implicitDefEqProofs [h, hn, hLn, hg, hnl, hNl, e3]); repeat' first | (with_reducible refine gdK_em (fun hc => ?_) (fun hc => ?_) <;> (have hc' := hc; (try simp at hc'); simp -implicitDefEqProofs [hc, hc', h, hn, hLn, hg, hnl, hNl, e3])) | (with_reducible refine cdK_em (fun hc => ?_) (fun hc => ?_) <;> (have hc' := hc; (try simp at hc'); simp -implicitDefEqProofs [hc, hc', h, hn, hLn, hg, hnl, hNl, e3])) | (with_reducible refine pickK_em (fun hc => ?_) (fun hc => ?_) <;> (have hc' := hc; (try simp at hc'); simp -implicitDefEqProofs [hc, hc', h, hn, hLn, hg, hnl, hNl, e3])) | (with_reducible apply callK_pure <;> first | (simp only [eras, era, eras_map]; first | with_reducible exact huse | simpa using huse) | (simp -implicitDefEqProofs [h, hn, hLn, hg, hnl, hNl, e3])) | (with_reducible apply callK_pure <;> first | (simp only [eras, era, eras_map]; first | with_reducible exact hna | simpa using hna) | (simp -implicitDefEqProofs [h, hn, hLn, hg, hnl, hNl, e3])) | (with_reducible apply callK_pure <;> first | (simp only [eras, era, eras_map]; first | with_reducible exact hnb | simpa using hnb) | (simp -implicitDefEqProofs [h, hn, hLn, hg, hnl, hNl, e3])))
      refine ⟨by omega, by unfold maxLen; omega, ?_⟩
      ((try simp at huse); (try simp at hna); (try simp at hnb); (try simp -implicitDefEqProofs [h, hn, hLn, hg, hnl, hNl, e3]); repeat' first | (with_reducible refine gdK_em (fun hc => ?_) (fun hc => ?_) <;> (have hc' := hc; (try simp at hc'); simp -implicitDefEqProofs [hc, hc', h, hn, hLn, hg, hnl, hNl, e3])) | (with_reducible refine cdK_em (fun hc => ?_) (fun hc => ?_) <;> (have hc' := hc; (try simp at hc'); simp -implicitDefEqProofs [hc, hc', h, hn, hLn, hg, hnl, hNl, e3])) | (with_reducible refine pickK_em (fun hc => ?_) (fun hc => ?_) <;> (have hc' := hc; (try simp at hc'); simp -implicitDefEqProofs [hc, hc', h, hn, hLn, hg, hnl, hNl, e3])) | (with_reducible apply callK_pure <;> first | (simp only [eras, era, eras_map]; first | with_reducible exact huse | simpa using huse) | (simp -implicitDefEqProofs [h, hn, hLn, hg, hnl, hNl, e3])) | (with_reducible apply callK_pure <;> first | (simp only [eras, era, eras_map]; first | with_reducible exact hna | simpa using hna) | (simp -implicitDefEqProofs [h, hn, hLn, hg, hnl, hNl, e3])) | (with_reducible apply callK_pure <;> first | (simp only [eras, era, eras_map]; first | with_reducible exact hnb | simpa using hnb) | (simp -implicitDefEqProofs [h, hn, hLn, hg, hnl, hNl, e3])))
      exact ⟨by unfold maxLen; omega, k + 1, by omega, by omega, by rw [htn, insT, hn, hu]; simp [argsT], by push_cast; rfl⟩
    · rw [hu] at huse
      ((try simp at huse); (try simp at hna); (try simp at hnb); (try simp -implicitDefEqProofs [h, hn, hLn, hg, hnl, hNl, e3]); repeat' first | (with_reducible refine gdK_em (fun hc => ?_) (fun hc => ?_) <;> (have hc' := hc; (try simp at hc'); simp -implicitDefEqProofs [hc, hc', h, hn, hLn, hg, hnl, hNl, e3])) | (with_reducible refine cdK_em (fun hc => ?_) (fun hc => ?_) <;> (have hc' := hc; (try simp at hc'); simp -implicitDefEqProofs [hc, hc', h, hn, hLn, hg, hnl, hNl, e3])) | (with_reducible refine pickK_em (fun hc => ?_) (fun hc => ?_) <;> (have hc' := hc; (try simp at hc'); simp -implicitDefEqProofs [hc, hc', h, hn, hLn, hg, hnl, hNl, e3])) | (with_reducible apply callK_pure <;> first | (simp only [eras, era, eras_map]; first | with_reducible exact huse | simpa using huse) | (simp -implicitDefEqProofs [h, hn, hLn, hg, hnl, hNl, e3])) | (with_reducible apply callK_pure <;> first | (simp only [eras, era, eras_map]; first | with_reducible exact hna | simpa using hna) | (simp -implicitDefEqProofs [h, hn, hLn, hg, hnl, hNl, e3])) | (with_reducible apply callK_pure <;> first | (simp only [eras, era, eras_map]; first | with_reducible exact hnb | simpa using hnb) | (simp -implicitDefEqProofs [h, hn, hLn, hg, hnl, hNl, e3])))
      refine ⟨by omega, by unfold maxLen; omega, ?_⟩
      ((try simp at huse); (try simp at hna); (try simp at hnb); (try simp -implicitDefEqProofs [h, hn, hLn, hg, hnl, hNl, e3]); repeat' first | (with_reducible refine gdK_em (fun hc => ?_) (fun hc => ?_) <;> (have hc' := hc; (try simp at hc'); simp -implicitDefEqProofs [hc, hc', h, hn, hLn, hg, hnl, hNl, e3])) | (with_reducible refine cdK_em (fun hc => ?_) (fun hc => ?_) <;> (have hc' := hc; (try simp at hc'); simp -implicitDefEqProofs [hc, hc', h, hn, hLn, hg, hnl, hNl, e3])) | (with_reducible refine pickK_em (fun hc => ?_) (fun hc => ?_) <;> (have hc' := hc; (try simp at hc'); simp -implicitDefEqProofs [hc, hc', h, hn, hLn, hg, hnl, hNl, e3])) | (with_reducible apply callK_pure <;> first | (simp only [eras, era, eras_map]; first | with_reducible exact huse | simpa using huse) | (simp -implicitDefEqProofs [h, hn, hLn, hg, hnl, hNl, e3])) | (with_reducible apply callK_pure <;> first | (simp only [eras, era, eras_map]; first | with_reducible exact hna | simpa using hna) | (simp -implicitDefEqProofs [h, hn, hLn, hg, hnl, hNl, e3])) | (with_reducible apply callK_pure <;> first | (simp only [eras, era, eras_map]; first | with_reducible exact hnb | simpa using hnb) | (simp -implicitDefEqProofs [h, hn, hLn, hg, hnl, hNl, e3])))
      refine ⟨by unfold maxLen; omega, ?_⟩
      ((try simp at huse); (try simp at hna); (try simp at hnb); (try simp -implicitDefEqProofs [h, hn, hLn, hg, hnl, hNl, e3]); repeat' first | (with_reducible refine gdK_em (fun hc => ?_) (fun hc => ?_) <;> (have hc' := hc; (try simp at hc'); simp -implicitDefEqProofs [hc, hc', h, hn, hLn, hg, hnl, hNl, e3])) | (with_reducible refine cdK_em (fun hc => ?_) (fun hc => ?_) <;> (have hc' := hc; (try simp at hc'); simp -implicitDefEqProofs [hc, hc', h, hn, hLn, hg, hnl, hNl, e3])) | (with_reducible refine pickK_em (fun hc => ?_) (fun hc => ?_) <;> (have hc' := hc; (try simp at hc'); simp -implicitDefEqProofs [hc, hc', h, hn, hLn, hg, hnl, hNl, e3])) | (with_reducible apply callK_pure <;> first | (simp only [eras, era, eras_map]; first | with_reducible exact huse | simpa using huse) | (simp -implicitDefEqProofs [h, hn, hLn, hg, hnl, hNl, e3])) | (with_reducible apply callK_pure <;> first | (simp only [eras, era, eras_map]; first | with_reducible exact hna | simpa using hna) | (simp -implicitDefEqProofs [h, hn, hLn, hg, hnl, hNl, e3])) | (with_reducible apply callK_pure <;> first | (simp only [eras, era, eras_map]; first | with_reducible exact hnb | simpa using hnb) | (simp -implicitDefEqProofs [h, hn, hLn, hg, hnl, hNl, e3])))
      refine ⟨by unfold maxLen; omega, ?_⟩
      ((try simp at huse); (try simp at hna); (try simp at hnb); (try simp -implicitDefEqProofs [h, hn, hLn, hg, hnl, hNl, e3]); repeat' first | (with_reducible refine gdK_em (fun hc => ?_) (fun hc => ?_) <;> (have hc' := hc; (try simp at hc'); simp -implicitDefEqProofs [hc, hc', h, hn, hLn, hg, hnl, hNl, e3])) | (with_reducible refine cdK_em (fun hc => ?_) (fun hc => ?_) <;> (have hc' := hc; (try simp at hc'); simp -implicitDefEqProofs [hc, hc', h, hn, hLn, hg, hnl, hNl, e3])) | (with_reducible refine pickK_em (fun hc => ?_) (fun hc => ?_) <;> (have hc' := hc; (try simp at hc'); simp -implicitDefEqProofs [hc, hc', h, hn, hLn, hg, hnl, hNl, e3])) | (with_reducible apply callK_pure <;> first | (simp only [eras, era, eras_map]; first | with_reducible exact huse | simpa using huse) | (simp -implicitDefEqProofs [h, hn, hLn, hg, hnl, hNl, e3])) | (with_reducible apply callK_pure <;> first | (simp only [eras, era, eras_map]; first | with_reducible exact hna | simpa using hna) | (simp -implicitDefEqProofs [h, hn, hLn, hg, hnl, hNl, e3])) | (with_reducible apply callK_pure <;> first | (simp only [eras, era, eras_map]; first | with_reducible exact hnb | simpa using hnb) | (simp -implicitDefEqProofs [h, hn, hLn, hg, hnl, hNl, e3])))
      exact ⟨by unfold maxLen; omega, k + 1, by omega, by omega, by rw [htn, insT, hn, hu]; simp [argsT, argT], by push_cast; rfl⟩
    · rw [hu] at huse
      ((try simp at huse); (try simp at hna); (try simp at hnb); (try simp -implicitDefEqProofs [h, hn, hLn, hg, hnl, hNl, e3]); repeat' first | (with_reducible refine gdK_em (fun hc => ?_) (fun hc => ?_) <;> (have hc' := hc; (try simp at hc'); simp -implicitDefEqProofs [hc, hc', h, hn, hLn, hg, hnl, hNl, e3])) | (with_reducible refine cdK_em (fun hc => ?_) (fun hc => ?_) <;> (have hc' := hc; (try simp at hc'); simp -implicitDefEqProofs [hc, hc', h, hn, hLn, hg, hnl, hNl, e3])) | (with_reducible refine pickK_em (fun hc => ?_) (fun hc => ?_) <;> (have hc' := hc; (try simp at hc'); simp -implicitDefEqProofs [hc, hc', h, hn, hLn, hg, hnl, hNl, e3])) | (with_reducible apply callK_pure <;> first | (simp only [eras, era, eras_map]; first | with_reducible exact huse | simpa using huse) | (simp -implicitDefEqProofs [h, hn, hLn, hg, hnl, hNl, e3])) | (with_reducible apply callK_pure <;> first | (simp only [eras, era, eras_map]; first | with_reducible exact hna | simpa using hna) | (simp -implicitDefEqProofs [h, hn, hLn, hg, hnl, hNl, e3])) | (with_reducible apply callK_pure <;> first | (simp only [eras, era, eras_map]; first | with_reducible exact hnb | simpa using hnb) | (simp -implicitDefEqProofs [h, hn, hLn, hg, hnl, hNl, e3])))
      refine ⟨by omega, by unfold maxLen; omega, ?_⟩
      ((try simp at huse); (try simp at hna); (try simp at hnb); (try simp -implicitDefEqProofs [h, hn, hLn, hg, hnl, hNl, e3]); repeat' first | (with_reducible refine gdK_em (fun hc => ?_) (fun hc => ?_) <;> (have hc' := hc; (try simp at hc'); simp -implicitDefEqProofs [hc, hc', h, hn, hLn, hg, hnl, hNl, e3])) | (with_reducible refine cdK_em (fun hc => ?_) (fun hc => ?_) <;> (have hc' := hc; (try simp at hc'); simp -implicitDefEqProofs [hc, hc', h, hn, hLn, hg, hnl, hNl, e3])) | (with_reducible refine pickK_em (fun hc => ?_) (fun hc => ?_) <;> (have hc' := hc; (try simp at hc'); simp -implicitDefEqProofs [hc, hc', h, hn, hLn, hg, hnl, hNl, e3])) | (with_reducible apply callK_pure <;> first | (simp only [eras, era, eras_map]; first | with_reducible exact huse | simpa using huse) | (simp -implicitDefEqProofs [h, hn, hLn, hg, hnl, hNl, e3])) | (with_reducible apply callK_pure <;> first | (simp only [eras, era, eras_map]; first | with_reducible exact hna | simpa using hna) | (simp -implicitDefEqProofs [h, hn, hLn, hg, hnl, hNl, e3])) | (with_reducible apply callK_pure <;> first | (simp only [eras, era, eras_map]; first | with_reducible exact hnb | simpa using hnb) | (simp -implicitDefEqProofs [h, hn, hLn, hg, hnl, hNl, e3])))
      refine ⟨by unfold maxLen; omega, ?_⟩
      ((try simp at huse); (try simp at hna); (try simp at hnb); (try simp -implicitDefEqProofs [h, hn, hLn, hg, hnl, hNl, e3]); repeat' first | (with_reducible refine gdK_em (fun hc => ?_) (fun hc => ?_) <;> (have hc' := hc; (try simp at hc'); simp -implicitDefEqProofs [hc, hc', h, hn, hLn, hg, hnl, hNl, e3])) | (with_reducible refine cdK_em (fun hc => ?_) (fun hc => ?_) <;> (have hc' := hc; (try simp at hc'); simp -implicitDefEqProofs [hc, hc', h, hn, hLn, hg, hnl, hNl, e3])) | (with_reducible refine pickK_em (fun hc => ?_) (fun hc => ?_) <;> (have hc' := hc; (try simp at hc'); simp -implicitDefEqProofs [hc, hc', h, hn, hLn, hg, hnl, hNl, e3])) | (with_reducible apply callK_pure <;> first | (simp only [eras, era, eras_map]; first | with_reducible exact huse | simpa using huse) | (simp -implicitDefEqProofs [h, hn, hLn, hg, hnl, hNl, e3])) | (with_reducible apply callK_pure <;> first | (simp only [eras, era, eras_map]; first | with_reducible exact hna | simpa using hna) | (simp -implicitDefEqProofs [h, hn, hLn, hg, hnl, hNl, e3])) | (with_reducible apply callK_pure <;> first | (simp only [eras, era, eras_map]; first | with_reducible exact hnb | simpa using hnb) | (simp -implicitDefEqProofs [h, hn, hLn, hg, hnl, hNl, e3])))
      refine ⟨by unfold maxLen; omega, ?_⟩
      ((try simp at huse); (try simp at hna); (try simp at hnb); (try simp -implicitDefEqProofs [h, hn, hLn, hg, hnl, hNl, e3]); repeat' first | (with_reducible refine gdK_em (fun hc => ?_) (fun hc => ?_) <;> (have hc' := hc; (try simp at hc'); simp -implicitDefEqProofs [hc, hc', h, hn, hLn, hg, hnl, hNl, e3])) | (with_reducible refine cdK_em (fun hc => ?_) (fun hc => ?_) <;> (have hc' := hc; (try simp at hc'); simp -implicitDefEqProofs [hc, hc', h, hn, hLn, hg, hnl, hNl, e3])) | (with_reducible refine pickK_em (fun hc => ?_) (fun hc => ?_) <;> (have hc' := hc; (try simp at hc'); simp -implicitDefEqProofs [hc, hc', h, hn, hLn, hg, hnl, hNl, e3])) | (with_reducible apply callK_pure <;> first | (simp only [eras, era, eras_map]; first | with_reducible exact huse | simpa using huse) | (simp -implicitDefEqProofs [h, hn, hLn, hg, hnl, hNl, e3])) | (with_reducible apply callK_pure <;> first | (simp only [eras, era, eras_map]; first | with_reducible exact hna | simpa using hna) | (simp -implicitDefEqProofs [h, hn, hLn, hg, hnl, hNl, e3])) | (with_reducible apply callK_pure <;> first | (simp only [eras, era, eras_map]; first | with_reducible exact hnb | simpa using hnb) | (simp -implicitDefEqProofs [h, hn, hLn, hg, hnl, hNl, e3])))
      refine ⟨by unfold maxLen; omega, ?_⟩
      ((try simp at huse); (try simp at hna); (try simp at hnb); (try simp -implicitDefEqProofs [h, hn, hLn, hg, hnl, hNl, e3]); repeat' first | (with_reducible refine gdK_em (fun hc => ?_) (fun hc => ?_) <;> (have hc' := hc; (try simp at hc'); simp -implicitDefEqProofs [hc, hc', h, hn, hLn, hg, hnl, hNl, e3])) | (with_reducible refine cdK_em (fun hc => ?_) (fun hc => ?_) <;> (have hc' := hc; (try simp at hc'); simp -implicitDefEqProofs [hc, hc', h, hn, hLn, hg, hnl, hNl, e3])) | (with_reducible refine pickK_em (fun hc => ?_) (fun hc => ?_) <;> (have hc' := hc; (try simp at hc'); simp -implicitDefEqProofs [hc, hc', h, hn, hLn, hg, hnl, hNl, e3])) | (with_reducible apply callK_pure <;> first | (simp only [eras, era, eras_map]; first | with_reducible exact huse | simpa using huse) | (simp -implicitDefEqProofs [h, hn, hLn, hg, hnl, hNl, e3])) | (with_reducible apply callK_pure <;> first | (simp only [eras, era, eras_map]; first | with_reducible exact hna | simpa using hna) | (simp -implicitDefEqProofs [h, hn, hLn, hg, hnl, hNl, e3])) | (with_reducible apply callK_pure <;> first | (simp only [eras, era, eras_map]; first | with_reducible exact hnb | simpa using hnb) | (simp -implicitDefEqProofs [h, hn, hLn, hg, hnl, hNl, e3])))
      refine ⟨by unfold maxLen; omega, ?_⟩
      ((try simp at huse); (try simp at hna); (try simp at hnb); (try simp -implicitDefEqProofs [h, hn, hLn, hg, hnl, hNl, e3]); repeat' first | (with_reducible refine gdK_em (fun hc => ?_) (fun hc => ?_) <;> (have hc' := hc; (try simp at hc'); simp -implicitDefEqProofs [hc, hc', h, hn, hLn, hg, hnl, hNl, e3])) | (with_reducible refine cdK_em (fun hc => ?_) (fun hc => ?_) <;> (have hc' := hc; (try simp at hc'); simp -implicitDefEqProofs [hc, hc', h, hn, hLn, hg, hnl, hNl, e3])) | (with_reducible refine pickK_em (fun hc => ?_) (fun hc => ?_) <;> (have hc' := hc; (try simp at hc'); simp -implicitDefEqProofs [hc, hc', h, hn, hLn, hg, hnl, hNl, e3])) | (with_reducible apply callK_pure <;> first | (simp only [eras, era, eras_map]; first | with_reducible exact huse | simpa using huse) | (simp -implicitDefEqProofs [h, hn, hLn, hg, hnl, hNl, e3])) | (with_reducible apply callK_pure <;> first | (simp only [eras, era, eras_map]; first | with_reducible exact hna | simpa using hna) | (simp -implicitDefEqProofs [h, hn, hLn, hg, hnl, hNl, e3])) | (with_reducible apply callK_pure <;> first | (simp only [eras, era, eras_map]; first | with_reducible exact hnb | simpa using hnb) | (simp -implicitDefEqProofs [h, hn, hLn, hg, hnl, hNl, e3])))
      exact ⟨by unfold maxLen; omega, k + 1, by omega, by omega, by rw [htn, insT, hn, hu]; simp [argsT, argT], by push_cast; rfl⟩
  · have : k = ins.length := by omega
    subst this
    rw [List.take_length] at *
    ((try simp -implicitDefEqProofs); repeat' first | (with_reducible refine gdK_em (fun hc => ?_) (fun hc => ?_) <;> (have hc' := hc; (try simp at hc'); simp -implicitDefEqProofs [hc, hc'])) | (with_reducible refine cdK_em (fun hc => ?_) (fun hc => ?_) <;> (have hc' := hc; (try simp at hc'); simp -implicitDefEqProofs [hc, hc'])) | (with_reducible refine pickK_em (fun hc => ?_) (fun hc => ?_) <;> (have hc' := hc; (try simp at hc'); simp -implicitDefEqProofs [hc, hc'])))
end Go.Proofs.YtkapabohpfkcoaaDoor
