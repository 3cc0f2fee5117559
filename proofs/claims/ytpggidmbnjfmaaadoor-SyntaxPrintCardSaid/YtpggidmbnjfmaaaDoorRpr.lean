/- Chapter 32: the reference's Print. -/
import Derived.Test.YtpggidmbnjfmaaaDoorRpp
import Derived.Test.YtpggidmbnjfmaaaDoorPrb
import Derived.Test.YtpggidmbnjfmaaaDoorSyf
import Derived.Test.YtpggidmbnjfmaaaDoorPaw
import Derived.Test.YtpggidmbnjfmaaaDoorJoi
import Derived.Test.YtpggidmbnjfmaaaDoorPrg
import Derived.Test.YtpggidmbnjfmaaaDoorSyg
section
set_option linter.unusedSimpArgs false
set_option linter.unusedVariables false
set_option maxHeartbeats 4000000
set_option maxRecDepth 8000
namespace Go.Proofs.YtpggidmbnjfmaaaDoor
open E

theorem w_rPrint (p : List Rul) (hok : ∀ r ∈ p, r.ok) (hc : ∀ r ∈ p, ∀ s ∈ r.stmts, s.ex.cnt ≤ 10000) :
  Pure Tryd.prog 10 [Rul.l p] (.tup [vS (printR p).1, vI (printR p).2]) := by
 have hv := w_ValidR p hok (fun r hr s hs => by have := hc r hr s hs; omega)
 unfold printR
 cases hb : prgB p
 ·rw [hb] at hv
  rw [if_neg (by decide)]
  (refine Pure.of_code mix Tryd.call10 k_10 (by simp) (fun hB => ?_); (try simp at hB); (try simp -implicitDefEqProofs [c_tallystoneref32_Print_10]))
  ((try simp at hv); (try simp -implicitDefEqProofs); repeat' first | (with_reducible apply callK_pure <;> first | (simp only [eras, era, eras_map]; first | with_reducible exact hv | simpa using hv) | (simp -implicitDefEqProofs)))
 rw [hb] at hv
 rw [if_pos rfl]
 rw [txt_prg]
 unfold prgB at hb
 simp only [Bool.and_eq_true, List.all_eq_true, decide_eq_true_eq] at hb
 obtain ⟨hrl, hpl⟩ := hb
 obtain ⟨W, hW⟩ : ∃ W : Nat → List UInt8, W = fun k => (p.take k).flatMap tyR := ⟨_, rfl⟩
 have hW0 : W 0 = [] := by rw [hW]; rfl
 have hWe : W p.length = p.flatMap tyR := by rw [hW]; simp
 have hWs : ∀ k (h : k < p.length), W (k + 1) = W k ++ tyR p[k] := fun k h => by rw [hW]; simp only []; rw [take_next (show p[k]? = some p[k] by simp [h]), List.flatMap_append]; simp
 have hWl : ∀ k, k ≤ p.length → (W k).length ≤ k * 18010000 := fun k hk => by
  rw [hW]
  have := flat_len (f := tyR) (l := p.take k) (m := 18010000) fun r hr => (rul_len (hrl r (List.mem_of_mem_take hr)) (hc r (List.mem_of_mem_take hr))).1
  rw [List.length_take, Nat.min_eq_left hk] at this
  exact this
 rw [← hWe]
 clear hW
 (refine Pure.of_code mix Tryd.call10 k_10 (by simp) (fun hB => ?_); (try simp at hB); (try simp -implicitDefEqProofs [c_tallystoneref32_Print_10]))
 ((try simp at hv); (try simp -implicitDefEqProofs); repeat' first | (with_reducible apply callK_pure <;> first | (simp only [eras, era, eras_map]; first | with_reducible exact hv | simpa using hv) | (simp -implicitDefEqProofs)))
 refine loop_rule (X := Nat) (fun k => k ≤ p.length) (fun k => [(0, Rul.l p), (4, vS (W k)), (5, vI k)]) (fun k => St0) (fun k => p.length - k) 0 (by simp) (by rw [hW0]; simp) ?_
 rintro k hk hbd
 clear hbd
 rcases Nat.lt_or_ge k p.length with h | h
 ·have hx : p[k]? = some p[k] := by simp [h]
  have e3 : IntKind.i64.wrap ((k : Int) + 1) = (k : Int) + 1 := wrap64 (by omega) (by omega)
  have hrk := hrl _ (List.getElem_mem h)
  have hck := hc _ (List.getElem_mem h)
  obtain ⟨r1, r2, r3, r4⟩ := rul_of hrk
  obtain ⟨l1, l2, l3, l4⟩ := rul_len hrk hck
  have hwn := hWs k h
  have hwl := hWl k hk
  obtain ⟨nm, pr, ss, to, hr⟩ : ∃ nm pr ss to, p[k] = ⟨nm, pr, ss, to⟩ := ⟨_, _, _, _, rfl⟩
  have hrc : (p.map Rul.c)[k]? = some [.str nm, .bool pr, .sl (ss.map Stm.c), .int .i64 to] := by simp [h, hr, Rul.c]
  rw [hr] at r1 r2 r3 r4 l1 l2 l3 l4 hwn hck
  simp only [] at r1 r2 r3 r4 l1 l2 l3 l4 hck
  unfold tyR at hwn
  simp only [] at hwn
  have hti := w_rnumI to (by omega) (by omega)
  have hkl : k * 18010000 ≤ 40 * 18010000 := Nat.mul_le_mul_right _ (by omega)
  have hcc : Rul.c ⟨nm, pr, ss, to⟩ = [.str nm, .bool pr, .sl (ss.map Stm.c), .int .i64 to] := rfl
  have hn16 : nm.length ≤ 16 := by
   unfold nameB nfB at r1
   simp only [Bool.and_eq_true, decide_eq_true_eq] at r1
   exact r1.1.1.1.2
  have hil := itoa_len (v := to) (by omega) (by omega)
  have hz0 : ∃ Z, Z = W k ++ hdR ⟨nm, pr, ss, to⟩ := ⟨_, rfl⟩
  obtain ⟨Z, hZ⟩ := hz0
  have hZl : Z.length ≤ 800000000 := by rw [hZ, List.length_append]; omega
  have hwn : W (k + 1) = Z ++ ss.flatMap tyS ++ tlR ⟨nm, pr, ss, to⟩ := by rw [hwn, hZ]; simp only [List.append_assoc]
  have hin : (∃ z', z' ≤ p.length ∧ p.length - z' < p.length - k ∧ W z' = Z ++ ss.flatMap tyS ++ tlR ⟨nm, pr, ss, to⟩ ∧ (z' : Int) = (k : Int) + 1) := ⟨k + 1, by omega, by omega, hwn, by push_cast; rfl⟩
  have inner : ∀ (a : Fr), True := fun _ => trivial
  cases pr
  all_goals
   simp only [hdR, sEnt, sPair, if_true, if_false, Bool.false_eq_true] at hZ
   simp only [tlR] at hin
   simp at hZ hin
   have hZ' := hZ.symm
   (try simp -implicitDefEqProofs [h, hr, hrc, hcc])
   repeat' (refine And.intro (by ((try simp only [List.length_append, List.length_cons, List.length_nil]); unfold maxLen; omega)) ?_; (try simp -implicitDefEqProofs [h, hr, hrc, hcc]))
   refine loop_rule (X := Nat) (fun j => j ≤ ss.length) (fun j => [(0, Rul.l p), (4, vS (Z ++ (ss.take j).flatMap tyS)), (5, vI k), (7, vI j)]) (fun _ => St0) (fun j => ss.length - j) 0 (by simp) (by simp [hZ]) ?_
   rintro j hj hbd
   clear hbd
   rcases Nat.lt_or_ge j ss.length with g | g
   ·have gx : ss[j]? = some ss[j] := by simp [g]
    have e4 : IntKind.i64.wrap ((j : Int) + 1) = (j : Int) + 1 := wrap64 (by omega) (by omega)
    have hsb := r4 _ (List.getElem_mem g)
    have hcj := hck _ (List.getElem_mem g)
    obtain ⟨y1, y2, y3⟩ := tyS_len hsb hcj
    have htn : (ss.take (j + 1)).flatMap tyS = (ss.take j).flatMap tyS ++ tyS ss[j] := by rw [take_next gx, List.flatMap_append]; simp
    have htl : ((ss.take j).flatMap tyS).length ≤ 18003000 := by
     have := flat_len (f := tyS) (l := ss.take j) (m := 600100) fun s hs => (tyS_len (r4 s (List.mem_of_mem_take hs)) (hck s (List.mem_of_mem_take hs))).1
     rw [List.length_take, Nat.min_eq_left hj] at this
     omega
    have hlT : (Z ++ (ss.take j).flatMap tyS).length ≤ 900000000 := by simp only [List.length_append]; omega
    have hTn : Z ++ (ss.take (j + 1)).flatMap tyS = Z ++ (ss.take j).flatMap tyS ++ tyS ss[j] := by rw [htn]; simp only [List.append_assoc]
    have key : ∃ z', z' ≤ ss.length ∧ ss.length - z' < ss.length - j ∧ Z ++ (ss.take z').flatMap tyS = Z ++ (ss.take j).flatMap tyS ++ tyS ss[j] ∧ (z' : Int) = (j : Int) + 1 := ⟨j + 1, by omega, by omega, hTn, by push_cast; rfl⟩
    clear hTn htn
    generalize Z ++ (ss.take j).flatMap tyS = TT at *
    obtain ⟨kd, acc, sn, x, hs⟩ : ∃ kd acc sn x, ss[j] = ⟨kd, acc, sn, x⟩ := ⟨_, _, _, _, rfl⟩
    have hsk : (ss.map Stm.c)[j]? = some (.int .i64 kd :: .int .i64 acc :: .str sn :: x.c) := by simp [g, hs, Stm.c]
    have hc2 : Stm.c ⟨kd, acc, sn, x⟩ = (.int .i64 kd :: .int .i64 acc :: .str sn :: x.c) := rfl
    rw [hs] at hsb hcj y1 y2 y3 key
    try simp only [] at hcj y3
    generalize hY : tyS ⟨kd, acc, sn, x⟩ = Y at key
    unfold tyS prS at hY
    simp only [] at hY
    unfold stmB at hsb
    simp only [Bool.and_eq_true, decide_eq_true_eq] at hsb
    obtain ⟨⟨hsh, _⟩, hpx⟩ := hsb
    have htx := w_rText (Px.of _ hpx) hcj
    have hlx := len_c x
    have htc := take_c x
    generalize txt (bare x) = tb at *
    unfold shdB at hsh
    try simp only [] at hsh
    have hkd : kd = 1 ∨ kd = 2 ∨ kd = 3 := by
     by_cases q1 : kd = 1
     ·exact .inl q1
     by_cases q2 : kd = 2
     ·exact .inr (.inl q2)
     by_cases q3 : kd = 3
     ·exact .inr (.inr q3)
     ·rw [if_neg q1, if_neg q2, if_neg q3] at hsh; cases hsh
    have hacc : kd = 3 → 0 ≤ acc ∧ acc ≤ 99999 := fun q => by
     subst q
     simp [acB] at hsh
     omega
    have hsn : kd = 1 → sn.length ≤ 16 := fun q => by
     subst q
     simp at hsh
     have := hsh.1
     unfold nameB nfB at this
     simp only [Bool.and_eq_true, decide_eq_true_eq] at this
     exact this.1.1.1.2
    rcases hkd with rfl | rfl | rfl
    ·have hsn := hsn rfl
     simp at hY
     subst hY
     ((try simp at htx); (try simp -implicitDefEqProofs [h, hr, hrc, hcc, g, hs, hsk, hc2, hlx, htc, e4]); repeat' first | (with_reducible apply callK_pure <;> first | (simp only [eras, era, eras_map]; first | with_reducible exact htx | simpa using htx) | (simp -implicitDefEqProofs [h, hr, hrc, hcc, g, hs, hsk, hc2, hlx, htc, e4])))
     repeat' (refine And.intro (by ((try simp only [List.length_append, List.length_cons, List.length_nil]); unfold maxLen; omega)) ?_; ((try simp at htx); (try simp -implicitDefEqProofs [h, hr, hrc, hcc, g, hs, hsk, hc2, hlx, htc, e4]); repeat' first | (with_reducible apply callK_pure <;> first | (simp only [eras, era, eras_map]; first | with_reducible exact htx | simpa using htx) | (simp -implicitDefEqProofs [h, hr, hrc, hcc, g, hs, hsk, hc2, hlx, htc, e4]))))
     exact key
    ·simp at hY
     subst hY
     ((try simp at htx); (try simp -implicitDefEqProofs [h, hr, hrc, hcc, g, hs, hsk, hc2, hlx, htc, e4]); repeat' first | (with_reducible apply callK_pure <;> first | (simp only [eras, era, eras_map]; first | with_reducible exact htx | simpa using htx) | (simp -implicitDefEqProofs [h, hr, hrc, hcc, g, hs, hsk, hc2, hlx, htc, e4])))
     repeat' (refine And.intro (by ((try simp only [List.length_append, List.length_cons, List.length_nil]); unfold maxLen; omega)) ?_; ((try simp at htx); (try simp -implicitDefEqProofs [h, hr, hrc, hcc, g, hs, hsk, hc2, hlx, htc, e4]); repeat' first | (with_reducible apply callK_pure <;> first | (simp only [eras, era, eras_map]; first | with_reducible exact htx | simpa using htx) | (simp -implicitDefEqProofs [h, hr, hrc, hcc, g, hs, hsk, hc2, hlx, htc, e4]))))
     exact key
    ·obtain ⟨a1, a2⟩ := hacc rfl
     have hia := w_rnumI acc a1 (by omega)
     have hial := itoa_len (v := acc) a1 (by omega)
     simp at hY
     subst hY
     ((try simp at htx); (try simp at hia); (try simp -implicitDefEqProofs [h, hr, hrc, hcc, g, hs, hsk, hc2, hlx, htc, e4]); repeat' first | (with_reducible apply callK_pure <;> first | (simp only [eras, era, eras_map]; first | with_reducible exact htx | with_reducible exact hia | simpa using htx | simpa using hia) | (simp -implicitDefEqProofs [h, hr, hrc, hcc, g, hs, hsk, hc2, hlx, htc, e4])))
     repeat' (refine And.intro (by ((try simp only [List.length_append, List.length_cons, List.length_nil]); unfold maxLen; omega)) ?_; ((try simp at htx); (try simp at hia); (try simp -implicitDefEqProofs [h, hr, hrc, hcc, g, hs, hsk, hc2, hlx, htc, e4]); repeat' first | (with_reducible apply callK_pure <;> first | (simp only [eras, era, eras_map]; first | with_reducible exact htx | with_reducible exact hia | simpa using htx | simpa using hia) | (simp -implicitDefEqProofs [h, hr, hrc, hcc, g, hs, hsk, hc2, hlx, htc, e4]))))
     exact key
   ·have : j = ss.length := by omega
    subst this
    rw [List.take_length]
    have hfl : (ss.flatMap tyS).length ≤ 18003000 := l4
    generalize ss.flatMap tyS = F at *
    ((try simp at hti); (try simp -implicitDefEqProofs [h, hr, hrc, hcc, e3]); repeat' first | (with_reducible apply callK_pure <;> first | (simp only [eras, era, eras_map]; first | with_reducible exact hti | simpa using hti) | (simp -implicitDefEqProofs [h, hr, hrc, hcc, e3])))
    repeat' (refine And.intro (by ((try simp only [List.length_append, List.length_cons, List.length_nil]); unfold maxLen; omega)) ?_; ((try simp at hti); (try simp -implicitDefEqProofs [h, hr, hrc, hcc, e3]); repeat' first | (with_reducible apply callK_pure <;> first | (simp only [eras, era, eras_map]; first | with_reducible exact hti | simpa using hti) | (simp -implicitDefEqProofs [h, hr, hrc, hcc, e3]))))
    exact hin
 ·have : k = p.length := by omega
  subst this
  by_cases h8 : 8000 < (W p.length).length
  ·have h8' : (8000 : Int) < (W p.length).length := by omega
   rw [if_pos h8]
   (try simp -implicitDefEqProofs [h8, h8'])
  ·have h8' : ¬ (8000 : Int) < (W p.length).length := by omega
   rw [if_neg h8]
   (try simp -implicitDefEqProofs [h8, h8'])
end Go.Proofs.YtpggidmbnjfmaaaDoor
end

/- Chapter 32: the law SyntaxPrint. -/
section
set_option linter.unusedSimpArgs false
set_option linter.unusedVariables false
set_option maxHeartbeats 4000000
set_option maxRecDepth 8000
namespace Go.Proofs.YtpggidmbnjfmaaaDoor
open E

theorem fewO_pr {p : List Rul} (h : fewB p = true) : p.length ≤ 50 ∧ (∀ r ∈ p, r.stmts.length ≤ 40) ∧ ∀ r ∈ p, ∀ s ∈ r.stmts, s.ex.cnt ≤ 200 := by
 unfold fewB fewR fewS at h
 simp only [Bool.and_eq_true, List.all_eq_true, decide_eq_true_eq] at h
 exact ⟨h.2, fun r hr => (h.1 r hr).1.2, fun r hr s hs => ((h.1 r hr).2 s hs).2⟩
theorem l_print (p : List Rul) (hok : ∀ r ∈ p, r.ok) : Pure Tryd.prog 3 [Rul.l p] (vB true) := by
 have ha := w_awake32
 have hf := w_Few p
 cases h : fewB p
 ·rw [h] at hf
  (refine Pure.of_code mix Tryd.call3 k_3 (by simp) (fun hB => ?_); (try simp at hB); (try simp -implicitDefEqProofs [c_tallystonelaw32_SyntaxPrint_3]))
  ((try simp at ha); (try simp at hf); (try simp -implicitDefEqProofs); repeat' first | (with_reducible apply callK_pure <;> first | (simp only [eras, era, eras_map]; first | with_reducible exact ha | with_reducible exact hf | simpa using ha | simpa using hf) | (simp -implicitDefEqProofs)))
 ·rw [h] at hf
  obtain ⟨a, b, c⟩ := fewO_pr h
  have hp := w_prog32 p (by omega) (fun r hr => by have := b r hr; omega) (fun r hr s hs => by have := c r hr s hs; omega)
  have hr := w_Print p (fun r hr s hs => by have := c r hr s hs; omega) (fun r hr s hs => .inl w_joinC)
  have hrr := w_rPrint p hok (fun r hr s hs => by have := c r hr s hs; omega)
  have hv := w_Valid p (fun r hr s hs => by have := c r hr s hs; omega)
  have hvr := w_ValidR p hok (fun r hr s hs => by have := c r hr s hs; omega)
  generalize printR p = R at *
  obtain ⟨t, e⟩ := R
  simp only [] at hr hrr
  cases prgB p
  all_goals
   (refine Pure.of_code mix Tryd.call3 k_3 (by simp) (fun hB => ?_); (try simp at hB); (try simp -implicitDefEqProofs [c_tallystonelaw32_SyntaxPrint_3]))
   ((try simp at ha); (try simp at hf); (try simp at hp); (try simp at hr); (try simp at hrr); (try simp at hv); (try simp at hvr); (try simp -implicitDefEqProofs); repeat' first | (with_reducible apply callK_pure <;> first | (simp only [eras, era, eras_map]; first | with_reducible exact ha | with_reducible exact hf | with_reducible exact hp | with_reducible exact hr | with_reducible exact hrr | with_reducible exact hv | with_reducible exact hvr | simpa using ha | simpa using hf | simpa using hp | simpa using hr | simpa using hrr | simpa using hv | simpa using hvr) | (simp -implicitDefEqProofs)))
end Go.Proofs.YtpggidmbnjfmaaaDoor
end
