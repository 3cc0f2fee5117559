/- Chapter 32: the law SyntaxNeedless. -/
import Derived.Test.YtpggidmbnjfmaaaDoorPaw
import Derived.Test.YtpggidmbnjfmaaaDoorPsq
import Derived.Test.YtpggidmbnjfmaaaDoorPnl
import Derived.Test.YtpggidmbnjfmaaaDoorJoi
import Derived.Test.YtpggidmbnjfmaaaDoorPrg
import Derived.Test.YtpggidmbnjfmaaaDoorSyg
import Derived.Test.YtpggidmbnjfmaaaDoorCodeD
set_option linter.unusedSimpArgs false
set_option linter.unusedVariables false
set_option maxHeartbeats 4000000
set_option maxRecDepth 8000
namespace Go.Proofs.YtpggidmbnjfmaaaDoor
open E

theorem byteAt_of {s : List UInt8} {i : Nat} {y : UInt8} (h : s[i]? = some y) : byteAt s (i : Int) = (y.toNat : Int) := by
 unfold byteAt
 rw [Int.toNat_natCast, List.getD_eq_getElem?_getD, h]; rfl
theorem dp_bd : ∀ (l : List UInt8), -(l.length : Int) ≤ dp l ∧ dp l ≤ l.length
 | [] => by simp [dp]
 | c :: l => by
  have := dp_bd l
  rw [dp, List.length_cons]
  have : -1 ≤ dpc c ∧ dpc c ≤ 1 := by unfold dpc; (repeat' split) <;> decide
  omega
theorem w_match (a b c : List UInt8) (hl : (a ++ 40 :: (b ++ 41 :: c)).length ≤ 1000000) (h0 : dp b = 0) (hb : ∀ i, i ≤ b.length → 0 ≤ dp (b.take i)) :
    Pure Tryd.prog 18 [vS (a ++ 40 :: (b ++ 41 :: c)), vI a.length] (vI ((a.length + 1 + b.length : Nat) : Int)) := by
  obtain ⟨t, ht⟩ : ∃ t, t = 40 :: (b ++ 41 :: c) := ⟨_, rfl⟩
  have htl : t.length = b.length + c.length + 2 := by rw [ht]; simp; omega
  have d1 : ∀ j, j ≤ b.length → 0 < dp (t.take (j + 1)) := fun j hj => by
    rw [ht, List.take_succ_cons, dp, List.take_append, dp_app, show j - b.length = 0 by omega, List.take_zero]
    have := hb j hj
    have e : dpc 40 = 1 := rfl
    have e' : dp [] = 0 := rfl
    omega
  have d2 : dp (t.take (b.length + 1 + 1)) = 0 := by
    rw [ht, List.take_succ_cons, dp, List.take_append, List.take_of_length_le (by omega), dp_app, h0, show b.length + 1 - b.length = 1 by omega]; rfl
  have ha : ∀ j, (a ++ t)[a.length + j]? = t[j]? := fun j => by rw [List.getElem?_append_right (by omega)]; congr 1; omega
  have hlt : (a ++ t).length = a.length + t.length := List.length_append
  rw [← ht] at hl ⊢
  clear ht hb h0
  generalize a ++ t = S at *
  (refine Pure.of_code mix Tryd.call18 k_18 (by simp) (fun hB => ?_); (try simp at hB); (try simp -implicitDefEqProofs [c_tallystonelaw32_match_18]))
  refine loop_rule (X := Nat) (fun j => j ≤ b.length + 1) (fun j => [(0, vS S), (5, vI (dp (t.take j))), (6, vI ((a.length + j : Nat) : Int))]) (fun _ => St0) (fun j => b.length + 1 - j) 0 (by omega) (by simp [dp]) ?_
  rintro j hj hbd
  clear hbd
  have hjt : j < t.length := by omega
  have hy : t[j]? = some t[j] := by simp [hjt]
  have hbt := byteAt_of ((ha j).trans hy)
  have hnx : dp (t.take (j + 1)) = dp (t.take j) + dpc t[j] := by rw [take_next hy, dp_app, dp, dp]; omega
  have hbdd := dp_bd (t.take j)
  have hbd2 := dp_bd (t.take (j + 1))
  rw [List.length_take] at hbdd hbd2
  have e3 : IntKind.i64.wrap (((a.length + j : Nat) : Int) + 1) = ((a.length + (j + 1) : Nat) : Int) := by rw [wrap64 (by omega) (by omega)]; push_cast; omega
  have hlt2 : ((a.length + j : Nat) : Int) < S.length := by omega
  have hlt3 : a.length + j < S.length := by omega
  have e4 : IntKind.i64.wrap (dp (t.take j) + 1) = dp (t.take j) + 1 := wrap64 (by omega) (by omega)
  have e5 : IntKind.i64.wrap (dp (t.take j) - 1) = dp (t.take j) - 1 := wrap64 (by omega) (by omega)
  have hp0 : (0 : Int) ≤ ((a.length + j : Nat) : Int) := by omega
  rcases Nat.lt_or_ge j (b.length + 1) with hjb | hjb
  · have hpos := d1 j (by omega)
    rw [hnx] at hpos
    have key : ∀ D, D = dp (t.take j) + dpc t[j] → ∃ z', z' ≤ b.length + 1 ∧ b.length + 1 - z' < b.length + 1 - j ∧ dp (t.take z') = D ∧ (z' : Int) = (j : Int) + 1 := fun D hD => ⟨j + 1, by omega, by omega, by rw [hD, hnx], by push_cast; rfl⟩
    generalize t[j] = y at *
    generalize dp (t.take j) = D at *
    generalize ((a.length + j : Nat) : Int) = I at *
    by_cases y1 : y = 40
    · subst y1
      have c0 : dpc 40 = 1 := rfl
      rw [c0] at hpos key
      have n0 : (D + 1 == 0) = false := by simp; omega
      have b1 : byteAt S I = 40 := hbt
      (try simp -implicitDefEqProofs [hlt2, hp0, b1, e3, e4, n0])
      exact key _ rfl
    by_cases y2 : y = 41
    · subst y2
      have c0 : dpc 41 = -1 := rfl
      rw [c0] at hpos key
      have n0 : (D - 1 == 0) = false := by simp; omega
      have b1 : byteAt S I = 41 := hbt
      (try simp -implicitDefEqProofs [hlt2, hp0, b1, e3, e5, n0])
      exact key (D - 1) (by omega)
    · have c0 : dpc y = 0 := by unfold dpc; rw [if_neg y1, if_neg y2]
      rw [c0] at hpos key
      have n0 : (D == 0) = false := by simp; omega
      have b1 : (byteAt S I == 40) = false := by
        rw [hbt, beq_eq_false_iff_ne]
        exact fun h => y1 (UInt8.toNat_inj.1 (by have : y.toNat = 40 := by omega
                                                 rw [this]; rfl))
      have b2 : (byteAt S I == 41) = false := by
        rw [hbt, beq_eq_false_iff_ne]
        exact fun h => y2 (UInt8.toNat_inj.1 (by have : y.toNat = 41 := by omega
                                                 rw [this]; rfl))
      (try simp -implicitDefEqProofs [hlt2, hp0, b1, b2, e3, n0])
      exact key D (by omega)
  · have hje : j = b.length + 1 := by omega
    subst hje
    have hy1 : t[b.length + 1] = 41 ∧ True := by
      refine ⟨?_, trivial⟩
      have h1 := d1 b.length (Nat.le_refl _)
      have h2 := d2
      rw [hnx] at h2
      unfold dpc at h2
      split at h2
      · omega
      · split at h2
        · assumption
        · omega
    obtain ⟨hy1, _⟩ := hy1
    rw [hy1] at hbt hnx
    rw [d2] at hnx
    have c0 : dpc 41 = -1 := rfl
    rw [c0] at hnx
    have hD : dp (t.take (b.length + 1)) = 1 := by omega
    rw [hD] at e5
    have b1 : byteAt S ((a.length + (b.length + 1) : Nat) : Int) = 41 := hbt
    generalize hI : ((a.length + (b.length + 1) : Nat) : Int) = I at *
    (try simp -implicitDefEqProofs [hlt2, hp0, b1, hD])
    omega

def plcB (S : List UInt8) (i : Nat) : Bool := decide (1 ≤ i) && (byteAt S i == 40) && (decide (byteAt S ((i : Int) - 1) < 97) || decide (122 < byteAt S ((i : Int) - 1)))
def plcs (S : List UInt8) (k : Nat) : List Nat := (List.range k).filter (plcB S)
theorem plcs_next (S : List UInt8) (k : Nat) : plcs S (k + 1) = plcs S k ++ (if plcB S k then [k] else []) := by
 unfold plcs
 rw [List.range_succ, List.filter_append]
 cases h : plcB S k <;> simp [h]
theorem plcs_one (S : List UInt8) : plcs S 1 = [] := by
 have h := plcs_next S 0
 rw [show plcs S 0 = [] from rfl, show plcB S 0 = false by simp [plcB]] at h
 exact h
theorem plcs_len (S : List UInt8) (k : Nat) : (plcs S k).length ≤ k := by
 unfold plcs
 have := List.length_filter_le (plcB S) (List.range k)
 rwa [List.length_range] at this
theorem plcs_mem {S : List UInt8} {k m : Nat} (h : m ∈ plcs S k) : m < k ∧ plcB S m = true := by
 unfold plcs at h
 rw [List.mem_filter, List.mem_range] at h
 exact h
theorem fewO_nl {p : List Rul} (h : fewB p = true) : p.length ≤ 50 ∧ (∀ r ∈ p, r.stmts.length ≤ 40) ∧ ∀ r ∈ p, ∀ s ∈ r.stmts, s.ex.cnt ≤ 200 := by
 unfold fewB fewR fewS at h
 simp only [Bool.and_eq_true, List.all_eq_true, decide_eq_true_eq] at h
 exact ⟨h.2, fun r hr => (h.1 r hr).1.2, fun r hr s hs => ((h.1 r hr).2 s hs).2⟩
theorem pair_at {p : List Rul} (hb : prgB p = true) (h8 : (txt (prgP p)).length ≤ 8000) {m : Nat} (hm : m ∈ plcs (txt (prgP p)) (txt (prgP p)).length) :
  ∃ a b c, txt (prgP p) = a ++ 40 :: (b ++ 41 :: c) ∧ a.length = m ∧ dp b = 0 ∧ (∀ i, i ≤ b.length → 0 ≤ dp (b.take i)) ∧ ((parseR (a ++ (b ++ c))).2.2 ≠ 0 ∨ (parseR (a ++ (b ++ c))).1 ≠ p) := by
 obtain ⟨h1, h2⟩ := plcs_mem hm
 unfold plcB at h2
 simp only [Bool.and_eq_true, Bool.or_eq_true, decide_eq_true_eq, beq_iff_eq] at h2
 obtain ⟨⟨h2, h3⟩, h4⟩ := h2
 have hr : ∀ r ∈ p, rulB r = true := by
  unfold prgB at hb
  simp only [Bool.and_eq_true, List.all_eq_true] at hb
  exact hb.1
 have e1 : (txt (prgP p))[m]? = some 40 := by
  have hy : (txt (prgP p))[m]? = some (txt (prgP p))[m] := by simp [h1]
  have := byteAt_of hy
  rw [hy]
  congr 1
  refine UInt8.toNat_inj.1 ?_
  have : ((txt (prgP p))[m]).toNat = 40 := by omega
  rw [this]; rfl
 have e2 : ∀ c, (txt (prgP p))[m - 1]? = some c → ¬ (97 ≤ c.toNat ∧ c.toNat ≤ 122) := fun c hc => by
  have := byteAt_of hc
  rw [show ((m - 1 : Nat) : Int) = (m : Int) - 1 by omega] at this
  omega
 obtain ⟨a, b, c, q1, q2, q3, q4, qs, q5, q6, q7⟩ := cut_pair (gp_prg hr) (lxb_prg hr) h2 e1 e2
 refine ⟨a, b, c, q1, q2, q3, q4, ?_⟩
 rw [← q6]
 refine parse_cut h8 q5 q7 ?_
 rw [q6, q1]; simp; omega
theorem l_needless (p : List Rul) (wh : Int) (hw0 : 0 ≤ wh) (hw1 : wh ≤ 255) : Pure Tryd.prog 5 [Rul.l p, .t (.int .u8 wh)] (vB true) := by
 have ha := w_awake32
 have hf := w_Few p
 cases h : fewB p
 ·rw [h] at hf
  (refine Pure.of_code mix Tryd.call5 k_5 (by simp) (fun hB => ?_); (try simp at hB); (try simp -implicitDefEqProofs [c_tallystonelaw32_SyntaxNeedless_5]))
  ((try simp at ha); (try simp at hf); (try simp -implicitDefEqProofs); repeat' first | (with_reducible apply callK_pure <;> first | (simp only [eras, era, eras_map]; first | with_reducible exact ha | with_reducible exact hf | simpa using ha | simpa using hf) | (simp -implicitDefEqProofs)))
 rw [h] at hf
 obtain ⟨fa, fb, fc⟩ := fewO_nl h
 have hp := w_prog32 p (by omega) (fun r hr => by have := fb r hr; omega) (fun r hr s hs => by have := fc r hr s hs; omega)
 have hr := w_Print p (fun r hr s hs => by have := fc r hr s hs; omega) (fun r hr s hs => .inl w_joinC)
 unfold printR at hr
 by_cases hb : prgB p = true
 case neg =>
  rw [if_neg hb] at hr
  (refine Pure.of_code mix Tryd.call5 k_5 (by simp) (fun hB => ?_); (try simp at hB); (try simp -implicitDefEqProofs [c_tallystonelaw32_SyntaxNeedless_5]))
  ((try simp at ha); (try simp at hf); (try simp at hp); (try simp at hr); (try simp -implicitDefEqProofs); repeat' first | (with_reducible apply callK_pure <;> first | (simp only [eras, era, eras_map]; first | with_reducible exact ha | with_reducible exact hf | with_reducible exact hp | with_reducible exact hr | simpa using ha | simpa using hf | simpa using hp | simpa using hr) | (simp -implicitDefEqProofs)))
 rw [if_pos hb] at hr
 by_cases h8 : 8000 < (txt (prgP p)).length
 ·rw [if_pos h8] at hr
  (refine Pure.of_code mix Tryd.call5 k_5 (by simp) (fun hB => ?_); (try simp at hB); (try simp -implicitDefEqProofs [c_tallystonelaw32_SyntaxNeedless_5]))
  ((try simp at ha); (try simp at hf); (try simp at hp); (try simp at hr); (try simp -implicitDefEqProofs); repeat' first | (with_reducible apply callK_pure <;> first | (simp only [eras, era, eras_map]; first | with_reducible exact ha | with_reducible exact hf | with_reducible exact hp | with_reducible exact hr | simpa using ha | simpa using hf | simpa using hp | simpa using hr) | (simp -implicitDefEqProofs)))
 rw [if_neg h8] at hr
 have hpair := fun m hm => pair_at hb (by omega) (m := m) hm
 generalize txt (prgP p) = S at *
 (refine Pure.of_code mix Tryd.call5 k_5 (by simp) (fun hB => ?_); (try simp at hB); (try simp -implicitDefEqProofs [c_tallystonelaw32_SyntaxNeedless_5]))
 ((try simp at ha); (try simp at hf); (try simp at hp); (try simp at hr); (try simp -implicitDefEqProofs); repeat' first | (with_reducible apply callK_pure <;> first | (simp only [eras, era, eras_map]; first | with_reducible exact ha | with_reducible exact hf | with_reducible exact hp | with_reducible exact hr | simpa using ha | simpa using hf | simpa using hp | simpa using hr) | (simp -implicitDefEqProofs)))
 refine loop_grow [(.slot 8, 3, 1)] (X := Nat) (fun k => 1 ≤ k ∧ (k ≤ S.length ∨ k = 1)) (fun k => [(1, .t (.int .u8 wh)), (5, Rul.l p), (6, vS S), (8, .own 0 3 1 ((plcs S k).map fun i : Nat => [T.int .i64 (i : Int)])), (9, vI k)])
  (fun k => ⟨[], [(plcs S k).length]⟩) (fun k => S.length - k) 1 ⟨by omega, .inr rfl⟩ (by rw [plcs_one]; simp) ?_
 rintro k ⟨hk1, hk2⟩ hbd
 clear hbd
 have hpl := plcs_len S k
 rcases Nat.lt_or_ge k S.length with g | g
 ·have e3 : IntKind.i64.wrap ((k : Int) + 1) = (k : Int) + 1 := wrap64 (by omega) (by omega)
  have e4 : IntKind.i64.wrap ((k : Int) - 1) = (k : Int) - 1 := wrap64 (by omega) (by omega)
  have hnx := plcs_next S k
  have hd : plcB S k = ((byteAt S k == 40) && (decide (byteAt S ((k : Int) - 1) < 97) || decide (122 < byteAt S ((k : Int) - 1)))) := by unfold plcB; simp [hk1]
  have g2 : (k : Int) - 1 < S.length := by omega
  have g3 : (0 : Int) ≤ (k : Int) - 1 := by omega
  by_cases y1 : byteAt S k = 40
  ·by_cases y2 : byteAt S ((k : Int) - 1) < 97
   ·rw [hd] at hnx
    simp only [y1, y2, beq_self_eq_true, decide_true, Bool.true_or, Bool.and_self, if_true] at hnx
    (try simp -implicitDefEqProofs [g, g2, g3, e3, e4, y1, y2])
    exact ⟨by omega, ⟨by unfold maxLen; omega, by omega⟩, k + 1, ⟨by omega, .inl (by omega)⟩, by omega, by rw [hnx]; simp, by rw [hnx, List.map_append]; exact .inl (.inl rfl), by push_cast; rfl⟩
   ·by_cases y3 : 122 < byteAt S ((k : Int) - 1)
    ·rw [hd] at hnx
     simp only [y1, y2, y3, beq_self_eq_true, decide_true, decide_false, Bool.false_or, Bool.and_self, if_true] at hnx
     (try simp -implicitDefEqProofs [g, g2, g3, e3, e4, y1, y2, y3])
     exact ⟨by omega, ⟨by unfold maxLen; omega, by omega⟩, k + 1, ⟨by omega, .inl (by omega)⟩, by omega, by rw [hnx]; simp, by rw [hnx, List.map_append]; exact .inl (.inl rfl), by push_cast; rfl⟩
    ·rw [hd] at hnx
     simp only [y1, y2, y3, beq_self_eq_true, decide_true, decide_false, Bool.false_or, Bool.and_false, Bool.false_eq_true, if_false, List.append_nil] at hnx
     (try simp -implicitDefEqProofs [g, g2, g3, e3, e4, y1, y2, y3])
     exact ⟨by omega, k + 1, ⟨by omega, .inl (by omega)⟩, by omega, by rw [hnx], by rw [hnx]; exact .inl (.inl rfl), by push_cast; rfl⟩
  ·have y1' : (byteAt S k == 40) = false := by simpa using y1
   rw [hd, y1'] at hnx
   simp only [Bool.false_and, Bool.false_eq_true, if_false, List.append_nil] at hnx
   (try simp -implicitDefEqProofs [g, g2, g3, e3, e4, y1'])
   exact ⟨k + 1, ⟨by omega, .inl (by omega)⟩, by omega, by rw [hnx], by rw [hnx]; exact .inl (.inl rfl), by push_cast; rfl⟩
 ·have hkS : ∀ m ∈ plcs S k, m ∈ plcs S S.length := by
   intro m hm
   rcases hk2 with q | q
   ·rw [show S.length = k by omega]; exact hm
   ·subst q; rw [plcs_one] at hm; cases hm
  have hpair := fun m hm => hpair m (hkS m hm)
  have g' : ¬ k < S.length := by omega
  generalize plcs S k = PL at *
  rcases Nat.eq_zero_or_pos PL.length with hz | hz
  ·have hPL : PL = [] := List.length_eq_zero_iff.1 hz
   subst hPL
   (try simp -implicitDefEqProofs [g'])
  ·obtain ⟨wn, rfl⟩ : ∃ wn : Nat, wh = wn := ⟨wh.toNat, by omega⟩
   obtain ⟨i, hi⟩ : ∃ i, i = wn % PL.length := ⟨_, rfl⟩
   have hin : i < PL.length := by rw [hi]; exact Nat.mod_lt _ hz
   have e5 : (wn : Int).tmod (PL.length : Int) = (i : Int) := by rw [Int.tmod_eq_emod_of_nonneg hw0, hi]; push_cast; rfl
   have e6 : IntKind.i64.wrap (wn : Int) = wn := wrap64 (by omega) (by omega)
   have e7 : IntKind.i64.wrap (i : Int) = (i : Int) := wrap64 (by omega) (by omega)
   obtain ⟨a, b, c, q1, q2, q3, q4, q5⟩ := hpair PL[i] (List.getElem_mem hin)
   have hgt : PL[i]? = some PL[i] := by simp [hin]
   rw [← q2] at hgt
   have hge : PL[i] = a.length := q2.symm
   have hsl : S.length = a.length + b.length + c.length + 2 := by rw [q1]; simp; omega
   have hma := w_match a b c (by rw [← q1]; omega) q3 q4
   rw [← q1] at hma
   have t1 : S.take a.length = a := by rw [q1]; simp
   have t2 : (S.take (a.length + 1 + b.length)).drop (a.length + 1) = b := by
    rw [q1, show a.length + 1 + b.length = a.length + (1 + b.length) by omega, List.take_length_add_append, List.drop_length_add_append, Nat.add_comm 1, List.take_succ_cons, List.drop_succ_cons]; simp
   have t3 : S.drop (a.length + 1 + b.length + 1) = c := by
    rw [q1, show a.length + 1 + b.length + 1 = a.length + (b.length + 1 + 1) by omega, List.drop_length_add_append, List.drop_succ_cons, List.drop_length_add_append]; simp
   have w1 : IntKind.i64.wrap ((a.length : Int) + 1) = (a.length : Int) + 1 := wrap64 (by omega) (by omega)
   have w2 : IntKind.i64.wrap (((a.length + 1 + b.length : Nat) : Int) + 1) = ((a.length + 1 + b.length : Nat) : Int) + 1 := wrap64 (by omega) (by omega)
   have hpp := w_Parse (a ++ (b ++ c))
   have hsm := w_Same (parseR (a ++ (b ++ c))).1 p
   have hfl : (parseR (a ++ (b ++ c))).2.2 ≠ 0 ∨ eqv (parseR (a ++ (b ++ c))).1 p = false := q5.imp id eqv_no
   generalize parseR (a ++ (b ++ c)) = R at *
   obtain ⟨P1, P2, P3⟩ := R
   simp only [] at hpp hsm hfl
   generalize eqv P1 p = E at *
   generalize ha0 : a.length + 1 + b.length = to at *
   clear q1 hpair
   have t0 : ¬ (to : Int) < 0 := by omega
   have t4 : ((a.length : Int) + 1).toNat = a.length + 1 := by omega
   have t5 : ((to : Int) + 1).toNat = to + 1 := by omega
   have t6 : (a.length : Int) + 1 ≤ to := by omega
   have t7 : (to : Int) ≤ S.length := by omega
   have t8 : (to : Int) + 1 ≤ S.length := by omega
   have t9 : a.length ≤ S.length := by omega
   have hz' : ((PL.length : Int) == 0) = false := by rw [beq_eq_false_iff_ne]; omega
   have hz2 : ¬ PL.length = 0 := by omega
   ((try simp at hma); (try simp -implicitDefEqProofs [g', hz', hz2, e5, e6, e7, hin, hgt, hge, w1, w2, t0, t1, t2, t3, t4, t5, t6, t7, t8, t9]); repeat' first | (with_reducible apply callK_pure <;> first | (simp only [eras, era, eras_map]; first | with_reducible exact hma | simpa using hma) | (simp -implicitDefEqProofs [g', hz', hz2, e5, e6, e7, hin, hgt, hge, w1, w2, t0, t1, t2, t3, t4, t5, t6, t7, t8, t9])))
   refine ⟨by omega, by unfold maxLen; omega, by omega, by unfold maxLen; omega, ?_⟩
   by_cases hP : P3 = 0
   ·have hE := hfl.resolve_left (fun h => h hP)
    subst hP
    rw [hE] at hsm
    ((try simp at hpp); (try simp at hsm); (try simp -implicitDefEqProofs); repeat' first | (with_reducible apply callK_pure <;> first | (simp only [eras, era, eras_map]; first | with_reducible exact hpp | with_reducible exact hsm | simpa using hpp | simpa using hsm) | (simp -implicitDefEqProofs)))
   ·have hP' : (P3 != 0) = true := by simpa using hP
    ((try simp at hpp); (try simp -implicitDefEqProofs [hP']); repeat' first | (with_reducible apply callK_pure <;> first | (simp only [eras, era, eras_map]; first | with_reducible exact hpp | simpa using hpp) | (simp -implicitDefEqProofs [hP'])))
end Go.Proofs.YtpggidmbnjfmaaaDoor
