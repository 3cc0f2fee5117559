/- Chapter 32: the texts of expressions. Printed by gen_pra.py. -/
import Derived.Test.YtpggidmbnjfmaaaGreatDoorPsa
import Derived.Test.YtpggidmbnjfmaaaGreatDoorPpm
import Derived.Test.YtpggidmbnjfmaaaGreatDoorIto
import Derived.Lib.ItoaLen
import Derived.Test.YtpggidmbnjfmaaaGreatDoorCodeD
set_option linter.unusedSimpArgs false
set_option linter.unusedVariables false
set_option maxHeartbeats 4000000
set_option maxRecDepth 8000
namespace Go.Proofs.YtpggidmbnjfmaaaGreatDoor
open E

theorem opA_is : opA = [.str sOr, .int .i64 13, .int .i64 1, .str sAnd, .int .i64 12, .int .i64 2, .str [60], .int .i64 14, .int .i64 4, .str [60, 61], .int .i64 15, .int .i64 4, .str [61], .int .i64 16, .int .i64 4, .str [33, 61], .int .i64 17, .int .i64 4, .str [62, 61], .int .i64 18, .int .i64 4, .str [62], .int .i64 19, .int .i64 4, .str [43], .int .i64 7, .int .i64 5, .str [45], .int .i64 8, .int .i64 5, .str [42], .int .i64 9, .int .i64 6] := rfl
def kNo (j : Nat) (k : Int) : Prop := ∀ x ∈ opsL.take j, x.2.1 ≠ k
theorem kNo_0 (k : Int) : kNo 0 k := fun x hx => by cases hx
theorem kNo_s {j : Nat} {k : Int} {y : List UInt8 × Int × Int} (h : opsL.take (j + 1) = opsL.take j ++ [y]) (hf : kNo j k) (hk : y.2.1 ≠ k) : kNo (j + 1) k := fun x hx => by
 rw [h] at hx
 rcases List.mem_append.1 hx with hx | hx
 ·exact hf x hx
 ·rw [List.mem_singleton.1 hx]; exact hk
theorem kNo_all {k : Int} (hf : kNo 11 k) : k ≠ 13 ∧ k ≠ 12 ∧ k ≠ 14 ∧ k ≠ 15 ∧ k ≠ 16 ∧ k ≠ 17 ∧ k ≠ 18 ∧ k ≠ 19 ∧ k ≠ 7 ∧ k ≠ 8 ∧ k ≠ 9 := by
 unfold kNo at hf
 simp [opsL] at hf
 omega
def opJ (j : Nat) (k : Int) (lv left : Nat) (tx : List UInt8) : Prop := (j = 0 ∧ k = 13 ∧ lv = 1 ∧ left = 1 ∧ tx = sOr) ∨ (j = 1 ∧ k = 12 ∧ lv = 2 ∧ left = 2 ∧ tx = sAnd) ∨ (j = 2 ∧ k = 14 ∧ lv = 4 ∧ left = 5 ∧ tx = [60]) ∨ (j = 3 ∧ k = 15 ∧ lv = 4 ∧ left = 5 ∧ tx = [60, 61]) ∨ (j = 4 ∧ k = 16 ∧ lv = 4 ∧ left = 5 ∧ tx = [61]) ∨ (j = 5 ∧ k = 17 ∧ lv = 4 ∧ left = 5 ∧ tx = [33, 61]) ∨ (j = 6 ∧ k = 18 ∧ lv = 4 ∧ left = 5 ∧ tx = [62, 61]) ∨ (j = 7 ∧ k = 19 ∧ lv = 4 ∧ left = 5 ∧ tx = [62]) ∨ (j = 8 ∧ k = 7 ∧ lv = 5 ∧ left = 5 ∧ tx = [43]) ∨ (j = 9 ∧ k = 8 ∧ lv = 5 ∧ left = 5 ∧ tx = [45]) ∨ (j = 10 ∧ k = 9 ∧ lv = 6 ∧ left = 6 ∧ tx = [42])
theorem opJ_at {j : Nat} (h : j < 11) : ∃ c lv left tx, opJ j c lv left tx := by
 rcases (by omega : j = 0 ∨ j = 1 ∨ j = 2 ∨ j = 3 ∨ j = 4 ∨ j = 5 ∨ j = 6 ∨ j = 7 ∨ j = 8 ∨ j = 9 ∨ j = 10) with rfl | rfl | rfl | rfl | rfl | rfl | rfl | rfl | rfl | rfl | rfl
 ·exact ⟨13, 1, 1, sOr, by simp [opJ]⟩
 ·exact ⟨12, 2, 2, sAnd, by simp [opJ]⟩
 ·exact ⟨14, 4, 5, [60], by simp [opJ]⟩
 ·exact ⟨15, 4, 5, [60, 61], by simp [opJ]⟩
 ·exact ⟨16, 4, 5, [61], by simp [opJ]⟩
 ·exact ⟨17, 4, 5, [33, 61], by simp [opJ]⟩
 ·exact ⟨18, 4, 5, [62, 61], by simp [opJ]⟩
 ·exact ⟨19, 4, 5, [62], by simp [opJ]⟩
 ·exact ⟨7, 5, 5, [43], by simp [opJ]⟩
 ·exact ⟨8, 5, 5, [45], by simp [opJ]⟩
 ·exact ⟨9, 6, 6, [42], by simp [opJ]⟩
theorem opJ_lvl {j : Nat} {c : Int} {lv left : Nat} {tx : List UInt8} (h : opJ j c lv left tx) : lvl c = lv := by
 rcases h with ⟨rfl, rfl, rfl, rfl, rfl⟩ | ⟨rfl, rfl, rfl, rfl, rfl⟩ | ⟨rfl, rfl, rfl, rfl, rfl⟩ | ⟨rfl, rfl, rfl, rfl, rfl⟩ | ⟨rfl, rfl, rfl, rfl, rfl⟩ | ⟨rfl, rfl, rfl, rfl, rfl⟩ | ⟨rfl, rfl, rfl, rfl, rfl⟩ | ⟨rfl, rfl, rfl, rfl, rfl⟩ | ⟨rfl, rfl, rfl, rfl, rfl⟩ | ⟨rfl, rfl, rfl, rfl, rfl⟩ | ⟨rfl, rfl, rfl, rfl, rfl⟩ <;> rfl
theorem opJ_no {j : Nat} {c k : Int} {lv left : Nat} {tx : List UInt8} (h : opJ j c lv left tx) (hf : kNo j k) (hk : c ≠ k) : kNo (j + 1) k := by
 refine kNo_s (y := (tx, c, (lv : Int))) ?_ hf hk
 rcases h with ⟨rfl, rfl, rfl, rfl, rfl⟩ | ⟨rfl, rfl, rfl, rfl, rfl⟩ | ⟨rfl, rfl, rfl, rfl, rfl⟩ | ⟨rfl, rfl, rfl, rfl, rfl⟩ | ⟨rfl, rfl, rfl, rfl, rfl⟩ | ⟨rfl, rfl, rfl, rfl, rfl⟩ | ⟨rfl, rfl, rfl, rfl, rfl⟩ | ⟨rfl, rfl, rfl, rfl, rfl⟩ | ⟨rfl, rfl, rfl, rfl, rfl⟩ | ⟨rfl, rfl, rfl, rfl, rfl⟩ | ⟨rfl, rfl, rfl, rfl, rfl⟩ <;> rfl
theorem opJ_ex {k : Int} (h : k = 7 ∨ k = 8 ∨ k = 9 ∨ (12 ≤ k ∧ k ≤ 19)) : ∃ j lv left tx, opJ j k lv left tx := by
 rcases (by omega : k = 13 ∨ k = 12 ∨ k = 14 ∨ k = 15 ∨ k = 16 ∨ k = 17 ∨ k = 18 ∨ k = 19 ∨ k = 7 ∨ k = 8 ∨ k = 9) with rfl | rfl | rfl | rfl | rfl | rfl | rfl | rfl | rfl | rfl | rfl
 ·exact ⟨0, 1, 1, sOr, by simp [opJ]⟩
 ·exact ⟨1, 2, 2, sAnd, by simp [opJ]⟩
 ·exact ⟨2, 4, 5, [60], by simp [opJ]⟩
 ·exact ⟨3, 4, 5, [60, 61], by simp [opJ]⟩
 ·exact ⟨4, 4, 5, [61], by simp [opJ]⟩
 ·exact ⟨5, 4, 5, [33, 61], by simp [opJ]⟩
 ·exact ⟨6, 4, 5, [62, 61], by simp [opJ]⟩
 ·exact ⟨7, 4, 5, [62], by simp [opJ]⟩
 ·exact ⟨8, 5, 5, [43], by simp [opJ]⟩
 ·exact ⟨9, 5, 5, [45], by simp [opJ]⟩
 ·exact ⟨10, 6, 6, [42], by simp [opJ]⟩
theorem w_levelOf (k v f t : Int) (n : List UInt8) (xs : List Xp) : Pure Tryz.prog 98 [(Xp.mk k v f t n xs).v] (vI (lvl k)) := by
 have hops := w_poperators
 have hC := opA_is
 rw [Xp.v, Xp.c_mk]
 obtain ⟨R, hR⟩ : ∃ R, R = vI (lvl k) := ⟨_, rfl⟩
 rw [← hR]
 (refine Pure.of_code mix Tryz.call98 k_98 (by simp) (fun hB => ?_); (try simp at hB); (try simp -implicitDefEqProofs [qc_98]))
 ((try simp at hops); (try simp -implicitDefEqProofs); repeat' first | (with_reducible apply callK_pure <;> first | (simp only [eras, era, eras_map]; first | with_reducible exact hops | simpa using hops) | (simp -implicitDefEqProofs)))
 refine loop_rule (X := Nat) (fun j => j ≤ 11 ∧ kNo j k) (fun j => [(1, .ptr 0 0), (5, .agg (opA.map .t)), (6, vI j)]) (fun _ => ⟨[.cells [vI k, vI v, vI f, vI t, vS n, Xp.l xs]], []⟩) (fun j => 11 - j) 0 ⟨by simp, kNo_0 k⟩ (by simp) ?_
 rintro j ⟨hj, hf⟩ hbd
 clear hbd
 rcases (by omega : j < 11 ∨ j = 11) with hj | rfl
 ·obtain ⟨c, lv, left, tx, ho⟩ := opJ_at hj
  by_cases hk : c = k
  ·subst hk
   rw [opJ_lvl ho] at hR
   subst hR
   rcases ho with ⟨rfl, rfl, rfl, rfl, rfl⟩ | ⟨rfl, rfl, rfl, rfl, rfl⟩ | ⟨rfl, rfl, rfl, rfl, rfl⟩ | ⟨rfl, rfl, rfl, rfl, rfl⟩ | ⟨rfl, rfl, rfl, rfl, rfl⟩ | ⟨rfl, rfl, rfl, rfl, rfl⟩ | ⟨rfl, rfl, rfl, rfl, rfl⟩ | ⟨rfl, rfl, rfl, rfl, rfl⟩ | ⟨rfl, rfl, rfl, rfl, rfl⟩ | ⟨rfl, rfl, rfl, rfl, rfl⟩ | ⟨rfl, rfl, rfl, rfl, rfl⟩ <;> ((try simp -implicitDefEqProofs [hC]))
  ·have hk' : (c == k) = false := by simpa using hk
   have hf' := opJ_no ho hf hk
   rcases ho with ⟨rfl, rfl, rfl, rfl, rfl⟩ | ⟨rfl, rfl, rfl, rfl, rfl⟩ | ⟨rfl, rfl, rfl, rfl, rfl⟩ | ⟨rfl, rfl, rfl, rfl, rfl⟩ | ⟨rfl, rfl, rfl, rfl, rfl⟩ | ⟨rfl, rfl, rfl, rfl, rfl⟩ | ⟨rfl, rfl, rfl, rfl, rfl⟩ | ⟨rfl, rfl, rfl, rfl, rfl⟩ | ⟨rfl, rfl, rfl, rfl, rfl⟩ | ⟨rfl, rfl, rfl, rfl, rfl⟩ | ⟨rfl, rfl, rfl, rfl, rfl⟩ <;> ((try simp -implicitDefEqProofs [hC, hk, hk']); first | exact ⟨1, ⟨by omega, hf'⟩, by omega, rfl⟩ | exact ⟨2, ⟨by omega, hf'⟩, by omega, rfl⟩ | exact ⟨3, ⟨by omega, hf'⟩, by omega, rfl⟩ | exact ⟨4, ⟨by omega, hf'⟩, by omega, rfl⟩ | exact ⟨5, ⟨by omega, hf'⟩, by omega, rfl⟩ | exact ⟨6, ⟨by omega, hf'⟩, by omega, rfl⟩ | exact ⟨7, ⟨by omega, hf'⟩, by omega, rfl⟩ | exact ⟨8, ⟨by omega, hf'⟩, by omega, rfl⟩ | exact ⟨9, ⟨by omega, hf'⟩, by omega, rfl⟩ | exact ⟨10, ⟨by omega, hf'⟩, by omega, rfl⟩ | exact ⟨11, ⟨by omega, hf'⟩, by omega, rfl⟩)
 ·have hk := kNo_all hf
  clear hf
  by_cases k6 : k = 6
  ·subst k6
   have hR : R = vI 3 := hR
   subst hR
   (try simp -implicitDefEqProofs)
  by_cases k20 : k = 20
  ·subst k20
   have hR : R = vI 6 := hR
   subst hR
   (try simp -implicitDefEqProofs)
  by_cases k3 : k = 3
  ·subst k3
   have hR : R = vI 7 := hR
   subst hR
   (try simp -implicitDefEqProofs)
  have hR : R = vI 8 := by
   rw [hR]
   unfold lvl
   rw [if_neg (by omega), if_neg (by omega), if_neg (by omega), if_neg (by omega), if_neg (by omega), if_neg (by omega), if_neg (by omega)]
   rfl
  subst hR
  have z6 : (k == 6) = false := by simpa using k6
  have z20 : (k == 20) = false := by simpa using k20
  have z3 : (k == 3) = false := by simpa using k3
  (try simp -implicitDefEqProofs [z6, z20, z3, k6, k20, k3])
def JoinC : Prop := ∀ a b : List UInt8, a.length ≤ 1000000 → b.length ≤ 1000000 → Pure Tryz.prog 132 [.t (.sl [[.str a], [.str b]]), vS [44, 32]] (vS (a ++ [44, 32] ++ b))
theorem w_join1 (a : List UInt8) : Pure Tryz.prog 132 [.t (.sl [[.str a]]), vS [44, 32]] (vS a) := by
 (refine Pure.of_code mix Tryz.call132 k_132 (by simp) (fun hB => ?_); (try simp at hB); (try simp -implicitDefEqProofs [qc_132]))
 (try simp -implicitDefEqProofs)
inductive NoMM : Xp → Prop where
 | mk (k v f t : Int) (n : List UInt8) (xs : List Xp) (hk : k ≠ 10 ∧ k ≠ 11) (h : ∀ y ∈ xs, NoMM y) : NoMM (.mk k v f t n xs)
def JoinOK (x : Xp) : Prop := JoinC ∨ NoMM x
theorem JoinOK.arg {k v f t : Int} {n : List UInt8} {xs : List Xp} (h : JoinOK (.mk k v f t n xs)) {y : Xp} (hy : y ∈ xs) : JoinOK y := by
 rcases h with h | h
 ·exact .inl h
 ·cases h with
  | mk _ _ _ _ _ _ _ h => exact .inr (h y hy)
theorem JoinOK.mm {k v f t : Int} {n : List UInt8} {xs : List Xp} (h : JoinOK (.mk k v f t n xs)) (hk : k = 10 ∨ k = 11) : JoinC := by
 rcases h with h | h
 ·exact h
 ·cases h with
  | mk _ _ _ _ _ _ h _ => omega
theorem itoa_len {v : Int} (h0 : 0 ≤ v) (h1 : v ≤ 1000000000000) : (Lib.itoa v).length ≤ 21 := Lib.itoa_length_le v (by omega) (by omega)
theorem wrap_len (lv l : Nat) (b : List Pc) : (txt (wrapP lv l b)).length ≤ (txt b).length + 2 := by
 unfold wrapP
 split
 ·simp [txt, lp, rp]
 ·omega
theorem txt_one (p : Pc) : txt [p] = p.2 := by simp [txt]
theorem txt_len : ∀ {x : Xp}, Px x → (txt (bare x)).length ≤ 60 * x.cnt := by
 intro x hx
 induction hx with
 | num v h0 h1 =>
  have : bare (.mk 1 v 0 0 [] []) = [numP v] := rfl
  rw [this, txt_one, Xp.cnt, Xp.cnts]
  have := itoa_len h0 h1
  simp only [numP]; omega
 | var n h =>
  have : bare (.mk 2 0 0 0 n []) = [(1, n)] := rfl
  rw [this, txt_one, Xp.cnt, Xp.cnts]
  unfold nameB nfB at h
  simp only [Bool.and_eq_true, decide_eq_true_eq] at h
  have := h.1.1.1.2
  simp only []; omega
 | neg a h ih =>
  have : bare (one 3 a) = (3, [45]) :: pcs a 7 := rfl
  rw [this, cnt_one, txt_cons, List.length_append]
  have := wrap_len (lvl a.kind) 7 (bare a)
  unfold pcs
  simp only [List.length_cons, List.length_nil]; omega
 | not a h ih =>
  have : bare (one 6 a) = (1, sNot) :: sp :: pcs a 3 := rfl
  rw [this, cnt_one, txt_cons, txt_cons, List.length_append, List.length_append]
  have := wrap_len (lvl a.kind) 3 (bare a)
  unfold pcs
  simp only [sp, sNot, List.length_cons, List.length_nil]; omega
 | f1 k hk a h ih =>
  rw [bare_f1 hk, cnt_one, txt_cons, txt_cons, txt_append, txt_one]
  have : (if k = 5 then sShare else sAbs).length ≤ 5 := by split <;> simp [sShare, sAbs]
  simp only [List.length_append, lp, rp, List.length_cons, List.length_nil]; omega
 | f2 k hk a b h h' ih ih' =>
  rw [bare_f2 hk, cnt_two, txt_cons, txt_cons, txt_append, txt_cons, txt_cons, txt_append, txt_one]
  have : (if k = 11 then sMax else sMin).length ≤ 5 := by split <;> simp [sMax, sMin]
  simp only [List.length_append, lp, rp, sp, List.length_cons, List.length_nil]; omega
 | per v h0 h1 a h ih =>
  have : bare (perX v a) = pcs a 6 ++ [sp, (1, sPer), sp, numP v] := rfl
  rw [this, cnt_per, txt_append, txt_cons, txt_cons, txt_cons, txt_one]
  have := wrap_len (lvl a.kind) 6 (bare a)
  have := itoa_len (v := v) (by omega) h1
  unfold pcs
  simp only [numP, sp, sPer, List.length_append, List.length_cons, List.length_nil]; omega
 | bal k hk f t hf ht =>
  have e : bare (.mk k 0 f t [] []) = [(1, if k = 22 then sPart else sBal), lp, numP f, (3, [46, 46]), numP t, rp] := by rcases hk with rfl | rfl <;> rfl
  rw [e, Xp.cnt, Xp.cnts, txt_cons, txt_cons, txt_cons, txt_cons, txt_cons, txt_one]
  have : (if k = 22 then sPart else sBal).length ≤ 7 := by split <;> simp [sPart, sBal]
  have := itoa_len (v := f) (by omega) (by omega)
  have := itoa_len (v := t) (by omega) (by omega)
  simp only [numP, lp, rp, List.length_append, List.length_cons, List.length_nil]; omega
 | bin k hk a b h h' ih ih' =>
  rw [tb_bin hk, cnt_two, txt_append, txt_cons, txt_cons, txt_cons]
  have := wrap_len (lvl a.kind) (if lvl k = 4 then 5 else lvl k) (bare a)
  have := wrap_len (lvl b.kind) (lvl k + 1) (bare b)
  have : (opX k).length ≤ 3 := by unfold opX; (repeat' split) <;> simp [sAnd, sOr]
  unfold pcs
  simp only [opc, sp, List.length_append, List.length_cons, List.length_nil]; omega
theorem c_two' (k : Int) (x y : Xp) : (two k x y).c = [.int .i64 k, .int .i64 0, .int .i64 0, .int .i64 0, .str [], .sl [x.c, y.c]] := Xp.c_mk _ _ _ _ _ _
theorem c_one' (k : Int) (x : Xp) : (one k x).c = [.int .i64 k, .int .i64 0, .int .i64 0, .int .i64 0, .str [], .sl [x.c]] := Xp.c_mk _ _ _ _ _ _
theorem c_per' (v : Int) (x : Xp) : (perX v x).c = [.int .i64 20, .int .i64 v, .int .i64 0, .int .i64 0, .str [], .sl [x.c]] := Xp.c_mk _ _ _ _ _ _
def BaC (x : Xp) : Prop := Pure Tryz.prog 97 [x.v] (vS (txt (bare x)))
def TxC (x : Xp) : Prop := ∀ l : Nat, Pure Tryz.prog 55 [x.v, vI l] (vS (txt (pcs x l)))
theorem w_text_of {x : Xp} (h : BaC x) (hl : (txt (bare x)).length ≤ 10000000) : TxC x := by
 intro l
 obtain ⟨k, v, f, t, n, xs⟩ := x
 have hlv := w_levelOf k v f t n xs
 unfold BaC at h
 have hlc := len_c (.mk k v f t n xs)
 have htc := take_c (.mk k v f t n xs)
 have hcc := Xp.c_mk k v f t n xs
 have hkk : (Xp.mk k v f t n xs).kind = k := rfl
 unfold pcs wrapP
 rw [hkk]
 rw [Xp.v, hcc] at h hlv ⊢
 generalize hb : txt (bare (.mk k v f t n xs)) = s at *
 by_cases hw : lvl k < l
 ·rw [if_pos hw, txt_cons, txt_append, hb, txt_one]
  have hd : decide ((lvl k : Int) < l) = true := by simp; omega
  have hd' : (lvl k : Int) < l := by omega
  (refine Pure.of_code mix Tryz.call55 k_55 (by simp) (fun hB => ?_); (try simp at hB); (try simp -implicitDefEqProofs [qc_55]))
  ((try simp at h); (try simp at hlv); (try simp -implicitDefEqProofs [hd, hd', lp, rp]); repeat' first | (with_reducible apply callK_pure <;> first | (simp only [eras, era, eras_map]; first | with_reducible exact h | with_reducible exact hlv | simpa using h | simpa using hlv) | (simp -implicitDefEqProofs [hd, hd', lp, rp])))
  unfold maxLen; omega
 ·rw [if_neg hw, hb]
  have hd : decide ((lvl k : Int) < l) = false := by simp; omega
  have hd' : ¬ (lvl k : Int) < l := by omega
  (refine Pure.of_code mix Tryz.call55 k_55 (by simp) (fun hB => ?_); (try simp at hB); (try simp -implicitDefEqProofs [qc_55]))
  ((try simp at h); (try simp at hlv); (try simp -implicitDefEqProofs [hd, hd']); repeat' first | (with_reducible apply callK_pure <;> first | (simp only [eras, era, eras_map]; first | with_reducible exact h | with_reducible exact hlv | simpa using h | simpa using hlv) | (simp -implicitDefEqProofs [hd, hd'])))
theorem w_bareS1 (k v f t : Int) (n : List UInt8) (xs : List Xp) (nm J : List UInt8) (hn : nm.length ≤ 100) (hx : xs.length ≤ 100) (hT : ∀ y ∈ xs, TxC y) (hJ : Pure Tryz.prog 132 [.t (.sl (xs.map fun y => [.str (txt (bare y))])), vS [44, 32]] (vS J)) (hJl : J.length ≤ 100000000) :
  FnS Tryz.prog 131 [vS nm, .ptr 0 0] ⟨[.cells [vI k, vI v, vI f, vI t, vS n, Xp.l xs]], []⟩ (vS (nm ++ [40] ++ J ++ [41])) ⟨[.cells [vI k, vI v, vI f, vI t, vS n, Xp.l xs]], []⟩ := by
 obtain ⟨R, hR⟩ : ∃ R, R = nm ++ [40] ++ J ++ [41] := ⟨_, rfl⟩
 rw [← hR]
 obtain ⟨W, hW⟩ : ∃ W, W = xs.map fun y => [T.str (txt (bare y))] := ⟨_, rfl⟩
 rw [← hW] at hJ
 have hWl : W.length = xs.length := by rw [hW]; simp
 have hm1 : nm.length + 1 ≤ maxLen := by unfold maxLen; omega
 have hm2 : nm.length + 1 + J.length ≤ maxLen := by unfold maxLen; omega
 have hm3 : nm.length + 1 + J.length + 1 ≤ maxLen := by unfold maxLen; omega
 have hm4 : nm.length + (J.length + 1) + 1 ≤ maxLen := by unfold maxLen; omega
 (refine FnS.of_code mix Tryz.call131 k_131 (by simp) (fun hB => ?_); (try simp at hB); (try simp -implicitDefEqProofs [qc_131]))
 (try simp -implicitDefEqProofs)
 refine loop_grow [(.slot 4, 9, 1)] (X := Nat) (fun j => j ≤ xs.length) (fun j => [(0, vS nm), (1, .ptr 0 0), (4, .own 0 9 1 (W.take j)), (8, Xp.l xs), (9, vI xs.length), (10, vI j)])
  (fun j => ⟨[.cells [vI k, vI v, vI f, vI t, vS n, Xp.l xs]], [j]⟩) (fun j => xs.length - j) 0 (by simp) (by simp) ?_
 rintro j hj hbd
 clear hbd
 rcases Nat.lt_or_ge j xs.length with h | h
 ·have hxj : xs[j]? = some xs[j] := by simp [h]
  have e3 : IntKind.i64.wrap ((j : Int) + 1) = (j : Int) + 1 := wrap64 (by omega) (by omega)
  have hc := hT _ (List.getElem_mem h) 0
  rw [pcs0] at hc
  have hlc := len_c xs[j]
  have htc := take_c xs[j]
  have hWj : W[j]? = some [.str (txt (bare xs[j]))] := by rw [hW]; simp [h]
  have htk := take_next hWj
  have hmin : min j W.length = j := by omega
  ((try simp at hc); (try simp -implicitDefEqProofs [h, e3, hlc, htc, hmin]); repeat' first | (with_reducible apply callK_pure <;> first | (simp only [eras, era, eras_map]; first | with_reducible exact hc | simpa using hc) | (simp -implicitDefEqProofs [h, e3, hlc, htc, hmin])))
  exact ⟨⟨by unfold maxLen; omega, by omega⟩, j + 1, by omega, by omega, rfl, by rw [htk]; exact leA.refl _, by push_cast; rfl⟩
 ·have : j = xs.length := by omega
  subst this
  have htw : W.take xs.length = W := List.take_of_length_le (by omega)
  subst hR
  ((try simp at hJ); (try simp -implicitDefEqProofs [htw, hm1, hm2, hm3, hm4]); repeat' first | (with_reducible apply callK_pure <;> first | (simp only [eras, era, eras_map]; first | with_reducible exact hJ | simpa using hJ) | (simp -implicitDefEqProofs [htw, hm1, hm2, hm3, hm4])))
theorem w_bareS2 (k v f t : Int) (n : List UInt8) (xs : List Xp) (nm : List UInt8) (hn : nm.length ≤ 100) (hf : 1 ≤ f ∧ f ≤ 99999) (ht : 1 ≤ t ∧ t ≤ 99999) :
  FnS Tryz.prog 133 [vS nm, .ptr 0 0] ⟨[.cells [vI k, vI v, vI f, vI t, vS n, Xp.l xs]], []⟩ (vS (nm ++ [40] ++ Lib.itoa f ++ [46, 46] ++ Lib.itoa t ++ [41])) ⟨[.cells [vI k, vI v, vI f, vI t, vS n, Xp.l xs]], []⟩ := by
 have h1 := w_itoa f (by omega) (by omega)
 have h2 := w_itoa t (by omega) (by omega)
 have l1 := itoa_len (v := f) (by omega) (by omega)
 have l2 := itoa_len (v := t) (by omega) (by omega)
 generalize Lib.itoa f = F at *
 generalize Lib.itoa t = G at *
 (refine FnS.of_code mix Tryz.call133 k_133 (by simp) (fun hB => ?_); (try simp at hB); (try simp -implicitDefEqProofs [qc_133]))
 ((try simp at h1); (try simp at h2); (try simp -implicitDefEqProofs); repeat' first | (with_reducible apply callK_pure <;> first | (simp only [eras, era, eras_map]; first | with_reducible exact h1 | with_reducible exact h2 | simpa using h1 | simpa using h2) | (simp -implicitDefEqProofs)))
 repeat' (refine And.intro (by (try simp only [List.length_append, List.length_cons, List.length_nil]); unfold maxLen; omega) ?_; ((try simp at h1); (try simp at h2); (try simp -implicitDefEqProofs); repeat' first | (with_reducible apply callK_pure <;> first | (simp only [eras, era, eras_map]; first | with_reducible exact h1 | with_reducible exact h2 | simpa using h1 | simpa using h2) | (simp -implicitDefEqProofs))))
 all_goals (unfold maxLen; omega)
theorem bare_op {j : Nat} {k : Int} {lv left : Nat} {tx : List UInt8} (hj : opJ j k lv left tx) (a b : Xp) (ha : TxC a) (hb : TxC b) (la : (txt (bare a)).length ≤ 10000000) (lb : (txt (bare b)).length ≤ 10000000) : BaC (two k a b) := by
  unfold opJ at hj
  have h1 := ha left
  have h2 := hb (lv + 1)
  have w1 := wrap_len (lvl a.kind) left (bare a)
  have w2 := wrap_len (lvl b.kind) (lv + 1) (bare b)
  have hr : txt (bare (two k a b)) = txt (pcs a left) ++ ([32] ++ (tx ++ ([32] ++ txt (pcs b (lv + 1))))) := by
    rcases hj with ⟨rfl, rfl, rfl, rfl, rfl⟩ | ⟨rfl, rfl, rfl, rfl, rfl⟩ | ⟨rfl, rfl, rfl, rfl, rfl⟩ | ⟨rfl, rfl, rfl, rfl, rfl⟩ | ⟨rfl, rfl, rfl, rfl, rfl⟩ | ⟨rfl, rfl, rfl, rfl, rfl⟩ | ⟨rfl, rfl, rfl, rfl, rfl⟩ | ⟨rfl, rfl, rfl, rfl, rfl⟩ | ⟨rfl, rfl, rfl, rfl, rfl⟩ | ⟨rfl, rfl, rfl, rfl, rfl⟩ | ⟨rfl, rfl, rfl, rfl, rfl⟩ <;> (rw [tb_bin (by decide), txt_append, txt_cons, txt_cons, txt_cons]; rfl)
  unfold BaC
  rw [hr]
  clear hr
  unfold pcs at *
  generalize txt (wrapP (lvl a.kind) left (bare a)) = A at *
  generalize txt (wrapP (lvl b.kind) (lv + 1) (bare b)) = D at *
  have hla := len_c a
  have hta := take_c a
  have hlb := len_c b
  have htb := take_c b
  rw [Xp.v, show (two k a b).c = _ from c_two' k a b]
  have hops := w_poperators
  have hC := opA_is
  (refine Pure.of_code mix Tryz.call97 k_97 (by simp) (fun hB => ?_); (try simp at hB); (try simp -implicitDefEqProofs [qc_97]))
  ((try simp at hops); (try simp -implicitDefEqProofs); repeat' first | (with_reducible apply callK_pure <;> first | (simp only [eras, era, eras_map]; first | with_reducible exact hops | simpa using hops) | (simp -implicitDefEqProofs)))
  refine loop_rule (X := Nat) (fun i => i ≤ j) (fun i => [(1, .ptr 0 0), (8, .agg (opA.map .t)), (9, vI i)]) (fun _ => ⟨[.cells [vI k, vI 0, vI 0, vI 0, vS [], (.t (.sl [a.c, b.c]))]], []⟩) (fun i => 11 - i) 0 (by simp) (by simp) ?_
  rintro i hi hbd
  clear hbd
  rcases hj with ⟨rfl, rfl, rfl, rfl, rfl⟩ | ⟨rfl, rfl, rfl, rfl, rfl⟩ | ⟨rfl, rfl, rfl, rfl, rfl⟩ | ⟨rfl, rfl, rfl, rfl, rfl⟩ | ⟨rfl, rfl, rfl, rfl, rfl⟩ | ⟨rfl, rfl, rfl, rfl, rfl⟩ | ⟨rfl, rfl, rfl, rfl, rfl⟩ | ⟨rfl, rfl, rfl, rfl, rfl⟩ | ⟨rfl, rfl, rfl, rfl, rfl⟩ | ⟨rfl, rfl, rfl, rfl, rfl⟩ | ⟨rfl, rfl, rfl, rfl, rfl⟩ <;>
  rcases (by omega : i = 0 ∨ i = 1 ∨ i = 2 ∨ i = 3 ∨ i = 4 ∨ i = 5 ∨ i = 6 ∨ i = 7 ∨ i = 8 ∨ i = 9 ∨ i = 10) with rfl | rfl | rfl | rfl | rfl | rfl | rfl | rfl | rfl | rfl | rfl <;>
  first
  | (exfalso; omega)
  | (((try simp at h1); (try simp at h2); (try simp -implicitDefEqProofs [hC, hla, hta, hlb, htb]); repeat' first | (with_reducible apply callK_pure <;> first | (simp only [eras, era, eras_map]; first | with_reducible exact h1 | with_reducible exact h2 | simpa using h1 | simpa using h2) | (simp -implicitDefEqProofs [hC, hla, hta, hlb, htb])))
     first
     | exact ⟨1, by omega, by omega, rfl⟩ | exact ⟨2, by omega, by omega, rfl⟩ | exact ⟨3, by omega, by omega, rfl⟩ | exact ⟨4, by omega, by omega, rfl⟩ | exact ⟨5, by omega, by omega, rfl⟩ | exact ⟨6, by omega, by omega, rfl⟩ | exact ⟨7, by omega, by omega, rfl⟩ | exact ⟨8, by omega, by omega, rfl⟩ | exact ⟨9, by omega, by omega, rfl⟩ | exact ⟨10, by omega, by omega, rfl⟩
     | (repeat' (refine And.intro (by (try simp only [List.length_append, List.length_cons, List.length_nil, sOr, sAnd]); unfold maxLen; omega) ?_; ((try simp at h1); (try simp at h2); (try simp -implicitDefEqProofs [hC, hla, hta, hlb, htb]); repeat' first | (with_reducible apply callK_pure <;> first | (simp only [eras, era, eras_map]; first | with_reducible exact h1 | with_reducible exact h2 | simpa using h1 | simpa using h2) | (simp -implicitDefEqProofs [hC, hla, hta, hlb, htb]))))
        all_goals ((try simp only [List.length_append, List.length_cons, List.length_nil, sOr, sAnd]); unfold maxLen; omega)))
theorem bare_num (v : Int) (h0 : 0 ≤ v) (h1 : v ≤ 1000000000000) : BaC (.mk 1 v 0 0 [] []) := by
 have hi := w_itoa v (by omega) (by omega)
 unfold BaC
 rw [show txt (bare (.mk 1 v 0 0 [] [])) = Lib.itoa v from txt_one _, Xp.v, Xp.c_mk]
 have hops := w_poperators
 have hC := opA_is
 (refine Pure.of_code mix Tryz.call97 k_97 (by simp) (fun hB => ?_); (try simp at hB); (try simp -implicitDefEqProofs [qc_97]))
 ((try simp at hops); (try simp -implicitDefEqProofs); repeat' first | (with_reducible apply callK_pure <;> first | (simp only [eras, era, eras_map]; first | with_reducible exact hops | simpa using hops) | (simp -implicitDefEqProofs)))
 refine loop_rule (X := Nat) (fun j => j ≤ 11) (fun j => [(1, .ptr 0 0), (8, .agg (opA.map .t)), (9, vI j)]) (fun _ => ⟨[.cells [vI 1, vI v, vI 0, vI 0, vS [], (.t (.sl []))]], []⟩) (fun j => 11 - j) 0 (by simp) (by simp) ?_
 rintro j hj hbd
 clear hbd
 rcases (by omega : j = 0 ∨ j = 1 ∨ j = 2 ∨ j = 3 ∨ j = 4 ∨ j = 5 ∨ j = 6 ∨ j = 7 ∨ j = 8 ∨ j = 9 ∨ j = 10 ∨ j = 11) with rfl | rfl | rfl | rfl | rfl | rfl | rfl | rfl | rfl | rfl | rfl | rfl
 iterate 11 (· ((try simp -implicitDefEqProofs [hC]); first | exact ⟨1, by omega, by omega, rfl⟩ | exact ⟨2, by omega, by omega, rfl⟩ | exact ⟨3, by omega, by omega, rfl⟩ | exact ⟨4, by omega, by omega, rfl⟩ | exact ⟨5, by omega, by omega, rfl⟩ | exact ⟨6, by omega, by omega, rfl⟩ | exact ⟨7, by omega, by omega, rfl⟩ | exact ⟨8, by omega, by omega, rfl⟩ | exact ⟨9, by omega, by omega, rfl⟩ | exact ⟨10, by omega, by omega, rfl⟩ | exact ⟨11, by omega, by omega, rfl⟩))
 ·((try simp at hi); (try simp -implicitDefEqProofs [hC]); repeat' first | (with_reducible apply callK_pure <;> first | (simp only [eras, era, eras_map]; first | with_reducible exact hi | simpa using hi) | (simp -implicitDefEqProofs [hC])))
theorem bare_var (n : List UInt8) : BaC (.mk 2 0 0 0 n []) := by
 unfold BaC
 rw [show txt (bare (.mk 2 0 0 0 n [])) = n from txt_one _, Xp.v, Xp.c_mk]
 have hops := w_poperators
 have hC := opA_is
 (refine Pure.of_code mix Tryz.call97 k_97 (by simp) (fun hB => ?_); (try simp at hB); (try simp -implicitDefEqProofs [qc_97]))
 ((try simp at hops); (try simp -implicitDefEqProofs); repeat' first | (with_reducible apply callK_pure <;> first | (simp only [eras, era, eras_map]; first | with_reducible exact hops | simpa using hops) | (simp -implicitDefEqProofs)))
 refine loop_rule (X := Nat) (fun j => j ≤ 11) (fun j => [(1, .ptr 0 0), (8, .agg (opA.map .t)), (9, vI j)]) (fun _ => ⟨[.cells [vI 2, vI 0, vI 0, vI 0, vS n, (.t (.sl []))]], []⟩) (fun j => 11 - j) 0 (by simp) (by simp) ?_
 rintro j hj hbd
 clear hbd
 rcases (by omega : j = 0 ∨ j = 1 ∨ j = 2 ∨ j = 3 ∨ j = 4 ∨ j = 5 ∨ j = 6 ∨ j = 7 ∨ j = 8 ∨ j = 9 ∨ j = 10 ∨ j = 11) with rfl | rfl | rfl | rfl | rfl | rfl | rfl | rfl | rfl | rfl | rfl | rfl
 iterate 11 (· ((try simp -implicitDefEqProofs [hC]); first | exact ⟨1, by omega, by omega, rfl⟩ | exact ⟨2, by omega, by omega, rfl⟩ | exact ⟨3, by omega, by omega, rfl⟩ | exact ⟨4, by omega, by omega, rfl⟩ | exact ⟨5, by omega, by omega, rfl⟩ | exact ⟨6, by omega, by omega, rfl⟩ | exact ⟨7, by omega, by omega, rfl⟩ | exact ⟨8, by omega, by omega, rfl⟩ | exact ⟨9, by omega, by omega, rfl⟩ | exact ⟨10, by omega, by omega, rfl⟩ | exact ⟨11, by omega, by omega, rfl⟩))
 ·((try simp at hops); (try simp -implicitDefEqProofs [hC]); repeat' first | (with_reducible apply callK_pure <;> first | (simp only [eras, era, eras_map]; first | with_reducible exact hops | simpa using hops) | (simp -implicitDefEqProofs [hC])))
theorem bare_neg (a : Xp) (ha : TxC a) (la : (txt (bare a)).length ≤ 10000000) : BaC (one 3 a) := by
 have h1 := ha 7
 have w1 : (txt (pcs a 7)).length ≤ (txt (bare a)).length + 2 := wrap_len (lvl a.kind) 7 (bare a)
 have hr : txt (bare (one 3 a)) = [45] ++ txt (pcs a 7) := by
  rw [show bare (one 3 a) = (3, [45]) :: pcs a 7 from rfl]; rfl
 have hla := len_c a
 have hta := take_c a
 unfold BaC
 rw [hr, Xp.v, c_one']
 have hops := w_poperators
 have hC := opA_is
 (refine Pure.of_code mix Tryz.call97 k_97 (by simp) (fun hB => ?_); (try simp at hB); (try simp -implicitDefEqProofs [qc_97]))
 ((try simp at hops); (try simp -implicitDefEqProofs); repeat' first | (with_reducible apply callK_pure <;> first | (simp only [eras, era, eras_map]; first | with_reducible exact hops | simpa using hops) | (simp -implicitDefEqProofs)))
 refine loop_rule (X := Nat) (fun j => j ≤ 11) (fun j => [(1, .ptr 0 0), (8, .agg (opA.map .t)), (9, vI j)]) (fun _ => ⟨[.cells [vI 3, vI 0, vI 0, vI 0, vS [], (.t (.sl [a.c]))]], []⟩) (fun j => 11 - j) 0 (by simp) (by simp) ?_
 rintro j hj hbd
 clear hbd
 rcases (by omega : j = 0 ∨ j = 1 ∨ j = 2 ∨ j = 3 ∨ j = 4 ∨ j = 5 ∨ j = 6 ∨ j = 7 ∨ j = 8 ∨ j = 9 ∨ j = 10 ∨ j = 11) with rfl | rfl | rfl | rfl | rfl | rfl | rfl | rfl | rfl | rfl | rfl | rfl
 iterate 11 (· ((try simp -implicitDefEqProofs [hC]); first | exact ⟨1, by omega, by omega, rfl⟩ | exact ⟨2, by omega, by omega, rfl⟩ | exact ⟨3, by omega, by omega, rfl⟩ | exact ⟨4, by omega, by omega, rfl⟩ | exact ⟨5, by omega, by omega, rfl⟩ | exact ⟨6, by omega, by omega, rfl⟩ | exact ⟨7, by omega, by omega, rfl⟩ | exact ⟨8, by omega, by omega, rfl⟩ | exact ⟨9, by omega, by omega, rfl⟩ | exact ⟨10, by omega, by omega, rfl⟩ | exact ⟨11, by omega, by omega, rfl⟩))
 ·((try simp at h1); (try simp -implicitDefEqProofs [hC, hla, hta]); repeat' first | (with_reducible apply callK_pure <;> first | (simp only [eras, era, eras_map]; first | with_reducible exact h1 | simpa using h1) | (simp -implicitDefEqProofs [hC, hla, hta])))
  repeat' (refine And.intro (by ((try simp only [List.length_append, List.length_cons, List.length_nil]); unfold maxLen; omega)) ?_; ((try simp at h1); (try simp -implicitDefEqProofs [hC, hla, hta]); repeat' first | (with_reducible apply callK_pure <;> first | (simp only [eras, era, eras_map]; first | with_reducible exact h1 | simpa using h1) | (simp -implicitDefEqProofs [hC, hla, hta]))))
  all_goals ((try simp only [List.length_append, List.length_cons, List.length_nil]); unfold maxLen; omega)
theorem bare_not (a : Xp) (ha : TxC a) (la : (txt (bare a)).length ≤ 10000000) : BaC (one 6 a) := by
 have h1 := ha 3
 have w1 : (txt (pcs a 3)).length ≤ (txt (bare a)).length + 2 := wrap_len (lvl a.kind) 3 (bare a)
 have hr : txt (bare (one 6 a)) = [110, 111, 116, 32] ++ txt (pcs a 3) := by
  rw [show bare (one 6 a) = (1, sNot) :: sp :: pcs a 3 from rfl]; rfl
 have hla := len_c a
 have hta := take_c a
 unfold BaC
 rw [hr, Xp.v, c_one']
 have hops := w_poperators
 have hC := opA_is
 (refine Pure.of_code mix Tryz.call97 k_97 (by simp) (fun hB => ?_); (try simp at hB); (try simp -implicitDefEqProofs [qc_97]))
 ((try simp at hops); (try simp -implicitDefEqProofs); repeat' first | (with_reducible apply callK_pure <;> first | (simp only [eras, era, eras_map]; first | with_reducible exact hops | simpa using hops) | (simp -implicitDefEqProofs)))
 refine loop_rule (X := Nat) (fun j => j ≤ 11) (fun j => [(1, .ptr 0 0), (8, .agg (opA.map .t)), (9, vI j)]) (fun _ => ⟨[.cells [vI 6, vI 0, vI 0, vI 0, vS [], (.t (.sl [a.c]))]], []⟩) (fun j => 11 - j) 0 (by simp) (by simp) ?_
 rintro j hj hbd
 clear hbd
 rcases (by omega : j = 0 ∨ j = 1 ∨ j = 2 ∨ j = 3 ∨ j = 4 ∨ j = 5 ∨ j = 6 ∨ j = 7 ∨ j = 8 ∨ j = 9 ∨ j = 10 ∨ j = 11) with rfl | rfl | rfl | rfl | rfl | rfl | rfl | rfl | rfl | rfl | rfl | rfl
 iterate 11 (· ((try simp -implicitDefEqProofs [hC]); first | exact ⟨1, by omega, by omega, rfl⟩ | exact ⟨2, by omega, by omega, rfl⟩ | exact ⟨3, by omega, by omega, rfl⟩ | exact ⟨4, by omega, by omega, rfl⟩ | exact ⟨5, by omega, by omega, rfl⟩ | exact ⟨6, by omega, by omega, rfl⟩ | exact ⟨7, by omega, by omega, rfl⟩ | exact ⟨8, by omega, by omega, rfl⟩ | exact ⟨9, by omega, by omega, rfl⟩ | exact ⟨10, by omega, by omega, rfl⟩ | exact ⟨11, by omega, by omega, rfl⟩))
 ·((try simp at h1); (try simp -implicitDefEqProofs [hC, hla, hta]); repeat' first | (with_reducible apply callK_pure <;> first | (simp only [eras, era, eras_map]; first | with_reducible exact h1 | simpa using h1) | (simp -implicitDefEqProofs [hC, hla, hta])))
  repeat' (refine And.intro (by ((try simp only [List.length_append, List.length_cons, List.length_nil]); unfold maxLen; omega)) ?_; ((try simp at h1); (try simp -implicitDefEqProofs [hC, hla, hta]); repeat' first | (with_reducible apply callK_pure <;> first | (simp only [eras, era, eras_map]; first | with_reducible exact h1 | simpa using h1) | (simp -implicitDefEqProofs [hC, hla, hta]))))
  all_goals ((try simp only [List.length_append, List.length_cons, List.length_nil]); unfold maxLen; omega)
theorem bare_per (v : Int) (h0 : 1 ≤ v) (h1 : v ≤ 1000000000000) (a : Xp) (ha : TxC a) (la : (txt (bare a)).length ≤ 10000000) : BaC (perX v a) := by
 have h2 := ha 6
 have w1 := wrap_len (lvl a.kind) 6 (bare a)
 have hi := w_itoa v (by omega) (by omega)
 have li := itoa_len (v := v) (by omega) h1
 have hr : txt (bare (perX v a)) = txt (pcs a 6) ++ ([32, 112, 101, 114, 32] ++ Lib.itoa v) := by
  rw [show bare (perX v a) = pcs a 6 ++ [sp, (1, sPer), sp, numP v] from rfl, txt_append, txt_cons, txt_cons, txt_cons, txt_one]; rfl
 have hla := len_c a
 have hta := take_c a
 unfold pcs at h2 hr
 generalize Lib.itoa v = I at *
 unfold BaC
 rw [hr, Xp.v, c_per']
 have hops := w_poperators
 have hC := opA_is
 (refine Pure.of_code mix Tryz.call97 k_97 (by simp) (fun hB => ?_); (try simp at hB); (try simp -implicitDefEqProofs [qc_97]))
 ((try simp at hops); (try simp -implicitDefEqProofs); repeat' first | (with_reducible apply callK_pure <;> first | (simp only [eras, era, eras_map]; first | with_reducible exact hops | simpa using hops) | (simp -implicitDefEqProofs)))
 refine loop_rule (X := Nat) (fun j => j ≤ 11) (fun j => [(1, .ptr 0 0), (8, .agg (opA.map .t)), (9, vI j)]) (fun _ => ⟨[.cells [vI 20, vI v, vI 0, vI 0, vS [], (.t (.sl [a.c]))]], []⟩) (fun j => 11 - j) 0 (by simp) (by simp) ?_
 rintro j hj hbd
 clear hbd
 rcases (by omega : j = 0 ∨ j = 1 ∨ j = 2 ∨ j = 3 ∨ j = 4 ∨ j = 5 ∨ j = 6 ∨ j = 7 ∨ j = 8 ∨ j = 9 ∨ j = 10 ∨ j = 11) with rfl | rfl | rfl | rfl | rfl | rfl | rfl | rfl | rfl | rfl | rfl | rfl
 iterate 11 (· ((try simp -implicitDefEqProofs [hC]); first | exact ⟨1, by omega, by omega, rfl⟩ | exact ⟨2, by omega, by omega, rfl⟩ | exact ⟨3, by omega, by omega, rfl⟩ | exact ⟨4, by omega, by omega, rfl⟩ | exact ⟨5, by omega, by omega, rfl⟩ | exact ⟨6, by omega, by omega, rfl⟩ | exact ⟨7, by omega, by omega, rfl⟩ | exact ⟨8, by omega, by omega, rfl⟩ | exact ⟨9, by omega, by omega, rfl⟩ | exact ⟨10, by omega, by omega, rfl⟩ | exact ⟨11, by omega, by omega, rfl⟩))
 ·((try simp at h2); (try simp at hi); (try simp -implicitDefEqProofs [hC, hla, hta]); repeat' first | (with_reducible apply callK_pure <;> first | (simp only [eras, era, eras_map]; first | with_reducible exact h2 | with_reducible exact hi | simpa using h2 | simpa using hi) | (simp -implicitDefEqProofs [hC, hla, hta])))
  repeat' (refine And.intro (by ((try simp only [List.length_append, List.length_cons, List.length_nil]); unfold maxLen; omega)) ?_; ((try simp at h2); (try simp at hi); (try simp -implicitDefEqProofs [hC, hla, hta]); repeat' first | (with_reducible apply callK_pure <;> first | (simp only [eras, era, eras_map]; first | with_reducible exact h2 | with_reducible exact hi | simpa using h2 | simpa using hi) | (simp -implicitDefEqProofs [hC, hla, hta]))))
  all_goals ((try simp only [List.length_append, List.length_cons, List.length_nil]); unfold maxLen; omega)
theorem bare_abs (a : Xp) (ha : TxC a) (la : (txt (bare a)).length ≤ 10000000) : BaC (one 4 a) := by
 have hb := w_bareS1 4 0 0 0 [] [a] [97, 98, 115] (txt (bare a)) (by simp) (by simp) (fun y hy => by rw [List.mem_singleton.1 hy]; exact ha) (w_join1 _) (by omega)
 have hr : txt (bare (one 4 a)) = [97, 98, 115] ++ [40] ++ txt (bare a) ++ [41] := by
  rw [bare_f1 (by decide), txt_cons, txt_cons, txt_append, txt_one]
  simp [lp, rp, sAbs, sShare]
 simp only [Xp.l, List.map] at hb
 unfold BaC
 rw [hr, Xp.v, c_one']
 have hops := w_poperators
 have hC := opA_is
 (refine Pure.of_code mix Tryz.call97 k_97 (by simp) (fun hB => ?_); (try simp at hB); (try simp -implicitDefEqProofs [qc_97]))
 ((try simp at hops); (try simp -implicitDefEqProofs); repeat' first | (with_reducible apply callK_pure <;> first | (simp only [eras, era, eras_map]; first | with_reducible exact hops | simpa using hops) | (simp -implicitDefEqProofs)))
 refine loop_rule (X := Nat) (fun j => j ≤ 11) (fun j => [(1, .ptr 0 0), (8, .agg (opA.map .t)), (9, vI j)]) (fun _ => ⟨[.cells [vI 4, vI 0, vI 0, vI 0, vS [], (.t (.sl [a.c]))]], []⟩) (fun j => 11 - j) 0 (by simp) (by simp) ?_
 rintro j hj hbd
 clear hbd
 rcases (by omega : j = 0 ∨ j = 1 ∨ j = 2 ∨ j = 3 ∨ j = 4 ∨ j = 5 ∨ j = 6 ∨ j = 7 ∨ j = 8 ∨ j = 9 ∨ j = 10 ∨ j = 11) with rfl | rfl | rfl | rfl | rfl | rfl | rfl | rfl | rfl | rfl | rfl | rfl
 iterate 11 (· ((try simp -implicitDefEqProofs [hC]); first | exact ⟨1, by omega, by omega, rfl⟩ | exact ⟨2, by omega, by omega, rfl⟩ | exact ⟨3, by omega, by omega, rfl⟩ | exact ⟨4, by omega, by omega, rfl⟩ | exact ⟨5, by omega, by omega, rfl⟩ | exact ⟨6, by omega, by omega, rfl⟩ | exact ⟨7, by omega, by omega, rfl⟩ | exact ⟨8, by omega, by omega, rfl⟩ | exact ⟨9, by omega, by omega, rfl⟩ | exact ⟨10, by omega, by omega, rfl⟩ | exact ⟨11, by omega, by omega, rfl⟩))
 ·((try simp at hops); (try simp -implicitDefEqProofs [hC]); repeat' first | (with_reducible apply callK_pure <;> first | (simp only [eras, era, eras_map]; first | with_reducible exact hops | simpa using hops) | (simp -implicitDefEqProofs [hC])))
  refine callKf hb ?_
  (try simp -implicitDefEqProofs)
theorem bare_share (a : Xp) (ha : TxC a) (la : (txt (bare a)).length ≤ 10000000) : BaC (one 5 a) := by
 have hb := w_bareS1 5 0 0 0 [] [a] [115, 104, 97, 114, 101] (txt (bare a)) (by simp) (by simp) (fun y hy => by rw [List.mem_singleton.1 hy]; exact ha) (w_join1 _) (by omega)
 have hr : txt (bare (one 5 a)) = [115, 104, 97, 114, 101] ++ [40] ++ txt (bare a) ++ [41] := by
  rw [bare_f1 (by decide), txt_cons, txt_cons, txt_append, txt_one]
  simp [lp, rp, sAbs, sShare]
 simp only [Xp.l, List.map] at hb
 unfold BaC
 rw [hr, Xp.v, c_one']
 have hops := w_poperators
 have hC := opA_is
 (refine Pure.of_code mix Tryz.call97 k_97 (by simp) (fun hB => ?_); (try simp at hB); (try simp -implicitDefEqProofs [qc_97]))
 ((try simp at hops); (try simp -implicitDefEqProofs); repeat' first | (with_reducible apply callK_pure <;> first | (simp only [eras, era, eras_map]; first | with_reducible exact hops | simpa using hops) | (simp -implicitDefEqProofs)))
 refine loop_rule (X := Nat) (fun j => j ≤ 11) (fun j => [(1, .ptr 0 0), (8, .agg (opA.map .t)), (9, vI j)]) (fun _ => ⟨[.cells [vI 5, vI 0, vI 0, vI 0, vS [], (.t (.sl [a.c]))]], []⟩) (fun j => 11 - j) 0 (by simp) (by simp) ?_
 rintro j hj hbd
 clear hbd
 rcases (by omega : j = 0 ∨ j = 1 ∨ j = 2 ∨ j = 3 ∨ j = 4 ∨ j = 5 ∨ j = 6 ∨ j = 7 ∨ j = 8 ∨ j = 9 ∨ j = 10 ∨ j = 11) with rfl | rfl | rfl | rfl | rfl | rfl | rfl | rfl | rfl | rfl | rfl | rfl
 iterate 11 (· ((try simp -implicitDefEqProofs [hC]); first | exact ⟨1, by omega, by omega, rfl⟩ | exact ⟨2, by omega, by omega, rfl⟩ | exact ⟨3, by omega, by omega, rfl⟩ | exact ⟨4, by omega, by omega, rfl⟩ | exact ⟨5, by omega, by omega, rfl⟩ | exact ⟨6, by omega, by omega, rfl⟩ | exact ⟨7, by omega, by omega, rfl⟩ | exact ⟨8, by omega, by omega, rfl⟩ | exact ⟨9, by omega, by omega, rfl⟩ | exact ⟨10, by omega, by omega, rfl⟩ | exact ⟨11, by omega, by omega, rfl⟩))
 ·((try simp at hops); (try simp -implicitDefEqProofs [hC]); repeat' first | (with_reducible apply callK_pure <;> first | (simp only [eras, era, eras_map]; first | with_reducible exact hops | simpa using hops) | (simp -implicitDefEqProofs [hC])))
  refine callKf hb ?_
  (try simp -implicitDefEqProofs)
theorem bare_min (hJ : JoinC) (a b : Xp) (ha : TxC a) (hb' : TxC b) (la : (txt (bare a)).length ≤ 1000000) (lb : (txt (bare b)).length ≤ 1000000) : BaC (two 10 a b) := by
 have hb := w_bareS1 10 0 0 0 [] [a, b] [109, 105, 110] (txt (bare a) ++ [44, 32] ++ txt (bare b)) (by simp) (by simp) (fun y hy => by
  rcases List.mem_cons.1 hy with rfl | hy
  ·exact ha
  ·rw [List.mem_singleton.1 hy]; exact hb') (hJ _ _ la lb) (by simp only [List.length_append, List.length_cons, List.length_nil]; omega)
 have hr : txt (bare (two 10 a b)) = [109, 105, 110] ++ [40] ++ (txt (bare a) ++ [44, 32] ++ txt (bare b)) ++ [41] := by
  rw [bare_f2 (by decide), txt_cons, txt_cons, txt_append, txt_cons, txt_cons, txt_append, txt_one]
  simp [lp, rp, sp, sMin, sMax]
 simp only [Xp.l, List.map] at hb
 unfold BaC
 rw [hr, Xp.v, c_two']
 have hops := w_poperators
 have hC := opA_is
 (refine Pure.of_code mix Tryz.call97 k_97 (by simp) (fun hB => ?_); (try simp at hB); (try simp -implicitDefEqProofs [qc_97]))
 ((try simp at hops); (try simp -implicitDefEqProofs); repeat' first | (with_reducible apply callK_pure <;> first | (simp only [eras, era, eras_map]; first | with_reducible exact hops | simpa using hops) | (simp -implicitDefEqProofs)))
 refine loop_rule (X := Nat) (fun j => j ≤ 11) (fun j => [(1, .ptr 0 0), (8, .agg (opA.map .t)), (9, vI j)]) (fun _ => ⟨[.cells [vI 10, vI 0, vI 0, vI 0, vS [], (.t (.sl [a.c, b.c]))]], []⟩) (fun j => 11 - j) 0 (by simp) (by simp) ?_
 rintro j hj hbd
 clear hbd
 rcases (by omega : j = 0 ∨ j = 1 ∨ j = 2 ∨ j = 3 ∨ j = 4 ∨ j = 5 ∨ j = 6 ∨ j = 7 ∨ j = 8 ∨ j = 9 ∨ j = 10 ∨ j = 11) with rfl | rfl | rfl | rfl | rfl | rfl | rfl | rfl | rfl | rfl | rfl | rfl
 iterate 11 (· ((try simp -implicitDefEqProofs [hC]); first | exact ⟨1, by omega, by omega, rfl⟩ | exact ⟨2, by omega, by omega, rfl⟩ | exact ⟨3, by omega, by omega, rfl⟩ | exact ⟨4, by omega, by omega, rfl⟩ | exact ⟨5, by omega, by omega, rfl⟩ | exact ⟨6, by omega, by omega, rfl⟩ | exact ⟨7, by omega, by omega, rfl⟩ | exact ⟨8, by omega, by omega, rfl⟩ | exact ⟨9, by omega, by omega, rfl⟩ | exact ⟨10, by omega, by omega, rfl⟩ | exact ⟨11, by omega, by omega, rfl⟩))
 ·((try simp at hops); (try simp -implicitDefEqProofs [hC]); repeat' first | (with_reducible apply callK_pure <;> first | (simp only [eras, era, eras_map]; first | with_reducible exact hops | simpa using hops) | (simp -implicitDefEqProofs [hC])))
  refine callKf hb ?_
  (try simp -implicitDefEqProofs)
theorem bare_max (hJ : JoinC) (a b : Xp) (ha : TxC a) (hb' : TxC b) (la : (txt (bare a)).length ≤ 1000000) (lb : (txt (bare b)).length ≤ 1000000) : BaC (two 11 a b) := by
 have hb := w_bareS1 11 0 0 0 [] [a, b] [109, 97, 120] (txt (bare a) ++ [44, 32] ++ txt (bare b)) (by simp) (by simp) (fun y hy => by
  rcases List.mem_cons.1 hy with rfl | hy
  ·exact ha
  ·rw [List.mem_singleton.1 hy]; exact hb') (hJ _ _ la lb) (by simp only [List.length_append, List.length_cons, List.length_nil]; omega)
 have hr : txt (bare (two 11 a b)) = [109, 97, 120] ++ [40] ++ (txt (bare a) ++ [44, 32] ++ txt (bare b)) ++ [41] := by
  rw [bare_f2 (by decide), txt_cons, txt_cons, txt_append, txt_cons, txt_cons, txt_append, txt_one]
  simp [lp, rp, sp, sMin, sMax]
 simp only [Xp.l, List.map] at hb
 unfold BaC
 rw [hr, Xp.v, c_two']
 have hops := w_poperators
 have hC := opA_is
 (refine Pure.of_code mix Tryz.call97 k_97 (by simp) (fun hB => ?_); (try simp at hB); (try simp -implicitDefEqProofs [qc_97]))
 ((try simp at hops); (try simp -implicitDefEqProofs); repeat' first | (with_reducible apply callK_pure <;> first | (simp only [eras, era, eras_map]; first | with_reducible exact hops | simpa using hops) | (simp -implicitDefEqProofs)))
 refine loop_rule (X := Nat) (fun j => j ≤ 11) (fun j => [(1, .ptr 0 0), (8, .agg (opA.map .t)), (9, vI j)]) (fun _ => ⟨[.cells [vI 11, vI 0, vI 0, vI 0, vS [], (.t (.sl [a.c, b.c]))]], []⟩) (fun j => 11 - j) 0 (by simp) (by simp) ?_
 rintro j hj hbd
 clear hbd
 rcases (by omega : j = 0 ∨ j = 1 ∨ j = 2 ∨ j = 3 ∨ j = 4 ∨ j = 5 ∨ j = 6 ∨ j = 7 ∨ j = 8 ∨ j = 9 ∨ j = 10 ∨ j = 11) with rfl | rfl | rfl | rfl | rfl | rfl | rfl | rfl | rfl | rfl | rfl | rfl
 iterate 11 (· ((try simp -implicitDefEqProofs [hC]); first | exact ⟨1, by omega, by omega, rfl⟩ | exact ⟨2, by omega, by omega, rfl⟩ | exact ⟨3, by omega, by omega, rfl⟩ | exact ⟨4, by omega, by omega, rfl⟩ | exact ⟨5, by omega, by omega, rfl⟩ | exact ⟨6, by omega, by omega, rfl⟩ | exact ⟨7, by omega, by omega, rfl⟩ | exact ⟨8, by omega, by omega, rfl⟩ | exact ⟨9, by omega, by omega, rfl⟩ | exact ⟨10, by omega, by omega, rfl⟩ | exact ⟨11, by omega, by omega, rfl⟩))
 ·((try simp at hops); (try simp -implicitDefEqProofs [hC]); repeat' first | (with_reducible apply callK_pure <;> first | (simp only [eras, era, eras_map]; first | with_reducible exact hops | simpa using hops) | (simp -implicitDefEqProofs [hC])))
  refine callKf hb ?_
  (try simp -implicitDefEqProofs)
theorem bare_bal (f t : Int) (hf : 1 ≤ f ∧ f ≤ 99999) (ht : 1 ≤ t ∧ t ≤ 99999) : BaC (.mk 21 0 f t [] []) := by
 have hb := w_bareS2 21 0 f t [] [] [98, 97, 108, 97, 110, 99, 101] (by simp) hf ht
 have hr : txt (bare (.mk 21 0 f t [] [])) = [98, 97, 108, 97, 110, 99, 101] ++ [40] ++ Lib.itoa f ++ [46, 46] ++ Lib.itoa t ++ [41] := by
  rw [show bare (.mk 21 0 f t [] []) = [(1, sBal), lp, numP f, (3, [46, 46]), numP t, rp] from rfl, txt_cons, txt_cons, txt_cons, txt_cons, txt_cons, txt_one]
  simp [lp, rp, numP, sBal, sPart]
 simp only [Xp.l, List.map] at hb
 unfold BaC
 rw [hr, Xp.v, Xp.c_mk]
 have hops := w_poperators
 have hC := opA_is
 (refine Pure.of_code mix Tryz.call97 k_97 (by simp) (fun hB => ?_); (try simp at hB); (try simp -implicitDefEqProofs [qc_97]))
 ((try simp at hops); (try simp -implicitDefEqProofs); repeat' first | (with_reducible apply callK_pure <;> first | (simp only [eras, era, eras_map]; first | with_reducible exact hops | simpa using hops) | (simp -implicitDefEqProofs)))
 refine loop_rule (X := Nat) (fun j => j ≤ 11) (fun j => [(1, .ptr 0 0), (8, .agg (opA.map .t)), (9, vI j)]) (fun _ => ⟨[.cells [vI 21, vI 0, vI f, vI t, vS [], (.t (.sl []))]], []⟩) (fun j => 11 - j) 0 (by simp) (by simp) ?_
 rintro j hj hbd
 clear hbd
 rcases (by omega : j = 0 ∨ j = 1 ∨ j = 2 ∨ j = 3 ∨ j = 4 ∨ j = 5 ∨ j = 6 ∨ j = 7 ∨ j = 8 ∨ j = 9 ∨ j = 10 ∨ j = 11) with rfl | rfl | rfl | rfl | rfl | rfl | rfl | rfl | rfl | rfl | rfl | rfl
 iterate 11 (· ((try simp -implicitDefEqProofs [hC]); first | exact ⟨1, by omega, by omega, rfl⟩ | exact ⟨2, by omega, by omega, rfl⟩ | exact ⟨3, by omega, by omega, rfl⟩ | exact ⟨4, by omega, by omega, rfl⟩ | exact ⟨5, by omega, by omega, rfl⟩ | exact ⟨6, by omega, by omega, rfl⟩ | exact ⟨7, by omega, by omega, rfl⟩ | exact ⟨8, by omega, by omega, rfl⟩ | exact ⟨9, by omega, by omega, rfl⟩ | exact ⟨10, by omega, by omega, rfl⟩ | exact ⟨11, by omega, by omega, rfl⟩))
 ·((try simp at hops); (try simp -implicitDefEqProofs [hC]); repeat' first | (with_reducible apply callK_pure <;> first | (simp only [eras, era, eras_map]; first | with_reducible exact hops | simpa using hops) | (simp -implicitDefEqProofs [hC])))
  refine callKf hb ?_
  (try simp -implicitDefEqProofs)
theorem bare_part (f t : Int) (hf : 1 ≤ f ∧ f ≤ 99999) (ht : 1 ≤ t ∧ t ≤ 99999) : BaC (.mk 22 0 f t [] []) := by
 have hb := w_bareS2 22 0 f t [] [] [112, 97, 114, 116, 110, 101, 114] (by simp) hf ht
 have hr : txt (bare (.mk 22 0 f t [] [])) = [112, 97, 114, 116, 110, 101, 114] ++ [40] ++ Lib.itoa f ++ [46, 46] ++ Lib.itoa t ++ [41] := by
  rw [show bare (.mk 22 0 f t [] []) = [(1, sPart), lp, numP f, (3, [46, 46]), numP t, rp] from rfl, txt_cons, txt_cons, txt_cons, txt_cons, txt_cons, txt_one]
  simp [lp, rp, numP, sBal, sPart]
 simp only [Xp.l, List.map] at hb
 unfold BaC
 rw [hr, Xp.v, Xp.c_mk]
 have hops := w_poperators
 have hC := opA_is
 (refine Pure.of_code mix Tryz.call97 k_97 (by simp) (fun hB => ?_); (try simp at hB); (try simp -implicitDefEqProofs [qc_97]))
 ((try simp at hops); (try simp -implicitDefEqProofs); repeat' first | (with_reducible apply callK_pure <;> first | (simp only [eras, era, eras_map]; first | with_reducible exact hops | simpa using hops) | (simp -implicitDefEqProofs)))
 refine loop_rule (X := Nat) (fun j => j ≤ 11) (fun j => [(1, .ptr 0 0), (8, .agg (opA.map .t)), (9, vI j)]) (fun _ => ⟨[.cells [vI 22, vI 0, vI f, vI t, vS [], (.t (.sl []))]], []⟩) (fun j => 11 - j) 0 (by simp) (by simp) ?_
 rintro j hj hbd
 clear hbd
 rcases (by omega : j = 0 ∨ j = 1 ∨ j = 2 ∨ j = 3 ∨ j = 4 ∨ j = 5 ∨ j = 6 ∨ j = 7 ∨ j = 8 ∨ j = 9 ∨ j = 10 ∨ j = 11) with rfl | rfl | rfl | rfl | rfl | rfl | rfl | rfl | rfl | rfl | rfl | rfl
 iterate 11 (· ((try simp -implicitDefEqProofs [hC]); first | exact ⟨1, by omega, by omega, rfl⟩ | exact ⟨2, by omega, by omega, rfl⟩ | exact ⟨3, by omega, by omega, rfl⟩ | exact ⟨4, by omega, by omega, rfl⟩ | exact ⟨5, by omega, by omega, rfl⟩ | exact ⟨6, by omega, by omega, rfl⟩ | exact ⟨7, by omega, by omega, rfl⟩ | exact ⟨8, by omega, by omega, rfl⟩ | exact ⟨9, by omega, by omega, rfl⟩ | exact ⟨10, by omega, by omega, rfl⟩ | exact ⟨11, by omega, by omega, rfl⟩))
 ·((try simp at hops); (try simp -implicitDefEqProofs [hC]); repeat' first | (with_reducible apply callK_pure <;> first | (simp only [eras, era, eras_map]; first | with_reducible exact hops | simpa using hops) | (simp -implicitDefEqProofs [hC])))
  refine callKf hb ?_
  (try simp -implicitDefEqProofs)
theorem w_bare {x : Xp} (hx : Px x) : JoinOK x → x.cnt ≤ 10000 → BaC x := by
 induction hx with
 | num v h0 h1 => exact fun _ _ => bare_num v h0 h1
 | var n h => exact fun _ _ => bare_var n
 | neg a h ih =>
  intro hJ hc
  rw [cnt_one] at hc
  have hl := txt_len h
  exact bare_neg a (w_text_of (ih (hJ.arg (by simp)) (by omega)) (by omega)) (by omega)
 | not a h ih =>
  intro hJ hc
  rw [cnt_one] at hc
  have hl := txt_len h
  exact bare_not a (w_text_of (ih (hJ.arg (by simp)) (by omega)) (by omega)) (by omega)
 | f1 k hk a h ih =>
  intro hJ hc
  rw [cnt_one] at hc
  have hl := txt_len h
  have ht := w_text_of (ih (hJ.arg (by simp)) (by omega)) (by omega)
  rcases hk with rfl | rfl
  ·exact bare_abs a ht (by omega)
  ·exact bare_share a ht (by omega)
 | f2 k hk a b h h' ih ih' =>
  intro hJ hc
  rw [cnt_two] at hc
  have hl := txt_len h
  have hl' := txt_len h'
  have ht := w_text_of (ih (hJ.arg (by simp)) (by omega)) (by omega)
  have ht' := w_text_of (ih' (hJ.arg (by simp)) (by omega)) (by omega)
  rcases hk with rfl | rfl
  ·exact bare_min (hJ.mm (.inl rfl)) a b ht ht' (by omega) (by omega)
  ·exact bare_max (hJ.mm (.inr rfl)) a b ht ht' (by omega) (by omega)
 | bal k hk f t hf ht =>
  intro hJ hc
  rcases hk with rfl | rfl
  ·exact bare_bal f t hf ht
  ·exact bare_part f t hf ht
 | per v h0 h1 a h ih =>
  intro hJ hc
  rw [cnt_per] at hc
  have hl := txt_len h
  exact bare_per v h0 h1 a (w_text_of (ih (hJ.arg (by simp)) (by omega)) (by omega)) (by omega)
 | bin k hk a b h h' ih ih' =>
  intro hJ hc
  rw [cnt_two] at hc
  have hl := txt_len h
  have hl' := txt_len h'
  have ht := w_text_of (ih (hJ.arg (by simp)) (by omega)) (by omega)
  have ht' := w_text_of (ih' (hJ.arg (by simp)) (by omega)) (by omega)
  obtain ⟨_, _, _, _, ho⟩ := opJ_ex hk
  exact bare_op ho a b ht ht' (by omega) (by omega)
theorem w_txt {x : Xp} (hx : Px x) (hJ : JoinOK x) (hc : x.cnt ≤ 10000) : TxC x := w_text_of (w_bare hx hJ hc) (by have := txt_len hx; omega)
end Go.Proofs.YtpggidmbnjfmaaaGreatDoor
