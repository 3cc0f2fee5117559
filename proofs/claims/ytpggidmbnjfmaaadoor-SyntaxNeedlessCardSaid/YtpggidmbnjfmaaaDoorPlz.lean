/- Chapter 32: a printed program is divided into the tokens that were put together, and is read as the program. -/
import Derived.Test.YtpggidmbnjfmaaaDoorPpm
section
set_option linter.unusedSimpArgs false
set_option linter.unusedVariables false
set_option maxHeartbeats 1000000
namespace Go.Proofs.YtpggidmbnjfmaaaDoor
open E

def Pr (j : Job) (ts : List Tok) (res : Rd Xp) : Prop := ∃ n, par n j ts = some res
def stp (l : Nat) (s : List UInt8) : Prop := (∀ k, l ≤ k → opT k s = none) ∧ (l ≤ 6 → s ≠ sPer)
theorem stp.mono {l l' : Nat} {s : List UInt8} (h : stp l s) (hl : l ≤ l') : stp l' s := ⟨fun k hk => h.1 k (by omega), fun h6 => h.2 (by omega)⟩
theorem stp7 (s : List UInt8) : stp 7 s := ⟨fun k hk => by
 unfold opT
 split <;> first | omega | rfl, fun h => by omega⟩
theorem bndO_par {n m : Nat} {j : Job} {ts : List Tok} {x : Xp} {r : List Tok} (h : par n j ts = some (.ok x r)) {g : Nat → Xp → List Tok → Option (Rd Xp)} {res : Rd Xp} (h2 : g m x r = some res) (hm : ∀ a b, a ≤ b → g a x r = some res → g b x r = some res) :
  bndO (par (max n m) j ts) (g (max n m)) = some res := by
 rw [par_more h (Nat.le_max_left n m)]
 exact hm _ _ (Nat.le_max_right n m) h2
theorem Pr.lev0 {ts : List Tok} {res : Rd Xp} (h : Pr (.lev 1) ts res) : Pr (.lev 0) ts res := by
 obtain ⟨n, h⟩ := h
 obtain _ | n := n
 ·cases h
 refine ⟨n + 1, ?_⟩
 rw [par, if_pos (by omega)] at h ⊢
 exact h
theorem lev_bin {k : Nat} (hk : k = 1 ∨ k = 2 ∨ k = 5 ∨ k = 6) (n : Nat) (ts : List Tok) : par (n + 1) (.lev k) ts = bndO (par n (.lev (k + 1)) ts) fun x r => par n (.lp k x) r := by
 rw [par]
 rcases hk with rfl | hk
 ·rw [if_pos (by omega)]
 ·rw [if_neg (by omega), if_pos hk]
theorem Pr.bin {k : Nat} (hk : k = 1 ∨ k = 2 ∨ k = 5 ∨ k = 6) {ts : List Tok} {x : Xp} {r : List Tok} {res : Rd Xp} (h1 : Pr (.lev (k + 1)) ts (.ok x r)) (h2 : Pr (.lp k x) r res) : Pr (.lev k) ts res := by
 obtain ⟨n, h1⟩ := h1
 obtain ⟨m, h2⟩ := h2
 refine ⟨max n m + 1, ?_⟩
 rw [lev_bin hk]
 exact bndO_par h1 (g := fun n x r => par n (.lp k x) r) h2 (fun a b hab h => par_more h hab)
theorem Pr.lpStop {k : Nat} {x : Xp} {ts : List Tok} (h : stp k (hdT ts)) : Pr (.lp k x) ts (.ok x ts) := by
 refine ⟨1, ?_⟩
 rw [par, if_neg (by rintro ⟨rfl, q⟩; exact h.2 (by omega) q), h.1 k (Nat.le_refl _)]
theorem Pr.lpOp {k : Nat} {x : Xp} {t : Tok} {ts : List Tok} {o : Int} {y : Xp} {r : List Tok} {res : Rd Xp} (ho : opT k t.text = some o) (hp : t.text ≠ sPer) (h1 : Pr (.lev (k + 1)) ts (.ok y r)) (h2 : Pr (.lp k (two o x y)) r res) : Pr (.lp k x) (t :: ts) res := by
 obtain ⟨n, h1⟩ := h1
 obtain ⟨m, h2⟩ := h2
 refine ⟨max n m + 1, ?_⟩
 rw [par, if_neg (by rintro ⟨rfl, q⟩; exact hp q)]
 have : opT k (hdT (t :: ts)) = some o := ho
 rw [this]
 exact bndO_par h1 (g := fun n y r => par n (.lp k (two o x y)) r) h2 (fun a b hab h => par_more h hab)
theorem Pr.lpPer {x : Xp} {t u : Tok} {ts : List Tok} {v : Int} {res : Rd Xp} (ht : t.text = sPer) (hn : numT 1 1000000000000 (u :: ts) = .ok v ts) (h2 : Pr (.lp 6 (perX v x)) ts res) : Pr (.lp 6 x) (t :: u :: ts) res := by
 obtain ⟨m, h2⟩ := h2
 refine ⟨m + 1, ?_⟩
 rw [par, if_pos ⟨rfl, ht⟩, List.tail_cons, hn]
 exact h2
theorem Pr.climb' {ts : List Tok} {x : Xp} {r : List Tok} {L l : Nat} (h : Pr (.lev L) ts (.ok x r)) (hl : l ≤ L) (hL : L ≤ 8) (hs : stp l (hdT r)) (h4 : hdT ts ≠ sNot ∨ L ≤ 3) (h8 : hdT ts ≠ [45] ∨ L ≤ 7) : Pr (.lev l) ts (.ok x r) := by
 obtain ⟨d, rfl⟩ : ∃ d, L = l + d := ⟨L - l, by omega⟩
 clear hl
 induction d generalizing l with
 | zero => exact h
 | succ d ih =>
  have ih := ih (l := l + 1) (hs.mono (by omega)) (by rw [show l + 1 + d = l + (d + 1) by omega]; exact h) (by omega) (h4.imp_right fun q => by omega) (h8.imp_right fun q => by omega)
  rcases (by omega : l = 0 ∨ (l = 1 ∨ l = 2 ∨ l = 5 ∨ l = 6) ∨ l = 3 ∨ l = 4 ∨ l = 7) with rfl | hl | rfl | rfl | rfl
  ·exact ih.lev0
  ·exact Pr.bin hl ih (Pr.lpStop hs)
  ·obtain ⟨n, ih⟩ := ih
   refine ⟨n + 1, ?_⟩
   rw [par, if_neg (by omega), if_neg (by omega), if_pos rfl, if_neg (h4.resolve_right (by omega))]
   exact ih
  ·obtain ⟨n, ih⟩ := ih
   refine ⟨n + 1, ?_⟩
   rw [par, if_neg (by omega), if_neg (by omega), if_neg (by omega), if_pos rfl]
   rw [show par n (.lev 5) ts = _ from ih]
   simp only [bndO, hs.1 4 (Nat.le_refl _)]
  ·obtain ⟨n, ih⟩ := ih
   refine ⟨n + 1, ?_⟩
   have h8 := h8.resolve_right (by omega)
   obtain _ | n := n
   ·cases ih
   rw [par, if_neg (by omega), if_neg (by omega), if_neg (by omega), if_neg (by omega), if_neg (by omega)] at ih
   rw [par, if_neg (by omega), if_neg (by omega), if_neg (by omega), if_neg (by omega), if_neg (fun q => h8 q.2)]
   exact par_mono n _ _ _ ih
theorem Pr.prm8 {ts : List Tok} {res : Rd Xp} (h : Pr .prm ts res) : Pr (.lev 8) ts res := by
 obtain ⟨n, h⟩ := h
 refine ⟨n + 1, ?_⟩
 rw [par, if_neg (by omega), if_neg (by omega), if_neg (by omega), if_neg (by omega), if_neg (by omega)]
 exact h

theorem runR_full {p : Int → Bool} : ∀ {s : List UInt8}, (∀ c ∈ s, p (c.toNat : Int) = true) → runR p s = s.length
 | [], _ => rfl
 | c :: s, h => by
  rw [runR, if_pos (h c (by simp)), runR_full (fun d hd => h d (by simp [hd])), List.length_cons]; omega
theorem dig_toNat {d : Nat} (h : d < 10) : (UInt8.ofNat (48 + d)).toNat = 48 + d := by
 rw [UInt8.toNat_ofNat']; omega
theorem dec_dig : ∀ (m n : Nat), n ≤ m → ∀ c ∈ Lib.decDigits n, 48 ≤ c.toNat ∧ c.toNat ≤ 57
 | 0, n, hm, c, hc => by
  rw [dec_small (by omega)] at hc
  have := List.mem_singleton.1 hc
  subst this
  rw [dig_toNat (by omega)]; omega
 | m + 1, n, hm, c, hc => by
  by_cases h : n < 10
  ·rw [dec_small h] at hc
   have := List.mem_singleton.1 hc
   subst this
   rw [dig_toNat h]; omega
  ·rw [dec_big h] at hc
   rcases List.mem_append.1 hc with hc | hc
   ·exact dec_dig m (n / 10) (by omega) c hc
   ·have := List.mem_singleton.1 hc
    subst this
    rw [dig_toNat (by omega)]; omega
theorem dec_nonempty (n : Nat) : Lib.decDigits n ≠ [] := by
 by_cases h : n < 10
 ·rw [dec_small h]; simp
 ·rw [dec_big h]; simp
theorem numR_append : ∀ (s t : List UInt8) (a : Nat), numR a (s ++ t) = (numR a s).bind fun m => numR m t
 | [], t, a => rfl
 | c :: s, t, a => by
  rw [List.cons_append, numR, numR]
  split
  ·rfl
  ·exact numR_append s t _
theorem numR_dec : ∀ (m n : Nat), n ≤ m → n ≤ 1000000000000 → numR 0 (Lib.decDigits n) = some n
 | 0, n, hm, h => by
  rw [dec_small (by omega), numR, dig_toNat (by omega), if_neg (by omega), numR]; simp
 | m + 1, n, hm, h => by
  by_cases hs : n < 10
  ·rw [dec_small hs, numR, dig_toNat hs, if_neg (by omega), numR]; simp
  ·rw [dec_big hs, numR_append, numR_dec m (n / 10) (by omega) (by omega), Option.bind_some, numR, dig_toNat (by omega), if_neg (by omega), numR]
   congr 1; omega
theorem itoa_dig {v : Int} (h : 0 ≤ v) : ∀ c ∈ Lib.itoa v, 48 ≤ c.toNat ∧ c.toNat ≤ 57 := by rw [itoa_nat h]; exact dec_dig _ _ (Nat.le_refl _)
theorem itoa_ne (v : Int) : Lib.itoa v ≠ [] := by
 unfold Lib.itoa
 split
 ·simp
 ·exact dec_nonempty _
theorem itoa_run {v : Int} (h : 0 ≤ v) : runR digI (Lib.itoa v) = (Lib.itoa v).length := runR_full fun c hc => by
 obtain ⟨a, b⟩ := itoa_dig h c hc
 unfold digI
 simp only [Bool.and_eq_true, decide_eq_true_eq]
 exact ⟨by omega, by omega⟩
theorem valR_itoa {v : Int} (h0 : 0 ≤ v) (h1 : v ≤ 1000000000000) : valR 2 (Lib.itoa v) = (v, true) := by
 unfold valR
 rw [if_pos ⟨rfl, itoa_ne v, itoa_run h0⟩, itoa_nat h0, numR_dec _ _ (Nat.le_refl _) (by omega)]
 simp only []
 congr 1; omega
theorem itoa_head {v : Int} (h : 0 ≤ v) : digI (headI (Lib.itoa v)) = true := by
 have h1 := itoa_ne v
 have h2 := itoa_dig h
 cases hs : Lib.itoa v with
 | nil => exact absurd hs h1
 | cons c s =>
  rw [hs] at h2
  obtain ⟨a, b⟩ := h2 c (by simp)
  show digI (c.toNat : Int) = true
  unfold digI
  simp only [Bool.and_eq_true, decide_eq_true_eq]; exact ⟨by omega, by omega⟩
theorem dig_ne {s z : List UInt8} (h : digI (headI s) = true) (hz : digI (headI z) = false) : s ≠ z := by rintro rfl; rw [h] at hz; cases hz
theorem nameB_ltr {n : List UInt8} (h : nameB n = true) : ltrI (headI n) = true := by
 unfold nameB nfB at h
 simp only [Bool.and_eq_true] at h
 exact h.1.1.2
theorem ltr_ne {s z : List UInt8} (h : ltrI (headI s) = true) (hz : ltrI (headI z) = false) : s ≠ z := by rintro rfl; rw [h] at hz; cases hz
theorem nameB_kw {n : List UInt8} (h : nameB n = true) : kwB n = false := by
 unfold nameB at h
 simp only [Bool.and_eq_true, Bool.not_eq_true'] at h
 exact h.2
theorem kw_ne {s z : List UInt8} (h : kwB s = false) (hz : kwB z = true) : s ≠ z := by rintro rfl; rw [h] at hz; cases hz

abbrev tkM (k : Int) (s : List UInt8) : Tok := ⟨k, s, 0⟩
theorem want_tk (s : List UInt8) (k : Int) (r : List Tok) : wantT s (tkM k s :: r) = .ok () r := if_pos rfl
theorem prm_par {r0 r : List Tok} {x : Xp} (h : Pr (.lev 0) r0 (.ok x (tkM 3 [41] :: r))) : Pr .prm (tkM 3 [40] :: r0) (.ok x r) := by
 obtain ⟨n, h⟩ := h
 refine ⟨n + 1, ?_⟩
 rw [par, if_neg (by simp), if_pos (show hdT (tkM 3 [40] :: r0) = [40] from rfl), List.tail_cons, h]
 simp only [bndO, want_tk, Rd.bnd]
theorem prm_f1 {k : Int} (hk : k = 4 ∨ k = 5) {r0 r : List Tok} {x : Xp} (h : Pr (.lev 0) r0 (.ok x (tkM 3 [41] :: r))) : Pr .prm (tkM 1 (if k = 5 then sShare else sAbs) :: tkM 3 [40] :: r0) (.ok (one k x) r) := by
 obtain ⟨n, h⟩ := h
 refine ⟨n + 1, ?_⟩
 rcases hk with rfl | rfl
 ·rw [if_neg (by decide), par, if_neg (by simp), if_neg (by show ¬ sAbs = [40]; decide), if_neg (by show ¬ (sAbs = sMin ∨ sAbs = sMax); decide), if_pos (by show sAbs = sAbs ∨ _; exact .inl rfl), List.tail_cons]
  simp only [want_tk, bndO]
  rw [h]
  simp only [bndO, want_tk, Rd.bnd]
  rw [if_neg (by show ¬ sAbs = sShare; decide)]
 ·rw [if_pos rfl, par, if_neg (by simp), if_neg (by show ¬ sShare = [40]; decide), if_neg (by show ¬ (sShare = sMin ∨ sShare = sMax); decide), if_pos (by show sShare = sAbs ∨ sShare = sShare; exact .inr rfl), List.tail_cons]
  simp only [want_tk, bndO]
  rw [h]
  simp only [bndO, want_tk, Rd.bnd]
  rw [if_pos (by show sShare = sShare; rfl)]
theorem prm_f2 {k : Int} (hk : k = 10 ∨ k = 11) {r0 r1 r : List Tok} {x y : Xp} (h : Pr (.lev 0) r0 (.ok x (tkM 3 [44] :: r1))) (h' : Pr (.lev 0) r1 (.ok y (tkM 3 [41] :: r))) : Pr .prm (tkM 1 (if k = 11 then sMax else sMin) :: tkM 3 [40] :: r0) (.ok (two k x y) r) := by
 obtain ⟨n, h⟩ := h
 obtain ⟨m, h'⟩ := h'
 have h := par_more h (Nat.le_max_left n m)
 have h' := par_more h' (Nat.le_max_right n m)
 refine ⟨max n m + 1, ?_⟩
 rcases hk with rfl | rfl
 ·rw [if_neg (by decide), par, if_neg (by simp), if_neg (by show ¬ sMin = [40]; decide), if_pos (by show sMin = sMin ∨ _; exact .inl rfl), List.tail_cons]
  simp only [want_tk, bndO]
  rw [h]
  simp only [bndO, want_tk, Rd.bnd]
  rw [h']
  simp only [bndO, want_tk, Rd.bnd]
  rw [if_neg (by show ¬ sMin = sMax; decide)]
 ·rw [if_pos rfl, par, if_neg (by simp), if_neg (by show ¬ sMax = [40]; decide), if_pos (by show sMax = sMin ∨ sMax = sMax; exact .inr rfl), List.tail_cons]
  simp only [want_tk, bndO]
  rw [h]
  simp only [bndO, want_tk, Rd.bnd]
  rw [h']
  simp only [bndO, want_tk, Rd.bnd]
  rw [if_pos (by show sMax = sMax; rfl)]
theorem num_tk {a b v : Int} (h0 : 0 ≤ v) (h1 : v ≤ 1000000000000) (ha : a ≤ v) (hb : v ≤ b) (r : List Tok) : numT a b (tkM 2 (Lib.itoa v) :: r) = .ok v r := by
 rw [numT]
 simp only [valR_itoa h0 h1]
 rw [if_pos ⟨trivial, ha, hb⟩]
theorem prm_bal {k : Int} (hk : k = 21 ∨ k = 22) {f t : Int} (hf : 1 ≤ f ∧ f ≤ 99999) (ht : 1 ≤ t ∧ t ≤ 99999) (r : List Tok) :
  Pr .prm (tkM 1 (if k = 22 then sPart else sBal) :: tkM 3 [40] :: tkM 2 (Lib.itoa f) :: tkM 3 [46, 46] :: tkM 2 (Lib.itoa t) :: tkM 3 [41] :: r) (.ok (.mk k 0 f t [] []) r) := by
 refine ⟨1, ?_⟩
 have n1 := fun r => num_tk (a := 1) (b := 99999) (v := f) (by omega) (by omega) hf.1 hf.2 r
 have n2 := fun r => num_tk (a := 1) (b := 99999) (v := t) (by omega) (by omega) ht.1 ht.2 r
 rcases hk with rfl | rfl
 ·rw [if_neg (by decide), par, if_neg (by simp), if_neg (by show ¬ sBal = [40]; decide), if_neg (by show ¬ (sBal = sMin ∨ sBal = sMax); decide), if_neg (by show ¬ (sBal = sAbs ∨ sBal = sShare); decide), if_pos (by show sBal = sBal ∨ _; exact .inl rfl), List.tail_cons]
  simp only [want_tk, Rd.bnd, accT, n1, n2]
  rw [if_neg (by show ¬ sBal = sPart; decide)]
 ·rw [if_pos rfl, par, if_neg (by simp), if_neg (by show ¬ sPart = [40]; decide), if_neg (by show ¬ (sPart = sMin ∨ sPart = sMax); decide), if_neg (by show ¬ (sPart = sAbs ∨ sPart = sShare); decide), if_pos (by show sPart = sBal ∨ sPart = sPart; exact .inr rfl), List.tail_cons]
  simp only [want_tk, Rd.bnd, accT, n1, n2]
  rw [if_pos (by show sPart = sPart; rfl)]
theorem prm_num {v : Int} (h0 : 0 ≤ v) (h1 : v ≤ 1000000000000) (r : List Tok) : Pr .prm (tkM 2 (Lib.itoa v) :: r) (.ok (.mk 1 v 0 0 [] []) r) := by
 refine ⟨1, ?_⟩
 have hd := itoa_head h0
 have ne : ∀ z, digI (headI z) = false → ¬ hdT (tkM 2 (Lib.itoa v) :: r) = z := fun z hz => dig_ne hd hz
 rw [par, if_neg (by simp), if_neg (ne _ (by decide)), if_neg (not_or.2 ⟨ne _ (by decide), ne _ (by decide)⟩), if_neg (not_or.2 ⟨ne _ (by decide), ne _ (by decide)⟩), if_neg (not_or.2 ⟨ne _ (by decide), ne _ (by decide)⟩), if_pos (show kdT (tkM 2 (Lib.itoa v) :: r) = 2 from rfl),
  num_tk h0 h1 h0 h1]
 rfl
theorem name_tk {n : List UInt8} (h : nameB n = true) (r : List Tok) : nameT (tkM 1 n :: r) = .ok n r := by rw [nameT, if_pos ⟨rfl, nameB_kw h⟩]
theorem prm_var {n : List UInt8} (h : nameB n = true) (r : List Tok) : Pr .prm (tkM 1 n :: r) (.ok (.mk 2 0 0 0 n []) r) := by
 refine ⟨1, ?_⟩
 have hd := nameB_ltr h
 have hk := nameB_kw h
 have ne : ∀ z, kwB z = true → ¬ hdT (tkM 1 n :: r) = z := fun z hz => kw_ne hk hz
 rw [par, if_neg (by simp), if_neg (show ¬ hdT (tkM 1 n :: r) = [40] from ltr_ne hd (by decide)), if_neg (not_or.2 ⟨ne _ (by decide), ne _ (by decide)⟩), if_neg (not_or.2 ⟨ne _ (by decide), ne _ (by decide)⟩), if_neg (not_or.2 ⟨ne _ (by decide), ne _ (by decide)⟩), if_neg (show ¬ kdT (tkM 1 n :: r) = 2 by show ¬ (1 : Int) = 2; decide), name_tk h]
 rfl

theorem stp_mark {s : List UInt8} (h : s = [41] ∨ s = [44] ∨ s = [59]) (l : Nat) : stp l s := by
 refine ⟨fun k _ => ?_, fun _ => ?_⟩
 ·rcases h with rfl | rfl | rfl <;> (unfold opT; split <;> first | rfl | decide)
 ·rcases h with rfl | rfl | rfl <;> decide
theorem opT_of {k : Int} (h : k = 7 ∨ k = 8 ∨ k = 9 ∨ (12 ≤ k ∧ k ≤ 19)) : opT (lvl k) (opX k) = some k ∧ opX k ≠ sPer ∧ ∀ j, j ≠ lvl k → opT j (opX k) = none := by
 rcases (by omega : k = 7 ∨ k = 8 ∨ k = 9 ∨ k = 12 ∨ k = 13 ∨ k = 14 ∨ k = 15 ∨ k = 16 ∨ k = 17 ∨ k = 18 ∨ k = 19) with rfl | rfl | rfl | rfl | rfl | rfl | rfl | rfl | rfl | rfl | rfl <;>
  (refine ⟨by decide, by decide, fun j hj => ?_⟩; unfold opT; split <;> first | rfl | (exfalso; exact hj (by decide)) | decide)
def Qx (x : Xp) : Prop := ∀ l, l ≤ 8 → ∀ rest, stp l (hdT rest) → Pr (.lev l) (tk0 (pcs x l) ++ rest) (.ok x rest)
def Q0 (x : Xp) : Prop := ∀ l, l ≤ lvl x.kind → ∀ rest, stp l (hdT rest) → Pr (.lev l) (tk0 (bare x) ++ rest) (.ok x rest)
def Rx (x : Xp) : Prop := ∀ k, (k = 1 ∨ k = 2 ∨ k = 5 ∨ k = 6) → lvl x.kind = k → ∀ rest res, stp (k + 1) (hdT rest) → Pr (.lp k x) rest res → Pr (.lev k) (tk0 (bare x) ++ rest) res
def Hx (x : Xp) : Prop := 4 ≤ lvl x.kind → ∀ rest, hdT (tk0 (bare x) ++ rest) ≠ sNot
theorem Qx.of {x : Xp} (h : Q0 x) : Qx x := by
 intro l hl rest hs
 by_cases hw : lvl x.kind < l
 ·have e : tk0 (pcs x l) ++ rest = tkM 3 [40] :: (tk0 (bare x) ++ (tkM 3 [41] :: rest)) := by
   unfold pcs wrapP
   rw [if_pos hw, tk0_cons (by simp [lp]), tk0_append, tk0_cons (by simp [rp]), tk0_nil]
   simp [lp, rp]
  rw [e]
  have h1 := prm_par (h 0 (by omega) (tkM 3 [41] :: rest) (stp_mark (.inl rfl) 0))
  exact Pr.climb' h1.prm8 hl (Nat.le_refl 8) hs (.inl (by show ([40] : List UInt8) ≠ sNot; decide)) (.inl (by show ([40] : List UInt8) ≠ [45]; decide))
 ·have e : pcs x l = bare x := wrap_le (by omega)
  rw [e]
  exact h l (by omega) rest hs
theorem left_of {a : Xp} (hq : Qx a) (hr : Rx a) {k : Nat} (hk : k = 1 ∨ k = 2 ∨ k = 5 ∨ k = 6) {rest : List Tok} {res : Rd Xp} (hs : stp (k + 1) (hdT rest)) (h : Pr (.lp k a) rest res) : Pr (.lev k) (tk0 (pcs a k) ++ rest) res := by
 by_cases e : lvl a.kind = k
 ·rw [show pcs a k = bare a from wrap_le (by omega)]
  exact hr k hk e rest res hs h
 ·have : pcs a k = pcs a (k + 1) := by
   unfold pcs wrapP
   by_cases h1 : lvl a.kind < k
   ·rw [if_pos h1, if_pos (by omega)]
   ·rw [if_neg h1, if_neg (by omega)]
  rw [this]
  exact Pr.bin hk (hq (k + 1) (by omega) rest hs) h
theorem head_wrap {x : Xp} (hx : Hx x) {l : Nat} (hl : 4 ≤ l) (rest : List Tok) : hdT (tk0 (pcs x l) ++ rest) ≠ sNot := by
 unfold pcs wrapP
 split
 ·rw [tk0_cons (by simp [lp])]
  show ([40] : List UInt8) ≠ sNot
  decide
 ·exact hx (by omega) rest
theorem noR {x : Xp} (h : lvl x.kind = 3 ∨ lvl x.kind = 4 ∨ 7 ≤ lvl x.kind) : Rx x := fun k hk e => by omega
theorem prim_ok {x : Xp} (hl : lvl x.kind = 8) (h4 : ∀ rest, hdT (tk0 (bare x) ++ rest) ≠ sNot) (h8 : ∀ rest, hdT (tk0 (bare x) ++ rest) ≠ [45]) (h : ∀ rest, Pr .prm (tk0 (bare x) ++ rest) (.ok x rest)) : Qx x ∧ Rx x ∧ Hx x :=
 ⟨Qx.of fun l hl2 rest hs => Pr.climb' (h rest).prm8 (by omega) (Nat.le_refl 8) hs (.inl (h4 rest)) (.inl (h8 rest)), noR (by omega), fun _ => h4⟩
theorem px_ok : ∀ {x : Xp}, Px x → Qx x ∧ Rx x ∧ Hx x := by
 intro x hx
 induction hx with
 | num v h0 h1 =>
  have e : ∀ rest, tk0 (bare (.mk 1 v 0 0 [] [])) ++ rest = tkM 2 (Lib.itoa v) :: rest := fun _ => rfl
  refine prim_ok rfl (fun rest => ?_) (fun rest => ?_) (fun rest => ?_)
  ·rw [e]; exact dig_ne (itoa_head h0) (by decide)
  ·rw [e]; exact dig_ne (itoa_head h0) (by decide)
  ·rw [e]; exact prm_num h0 h1 rest
 | var n h =>
  have e : ∀ rest, tk0 (bare (.mk 2 0 0 0 n [])) ++ rest = tkM 1 n :: rest := fun _ => rfl
  refine prim_ok rfl (fun rest => ?_) (fun rest => ?_) (fun rest => ?_)
  ·rw [e]; exact kw_ne (nameB_kw h) (by decide)
  ·rw [e]; exact ltr_ne (nameB_ltr h) (by decide)
  ·rw [e]; exact prm_var h rest
 | bal k hk f t hf ht =>
  have e : ∀ rest, tk0 (bare (.mk k 0 f t [] [])) ++ rest = tkM 1 (if k = 22 then sPart else sBal) :: tkM 3 [40] :: tkM 2 (Lib.itoa f) :: tkM 3 [46, 46] :: tkM 2 (Lib.itoa t) :: tkM 3 [41] :: rest := fun rest => by rcases hk with rfl | rfl <;> rfl
  refine prim_ok (by rcases hk with rfl | rfl <;> rfl) (fun rest => ?_) (fun rest => ?_) (fun rest => ?_)
  ·rw [e]; rcases hk with rfl | rfl <;> (simp only [hdT]; decide)
  ·rw [e]; rcases hk with rfl | rfl <;> (simp only [hdT]; decide)
  ·rw [e]; exact prm_bal hk hf ht rest
 | f1 k hk a h ih =>
  have e : ∀ rest, tk0 (bare (one k a)) ++ rest = tkM 1 (if k = 5 then sShare else sAbs) :: tkM 3 [40] :: (tk0 (bare a) ++ tkM 3 [41] :: rest) := fun rest => by
   rw [bare_f1 hk, tk0_cons (by simp), tk0_cons (by simp [lp]), tk0_append, tk0_cons (by simp [rp]), tk0_nil]; simp [lp, rp]
  refine prim_ok (by rcases hk with rfl | rfl <;> rfl) (fun rest => ?_) (fun rest => ?_) (fun rest => ?_)
  ·rw [e]; rcases hk with rfl | rfl <;> (simp only [hdT]; decide)
  ·rw [e]; rcases hk with rfl | rfl <;> (simp only [hdT]; decide)
  ·rw [e]
   refine prm_f1 hk ?_
   rw [← pcs0 a]
   exact ih.1 0 (by omega) _ (stp_mark (.inl rfl) 0)
 | f2 k hk a b h h' ih ih' =>
  have e : ∀ rest, tk0 (bare (two k a b)) ++ rest = tkM 1 (if k = 11 then sMax else sMin) :: tkM 3 [40] :: (tk0 (bare a) ++ tkM 3 [44] :: (tk0 (bare b) ++ tkM 3 [41] :: rest)) := fun rest => by
   rw [bare_f2 hk, tk0_cons (by simp), tk0_cons (by simp [lp]), tk0_append, tk0_cons (by simp), tk0_sp, tk0_append, tk0_cons (by simp [rp]), tk0_nil]; simp [lp, rp]
  refine prim_ok (by rcases hk with rfl | rfl <;> rfl) (fun rest => ?_) (fun rest => ?_) (fun rest => ?_)
  ·rw [e]; rcases hk with rfl | rfl <;> (simp only [hdT]; decide)
  ·rw [e]; rcases hk with rfl | rfl <;> (simp only [hdT]; decide)
  ·rw [e]
   refine prm_f2 hk (r1 := tk0 (bare b) ++ tkM 3 [41] :: rest) ?_ ?_
   ·rw [← pcs0 a]
    exact ih.1 0 (by omega) _ (stp_mark (.inr (.inl rfl)) 0)
   ·rw [← pcs0 b]
    exact ih'.1 0 (by omega) _ (stp_mark (.inl rfl) 0)
 | neg a h ih =>
  have e : ∀ rest, tk0 (bare (one 3 a)) ++ rest = tkM 3 [45] :: (tk0 (pcs a 7) ++ rest) := fun rest => by
   have : bare (one 3 a) = (3, [45]) :: pcs a 7 := rfl
   rw [this, tk0_cons (by simp)]; rfl
  have e7 : ∀ rest, Pr (.lev 7) (tk0 (bare (one 3 a)) ++ rest) (.ok (one 3 a) rest) := fun rest => by
   rw [e]
   obtain ⟨n, hn⟩ := ih.1 7 (by omega) rest (stp7 _)
   refine ⟨n + 1, ?_⟩
   rw [par, if_neg (by omega), if_neg (by omega), if_neg (by omega), if_neg (by omega), if_pos ⟨rfl, rfl⟩, List.tail_cons, hn]
   rfl
  have e4 : ∀ rest, hdT (tk0 (bare (one 3 a)) ++ rest) ≠ sNot := fun rest => by rw [e]; show ([45] : List UInt8) ≠ sNot; decide
  refine ⟨Qx.of fun l hl rest hs => ?_, noR (.inr (.inr (Nat.le_refl 7))), fun _ => e4⟩
  exact Pr.climb' (e7 rest) hl (by decide) hs (.inl (e4 rest)) (.inr (by decide))
 | not a h ih =>
  have e : ∀ rest, tk0 (bare (one 6 a)) ++ rest = tkM 1 sNot :: (tk0 (pcs a 3) ++ rest) := fun rest => by
   have : bare (one 6 a) = (1, sNot) :: sp :: pcs a 3 := rfl
   rw [this, tk0_cons (by simp), tk0_sp]; rfl
  refine ⟨Qx.of fun l hl rest hs => ?_, noR (.inl rfl), fun q => absurd q (by show ¬ 4 ≤ lvl 6; decide)⟩
  have e3 : Pr (.lev 3) (tk0 (bare (one 6 a)) ++ rest) (.ok (one 6 a) rest) := by
   rw [e]
   obtain ⟨n, hn⟩ := ih.1 3 (by omega) rest (hs.mono hl)
   refine ⟨n + 1, ?_⟩
   rw [par, if_neg (by omega), if_neg (by omega), if_pos rfl, if_pos (show hdT (tkM 1 sNot :: _) = sNot from rfl), List.tail_cons, hn]
   rfl
  exact Pr.climb' e3 hl (by decide) hs (.inr (by decide)) (.inr (by decide))
 | per v h0 h1 a h ih =>
  obtain ⟨iq, ir, ihd⟩ := ih
  have e : ∀ rest, tk0 (bare (perX v a)) ++ rest = tk0 (pcs a 6) ++ (tkM 1 sPer :: tkM 2 (Lib.itoa v) :: rest) := fun rest => by
   have : bare (perX v a) = pcs a 6 ++ [sp, (1, sPer), sp, numP v] := rfl
   rw [this, tk0_append, tk0_sp, tk0_cons (by simp), tk0_sp, tk0_cons (by simp [numP]), tk0_nil]; simp [numP]
  have hr : Rx (perX v a) := by
   intro k hk hl rest res hs hp
   have : k = 6 := by rw [← hl]; rfl
   subst this
   rw [e]
   refine left_of iq ir hk (rest := tkM 1 sPer :: tkM 2 (Lib.itoa v) :: rest) (stp7 _) ?_
   exact Pr.lpPer rfl (num_tk (by omega) h1 h0 h1 rest) hp
  refine ⟨Qx.of fun l hl rest hs => ?_, hr, fun _ rest => by rw [e]; exact head_wrap ihd (by decide) _⟩
  have hs6 := hs.mono hl
  have e6 := hr 6 (.inr (.inr (.inr rfl))) rfl rest (.ok (perX v a) rest) (stp7 _) (Pr.lpStop hs6)
  exact Pr.climb' e6 hl (by decide) hs (.inl (by rw [e]; exact head_wrap ihd (by decide) _)) (.inr (by decide))
 | bin k hk a b h h' ih ih' =>
  obtain ⟨iq, ir, ihd⟩ := ih
  obtain ⟨jq, jr, jhd⟩ := ih'
  obtain ⟨o1, o2, o3⟩ := opT_of hk
  have e : ∀ rest, tk0 (bare (two k a b)) ++ rest = tk0 (pcs a (if lvl k = 4 then 5 else lvl k)) ++ (tkM (opc k).1 (opX k) :: (tk0 (pcs b (lvl k + 1)) ++ rest)) := fun rest => by
   rw [tb_bin hk, tk0_append, tk0_sp, tk0_cons (op_nz k), tk0_sp]
   simp [opc]
  have so : stp (lvl k + 1) (opX k) := ⟨fun j hj => o3 j (by omega), fun _ => o2⟩
  have hlv : (two k a b).kind = k := rfl
  have hd : Hx (two k a b) := fun h4 rest => by
   rw [e]
   refine head_wrap ihd ?_ _
   rw [hlv] at h4
   split <;> omega
  rcases (by
   have := lvl_le k
   rcases (by omega : k = 7 ∨ k = 8 ∨ k = 9 ∨ k = 12 ∨ k = 13 ∨ (14 ≤ k ∧ k ≤ 19)) with rfl | rfl | rfl | rfl | rfl | q
   ·exact .inl (by decide)
   ·exact .inl (by decide)
   ·exact .inl (by decide)
   ·exact .inl (by decide)
   ·exact .inl (by decide)
   ·right; unfold lvl; rw [if_neg (by omega), if_neg (by omega), if_neg (by omega), if_pos q] : (lvl k = 1 ∨ lvl k = 2 ∨ lvl k = 5 ∨ lvl k = 6) ∨ lvl k = 4) with hb | h4
  ·have hr : Rx (two k a b) := by
    intro j hj hl rest res hs hp
    rw [hlv] at hl
    subst hl
    rw [e, if_neg (by omega)]
    refine left_of iq ir hj so ?_
    exact Pr.lpOp o1 o2 (jq (lvl k + 1) (by omega) rest hs) hp
   refine ⟨Qx.of fun l hl rest hs => ?_, hr, hd⟩
   rw [hlv] at hl
   have hsk := hs.mono hl
   have e6 := hr (lvl k) hb rfl rest (.ok (two k a b) rest) (hsk.mono (by omega)) (Pr.lpStop hsk)
   refine Pr.climb' e6 hl (by omega) hs ?_ (.inr (by omega))
   by_cases q : lvl k ≤ 3
   ·exact .inr q
   ·exact .inl (hd (by rw [hlv]; omega) rest)
  ·refine ⟨Qx.of fun l hl rest hs => ?_, noR (by rw [hlv]; omega), hd⟩
   rw [hlv] at hl
   have e4 : Pr (.lev 4) (tk0 (bare (two k a b)) ++ rest) (.ok (two k a b) rest) := by
    rw [e, if_pos h4]
    rw [h4] at so o1 ⊢
    obtain ⟨n, hn⟩ := iq 5 (by omega) (tkM (opc k).1 (opX k) :: (tk0 (pcs b 5) ++ rest)) so
    obtain ⟨m, hm⟩ := jq 5 (by omega) rest (hs.mono (by omega))
    have hn := par_more hn (Nat.le_max_left n m)
    have hm := par_more hm (Nat.le_max_right n m)
    refine ⟨max n m + 1, ?_⟩
    rw [par, if_neg (by omega), if_neg (by omega), if_neg (by omega), if_pos rfl, hn]
    simp only [bndO]
    have : opT 4 (hdT (tkM (opc k).1 (opX k) :: (tk0 (pcs b 5) ++ rest))) = some k := o1
    rw [this]
    simp only [List.tail_cons]
    rw [hm]
   refine Pr.climb' e4 (by omega) (by decide) hs (.inl (hd (by rw [hlv]; omega) rest)) (.inr (by decide))
theorem par_print {x : Xp} (h : x.prop = true) {s : List UInt8} {k : Int} (hs : s = [41] ∨ s = [44] ∨ s = [59]) (rest : List Tok) : Pr (.lev 0) (tk0 (bare x) ++ tkM k s :: rest) (.ok x (tkM k s :: rest)) := by
 rw [← pcs0 x]
 exact (px_ok (Px.of x h)).1 0 (by omega) _ (stp_mark hs 0)
end Go.Proofs.YtpggidmbnjfmaaaDoor
end
section
set_option linter.unusedSimpArgs false
set_option linter.unusedVariables false
set_option maxHeartbeats 1000000
namespace Go.Proofs.YtpggidmbnjfmaaaDoor
open E

theorem stm_print {s : Stm} (h : stmB s = true) (rest : List Tok) : ∃ n, stmO n (tk0 (stmP s) ++ rest) = some (.ok s rest) := by
 unfold stmB at h
 simp only [Bool.and_eq_true, decide_eq_true_eq] at h
 obtain ⟨⟨hs, hd⟩, hp⟩ := h
 obtain ⟨k, a, n, x⟩ := s
 simp only [] at hs hd hp
 unfold shdB at hs
 obtain ⟨m, hm⟩ := par_print hp (s := [59]) (k := 3) (.inr (.inr rfl)) rest
 refine ⟨m, ?_⟩
 have hw : wantO [59] (tkM 3 [59] :: rest) = some (.ok () rest) := by rw [wantO, want_tk]
 by_cases e1 : k = 1
 ·subst e1
  rw [if_pos rfl] at hs
  simp only [Bool.and_eq_true, beq_iff_eq] at hs
  obtain ⟨hn, rfl⟩ := hs
  have e : tk0 (stmP ⟨1, 0, n, x⟩) ++ rest = tkM 1 sLet :: tkM 1 n :: tkM 3 [61] :: (tk0 (bare x) ++ tkM 3 [59] :: rest) := by
   unfold stmP
   rw [if_pos rfl, tk0_append, tk0_append]
   simp [tk0, sp]
  rw [e]
  unfold stmO
  rw [if_pos (show hdT (tkM 1 sLet :: _) = sLet from rfl), List.tail_cons, name_tk hn]
  simp only [bndO]
  rw [wantO, want_tk]
  simp only [bndO]
  rw [hm]
  simp only [bndO]
  rw [hw]
 rw [if_neg e1] at hs
 by_cases e2 : k = 2
 ·subst e2
  rw [if_pos rfl] at hs
  simp only [Bool.and_eq_true, beq_iff_eq] at hs
  obtain ⟨hn, rfl⟩ := hs
  obtain rfl := isE hn
  have e : tk0 (stmP ⟨2, 0, [], x⟩) ++ rest = tkM 1 sReq :: (tk0 (bare x) ++ tkM 3 [59] :: rest) := by
   unfold stmP
   rw [if_neg (by simp), if_pos rfl, tk0_append, tk0_append]
   simp [tk0, sp]
  rw [e]
  unfold stmO
  rw [if_neg (show ¬ hdT (tkM 1 sReq :: _) = sLet by show ¬ sReq = sLet; decide), if_pos (show hdT (tkM 1 sReq :: _) = sReq from rfl), List.tail_cons, hm]
  simp only [bndO]
  rw [hw]
 rw [if_neg e2] at hs
 by_cases e3 : k = 3
 ·subst e3
  rw [if_pos rfl] at hs
  simp only [Bool.and_eq_true] at hs
  obtain ⟨hn, ha⟩ := hs
  obtain rfl := isE hn
  unfold acB at ha
  simp only [Bool.and_eq_true, decide_eq_true_eq] at ha
  have e : tk0 (stmP ⟨3, a, [], x⟩) ++ rest = tkM 1 sPost :: tkM 2 (Lib.itoa a) :: (tk0 (bare x) ++ tkM 3 [59] :: rest) := by
   unfold stmP
   rw [if_neg (by simp), if_neg (by simp), tk0_append, tk0_append]
   simp [tk0, sp, numP]
  rw [e]
  unfold stmO
  rw [if_neg (show ¬ hdT (tkM 1 sPost :: _) = sLet by show ¬ sPost = sLet; decide), if_neg (show ¬ hdT (tkM 1 sPost :: _) = sReq by show ¬ sPost = sReq; decide), if_pos (show hdT (tkM 1 sPost :: _) = sPost from rfl), List.tail_cons, accT, num_tk (by omega) (by omega) ha.1 ha.2]
  simp only [bndO]
  rw [hm]
  simp only [bndO]
  rw [hw]
 ·rw [if_neg e3] at hs; cases hs
theorem stmP_head (s : Stm) : ∃ t r, tk0 (stmP s) = t :: r ∧ t.text ≠ sTo := by
 unfold stmP
 by_cases e1 : s.kind = 1
 ·rw [if_pos e1]; exact ⟨_, _, rfl, by show sLet ≠ sTo; decide⟩
 rw [if_neg e1]
 by_cases e2 : s.kind = 2
 ·rw [if_pos e2]; exact ⟨_, _, rfl, by show sReq ≠ sTo; decide⟩
 rw [if_neg e2]
 exact ⟨_, _, rfl, by show sPost ≠ sTo; decide⟩
theorem stms_print : ∀ (ss : List Stm), (∀ s ∈ ss, stmB s = true) → ∀ (acc : List Stm) (rest : List Tok), hdT rest = sTo → ∃ n, ∀ n', n ≤ n' → stmsO n' n' acc (tk0 (ss.flatMap stmP) ++ rest) = some (.ok (acc ++ ss) rest)
 | [], _, acc, rest, hr => ⟨1, fun n' hn => by
  obtain ⟨m, rfl⟩ : ∃ m, n' = m + 1 := ⟨n' - 1, by omega⟩
  show stmsO (m + 1) (m + 1) acc rest = _
  rw [stmsO, if_pos hr, List.append_nil]⟩
 | s :: ss, h, acc, rest, hr => by
  obtain ⟨n1, h1⟩ := stm_print (h s (by simp)) (tk0 (ss.flatMap stmP) ++ rest)
  have key : ∃ n, ∀ n' m', n ≤ n' → n ≤ m' → stmsO n' m' (acc ++ [s]) (tk0 (ss.flatMap stmP) ++ rest) = some (.ok (acc ++ [s] ++ ss) rest) := by
   obtain ⟨n2, h2⟩ := stms_print ss (fun x hx => h x (by simp [hx])) (acc ++ [s]) rest hr
   exact ⟨n2, fun n' m' hn hm => stms_mono hn _ _ _ _ (h2 n2 (Nat.le_refl _)) _ hm⟩
  obtain ⟨n2, h2⟩ := key
  refine ⟨max n1 n2 + 1, fun n' hn => ?_⟩
  obtain ⟨m, rfl⟩ : ∃ m, n' = m + 1 := ⟨n' - 1, by omega⟩
  rw [List.flatMap_cons, tk0_append, List.append_assoc]
  obtain ⟨t, r, e, hne⟩ := stmP_head s
  rw [stmsO, if_neg (by rw [e]; exact hne), stm_mono h1 (show n1 ≤ m + 1 by omega)]
  simp only [bndO]
  rw [h2 (m + 1) m (by omega) (by omega)]
  simp
theorem rul_print {r : Rul} (h : rulB r = true) (rest : List Tok) : ∃ n, ∀ n', n ≤ n' → rulO n' (tk0 (rulP r) ++ rest) = some (.ok r rest) := by
 obtain ⟨nm, pr, ss, to⟩ := r
 unfold rulB at h
 simp only [Bool.and_eq_true, decide_eq_true_eq, List.all_eq_true] at h
 obtain ⟨⟨⟨hn, hl⟩, ht⟩, hs⟩ := h
 unfold acB at ht
 simp only [Bool.and_eq_true, decide_eq_true_eq] at ht
 have e : tk0 (rulP ⟨nm, pr, ss, to⟩) ++ rest = tkM 1 sRule :: tkM 1 nm :: tkM 1 sEach :: tkM 1 (if pr then sPair else sEnt) :: tkM 3 [123] :: (tk0 (ss.flatMap stmP) ++ tkM 1 sTo :: tkM 2 (Lib.itoa to) :: tkM 3 [59] :: tkM 3 [125] :: rest) := by
  unfold rulP
  rw [tk0_append, tk0_append]
  simp [tk0, sp, numP]
 rw [e]
 obtain ⟨n, h1⟩ := stms_print ss hs [] (tkM 1 sTo :: tkM 2 (Lib.itoa to) :: tkM 3 [59] :: tkM 3 [125] :: rest) rfl
 refine ⟨n, fun n' hn' => ?_⟩
 have h1 := h1 n' hn'
 have hp : pairO (tkM 1 (if pr then sPair else sEnt) :: tkM 3 [123] :: (tk0 (ss.flatMap stmP) ++ tkM 1 sTo :: tkM 2 (Lib.itoa to) :: tkM 3 [59] :: tkM 3 [125] :: rest)) = some (.ok pr (tkM 3 [123] :: (tk0 (ss.flatMap stmP) ++ tkM 1 sTo :: tkM 2 (Lib.itoa to) :: tkM 3 [59] :: tkM 3 [125] :: rest))) := by
  unfold pairO
  cases pr
  ·rw [if_neg (by show ¬ sEnt = sPair; decide)]
   have : wantO sEnt (tkM 1 (if false = true then sPair else sEnt) :: tkM 3 [123] :: (tk0 (ss.flatMap stmP) ++ tkM 1 sTo :: tkM 2 (Lib.itoa to) :: tkM 3 [59] :: tkM 3 [125] :: rest)) = some (.ok () (tkM 3 [123] :: (tk0 (ss.flatMap stmP) ++ tkM 1 sTo :: tkM 2 (Lib.itoa to) :: tkM 3 [59] :: tkM 3 [125] :: rest))) := by
    rw [wantO, if_neg (by decide)]; rw [want_tk]
   rw [this]; rfl
  ·rw [if_pos (by show sPair = sPair; rfl)]; rfl
 unfold rulO rulF
 rw [wantO, want_tk]
 simp only [bndO]
 rw [name_tk hn]
 simp only [bndO]
 rw [wantO, want_tk]
 simp only [bndO]
 rw [hp]
 simp only [bndO]
 rw [wantO, want_tk]
 simp only [bndO]
 rw [h1]
 simp only [bndO, List.nil_append]
 rw [wantO, want_tk]
 simp only [bndO]
 rw [accT, num_tk (by omega) (by omega) ht.1 ht.2]
 simp only [bndO]
 rw [wantO, want_tk]
 simp only [bndO]
 rw [wantO, want_tk]
theorem prg_print : ∀ (p : List Rul), (∀ r ∈ p, rulB r = true) → ∀ (acc : List Rul), ∃ n, ∀ n', n ≤ n' → prgO n' n' acc (tk0 (prgP p)) = some (.ok (acc ++ p) [])
 | [], _, acc => ⟨1, fun n' hn => by
  obtain ⟨m, rfl⟩ : ∃ m, n' = m + 1 := ⟨n' - 1, by omega⟩
  show prgO (m + 1) (m + 1) acc [] = _
  rw [prgO, if_pos rfl, List.append_nil]⟩
 | r :: p, h, acc => by
  obtain ⟨n1, h1⟩ := rul_print (h r (by simp)) (tk0 (prgP p))
  obtain ⟨n2, h2⟩ := prg_print p (fun x hx => h x (by simp [hx])) (acc ++ [r])
  refine ⟨max n1 n2 + 1, fun n' hn => ?_⟩
  obtain ⟨m, rfl⟩ : ∃ m, n' = m + 1 := ⟨n' - 1, by omega⟩
  have e : tk0 (prgP (r :: p)) = tk0 (rulP r) ++ tk0 (prgP p) := by unfold prgP; rw [List.flatMap_cons, tk0_append]
  have hne : ¬ tk0 (rulP r) ++ tk0 (prgP p) = [] := by
   intro q
   have := (List.append_eq_nil_iff.1 q).1
   cases this
  rw [e, prgO, if_neg hne, h1 (m + 1) (by omega)]
  simp only [bndO]
  rw [prg_mono (show n2 ≤ m + 1 by omega) _ _ _ _ (h2 n2 (Nat.le_refl _)) m (by omega)]
  simp
theorem prgT_print {p : List Rul} (h : prgB p = true) : prgT (tk0 (prgP p)) = .ok p [] := by
 unfold prgB at h
 simp only [Bool.and_eq_true, List.all_eq_true] at h
 obtain ⟨n, hn⟩ := prg_print p h.1 []
 exact prgT_of (hn n (Nat.le_refl _))
theorem prgT_strip {ts : List Tok} {p : List Rul} (h : prgT (ts.map strip) = .ok p []) : prgT ts = .ok p [] := by
 rw [prgT_map plc_strip] at h
 cases hq : prgT ts with
 | ok q r =>
  rw [hq] at h
  simp only [Rd.mapR, Rd.ok.injEq, List.map_eq_nil_iff] at h
  rw [h.1, h.2]
 | er r => rw [hq] at h; cases h

def hdP (ps : List Pc) (c : Int) : Int := match ps with | [] => c | _ => headI (txt ps)
def sepB (c : Int) : Prop := nmcI c = false ∧ digI c = false
theorem nm_pcok {n : List UInt8} (h : nfB n = true) {c : Int} (hc : nmcI c = false) : pcOK (1, n) c := by
 unfold nfB at h
 simp only [Bool.and_eq_true, decide_eq_true_eq] at h
 refine .inr ⟨.inl ⟨rfl, h.1.2, h.2, hc⟩, ?_⟩
 rintro (⟨_, q⟩ | ⟨q, _⟩)
 ·have := h.1.1.2; simp only [] at q; omega
 ·cases q
theorem num_pcok {v : Int} (h0 : 0 ≤ v) (h1 : v ≤ 1000000000000) {c : Int} (hc : digI c = false) : pcOK (numP v) c := by
 refine .inr ⟨.inr (.inl ⟨rfl, itoa_head h0, itoa_run h0, hc⟩), ?_⟩
 rintro (⟨q, _⟩ | ⟨_, q⟩)
 ·cases q
 ·unfold numP at q
  simp only [valR_itoa h0 h1] at q
  cases q
theorem mark1 {x : UInt8} (h : x ∈ ([123, 125, 40, 41, 44, 59, 61, 43, 45, 42] : List UInt8)) (c : Int) : pcOK (3, [x]) c := by
 refine .inr ⟨.inr (.inr (.inr ?_)), by rintro (⟨q, _⟩ | ⟨q, _⟩) <;> cases q⟩
 have hd : ∀ d : UInt8, dblL.any (fun y => decide ([x] ++ [d] = y)) = false := by
  intro d
  rw [List.any_eq_false]
  intro y hy
  simp only [dblL, List.mem_cons, List.not_mem_nil, or_false] at hy
  simp only [List.mem_cons, List.not_mem_nil, or_false] at h
  rcases h with rfl | rfl | rfl | rfl | rfl | rfl | rfl | rfl | rfl | rfl <;> rcases hy with rfl | rfl | rfl | rfl <;> simp
 have : ltrI (headI [x]) = false ∧ digI (headI [x]) = false ∧ decide (0 ≤ Lib.indexByte sglL (headI [x]).toNat.toUInt8) = true := by
  simp only [List.mem_cons, List.not_mem_nil, or_false] at h
  rcases h with rfl | rfl | rfl | rfl | rfl | rfl | rfl | rfl | rfl | rfl <;> decide
 exact ⟨rfl, this.1, this.2.1, rfl, this.2.2, fun d _ => hd d⟩
theorem mark2 {s : List UInt8} (h : s ∈ dblL) (c : Int) : pcOK (3, s) c := by
 refine .inr ⟨.inr (.inr (.inl ?_)), by rintro (⟨q, _⟩ | ⟨q, _⟩) <;> cases q⟩
 simp only [dblL, List.mem_cons, List.not_mem_nil, or_false] at h
 rcases h with rfl | rfl | rfl | rfl <;> exact ⟨rfl, by decide, by decide, rfl, by decide⟩
theorem mark3 {x : UInt8} (h : x = 60 ∨ x = 62) : pcOK (3, [x]) 32 := by
 refine .inr ⟨.inr (.inr (.inr ?_)), by rintro (⟨q, _⟩ | ⟨q, _⟩) <;> cases q⟩
 have hd : ∀ d : UInt8, (d.toNat : Int) = 32 → dblL.any (fun y => decide ([x] ++ [d] = y)) = false := by
  intro d hd
  have : d = 32 := UInt8.toNat_inj.1 (by show d.toNat = 32; omega)
  subst this
  rcases h with rfl | rfl <;> decide
 rcases h with rfl | rfl <;> exact ⟨rfl, by decide, by decide, rfl, by decide, hd⟩
theorem kw_ok {s : List UInt8} (h : s ∈ kwL) {c : Int} (hc : nmcI c = false) : pcOK (1, s) c := by
 refine nm_pcok ?_ hc
 simp only [kwL, List.mem_cons, List.not_mem_nil, or_false] at h
 rcases h with rfl | rfl | rfl | rfl | rfl | rfl | rfl | rfl | rfl | rfl | rfl | rfl | rfl | rfl | rfl | rfl | rfl | rfl <;> decide
theorem op_ok {k : Int} (h : k = 7 ∨ k = 8 ∨ k = 9 ∨ (12 ≤ k ∧ k ≤ 19)) : pcOK (opc k) 32 := by
 rcases (by omega : k = 7 ∨ k = 8 ∨ k = 9 ∨ k = 12 ∨ k = 13 ∨ k = 14 ∨ k = 15 ∨ k = 16 ∨ k = 17 ∨ k = 18 ∨ k = 19) with rfl | rfl | rfl | rfl | rfl | rfl | rfl | rfl | rfl | rfl | rfl
 ·exact mark1 (by decide) _
 ·exact mark1 (by decide) _
 ·exact mark1 (by decide) _
 ·exact kw_ok (s := sAnd) (by decide) (by decide)
 ·exact kw_ok (s := sOr) (by decide) (by decide)
 ·exact mark3 (.inl rfl)
 ·exact mark2 (s := [60, 61]) (by decide) _
 ·exact mark1 (by decide) _
 ·exact mark2 (s := [33, 61]) (by decide) _
 ·exact mark2 (s := [62, 61]) (by decide) _
 ·exact mark3 (.inr rfl)
theorem sp_ok (c : Int) : pcOK sp c := .inl ⟨rfl, .inl rfl⟩
theorem bl_ok {x : UInt8} (h : x = 9 ∨ x = 10) (c : Int) : pcOK (0, [x]) c := .inl ⟨rfl, by rcases h with rfl | rfl <;> simp⟩
end Go.Proofs.YtpggidmbnjfmaaaDoor
end
section
set_option linter.unusedSimpArgs false
set_option linter.unusedVariables false
set_option maxHeartbeats 1000000
namespace Go.Proofs.YtpggidmbnjfmaaaDoor
open E

theorem hd_cons (p : Pc) (c : UInt8) (s : List UInt8) (h : p.2 = c :: s) (r : List Pc) : headI (txt (p :: r)) = (c.toNat : Int) := by
 rw [txt_cons, h]; rfl
theorem lex_cons {p : Pc} {r : List Pc} (h1 : pcOK p (headI (txt r))) (h2 : lexOK r) : lexOK (p :: r) := ⟨h1, h2⟩
theorem nameB_nf {n : List UInt8} (h : nameB n = true) : nfB n = true := by
 unfold nameB at h
 simp only [Bool.and_eq_true] at h
 exact h.1
def LxB (ps : List Pc) : Prop := ∀ rest, lexOK rest → sepB (headI (txt rest)) → lexOK (ps ++ rest)
theorem sep_sp (r : List Pc) : sepB (headI (txt (sp :: r))) := by
 rw [hd_cons sp 32 [] rfl]; exact ⟨by decide, by decide⟩
theorem sep_mark {x : UInt8} (h : x = 40 ∨ x = 41 ∨ x = 44 ∨ x = 59) (r : List Pc) : sepB (headI (txt ((3, [x]) :: r))) := by
 rw [hd_cons (3, [x]) x [] rfl]
 rcases h with rfl | rfl | rfl | rfl <;> exact ⟨by decide, by decide⟩
theorem lex_sp {r : List Pc} (h : lexOK r) : lexOK (sp :: r) := lex_cons (sp_ok _) h
theorem lex_mark {x : UInt8} (hx : x ∈ ([123, 125, 40, 41, 44, 59, 61, 43, 45, 42] : List UInt8)) {r : List Pc} (h : lexOK r) : lexOK ((3, [x]) :: r) := lex_cons (mark1 hx _) h
theorem LxB.wrap {b : List Pc} (h : LxB b) (lv l : Nat) : LxB (wrapP lv l b) := by
 intro rest hr hs
 unfold wrapP
 split
 ·rw [List.cons_append, List.append_assoc]
  exact lex_mark (by decide) (h _ (lex_mark (by decide) hr) (sep_mark (.inr (.inl rfl)) _))
 ·exact h rest hr hs
theorem lxb : ∀ {x : Xp}, Px x → LxB (bare x) := by
 intro x hx
 induction hx with
 | num v h0 h1 =>
  intro rest hr hs
  exact lex_cons (num_pcok h0 h1 hs.2) hr
 | var n h =>
  intro rest hr hs
  exact lex_cons (nm_pcok (nameB_nf h) hs.1) hr
 | neg a h ih =>
  intro rest hr hs
  exact lex_mark (by decide) (ih.wrap _ _ rest hr hs)
 | not a h ih =>
  intro rest hr hs
  exact lex_cons (kw_ok (s := sNot) (by decide) (sep_sp _).1) (lex_sp (ih.wrap _ _ rest hr hs))
 | f1 k hk a h ih =>
  intro rest hr hs
  rw [bare_f1 hk]
  simp only [List.cons_append, List.append_assoc, List.nil_append]
  refine lex_cons ?_ (lex_mark (by decide) (ih _ (lex_mark (by decide) hr) (sep_mark (.inr (.inl rfl)) _)))
  have hc := (sep_mark (x := 40) (.inl rfl) (bare a ++ rp :: rest)).1
  rcases hk with rfl | rfl
  ·exact kw_ok (s := sAbs) (by decide) hc
  ·exact kw_ok (s := sShare) (by decide) hc
 | f2 k hk a b h h' ih ih' =>
  intro rest hr hs
  rw [bare_f2 hk]
  simp only [List.cons_append, List.append_assoc, List.nil_append]
  refine lex_cons ?_ (lex_mark (by decide) (ih _ (lex_mark (by decide) (lex_sp (ih' _ (lex_mark (by decide) hr) (sep_mark (.inr (.inl rfl)) _)))) (sep_mark (.inr (.inr (.inl rfl))) _)))
  have hc := (sep_mark (x := 40) (.inl rfl) (bare a ++ (3, [44]) :: sp :: (bare b ++ rp :: rest))).1
  rcases hk with rfl | rfl
  ·exact kw_ok (s := sMin) (by decide) hc
  ·exact kw_ok (s := sMax) (by decide) hc
 | bin k hk a b h h' ih ih' =>
  intro rest hr hs
  rw [tb_bin hk]
  simp only [List.cons_append, List.append_assoc, List.nil_append]
  refine ih.wrap _ _ _ (lex_sp (lex_cons ?_ (lex_sp (ih'.wrap _ _ rest hr hs)))) (sep_sp _)
  rw [hd_cons sp 32 [] rfl]
  exact op_ok hk
 | per v h0 h1 a h ih =>
  intro rest hr hs
  have e : bare (perX v a) = pcs a 6 ++ [sp, (1, sPer), sp, numP v] := rfl
  rw [e]
  simp only [List.cons_append, List.append_assoc, List.nil_append]
  exact ih.wrap _ _ _ (lex_sp (lex_cons (kw_ok (s := sPer) (by decide) (sep_sp _).1) (lex_sp (lex_cons (num_pcok (by omega) h1 hs.2) hr)))) (sep_sp _)
 | bal k hk f t hf ht =>
  intro rest hr hs
  have e : bare (.mk k 0 f t [] []) = [(1, if k = 22 then sPart else sBal), lp, numP f, (3, [46, 46]), numP t, rp] := by rcases hk with rfl | rfl <;> rfl
  rw [e]
  simp only [List.cons_append, List.nil_append]
  refine lex_cons ?_ (lex_mark (by decide) (lex_cons (num_pcok (by omega) (by omega) ?_) (lex_cons (mark2 (s := [46, 46]) (by decide) _) (lex_cons (num_pcok (by omega) (by omega) ?_) (lex_mark (by decide) hr)))))
  ·have hc := (sep_mark (x := 40) (.inl rfl) (numP f :: (3, [46, 46]) :: numP t :: rp :: rest)).1
   rcases hk with rfl | rfl
   ·exact kw_ok (s := sBal) (by decide) hc
   ·exact kw_ok (s := sPart) (by decide) hc
  ·rw [hd_cons (3, [46, 46]) 46 [46] rfl]; decide
  ·exact (sep_mark (x := 41) (.inr (.inl rfl)) rest).2
theorem lex_bl {x : UInt8} (h : x = 9 ∨ x = 10) {r : List Pc} (hr : lexOK r) : lexOK ((0, [x]) :: r) := lex_cons (bl_ok h _) hr
theorem stm_px {s : Stm} (h : stmB s = true) : s.ex.prop = true := by
 unfold stmB at h
 simp only [Bool.and_eq_true] at h
 exact h.2
theorem lxb_stm {s : Stm} (h : stmB s = true) {rest : List Pc} (hr : lexOK rest) : lexOK (stmP s ++ rest) := by
 have hx := lxb (Px.of _ (stm_px h))
 have hb : lexOK (bare s.ex ++ (3, [59]) :: (0, [10]) :: rest) := hx _ (lex_mark (by decide) (lex_bl (.inr rfl) hr)) (sep_mark (.inr (.inr (.inr rfl))) _)
 have e : stmP s ++ rest = (if s.kind = 1 then [(0, [9]), (1, sLet), sp, (1, s.name), sp, (3, [61]), sp] else if s.kind = 2 then [(0, [9]), (1, sReq), sp] else [(0, [9]), (1, sPost), sp, numP s.acc, sp]) ++ (bare s.ex ++ (3, [59]) :: (0, [10]) :: rest) := by
  unfold stmP; simp
 rw [e]
 generalize bare s.ex ++ (3, [59]) :: (0, [10]) :: rest = r at *
 unfold stmB at h
 split
 ·rename_i h1
  have hn : nameB s.name = true := by
   unfold shdB at h
   rw [if_pos h1] at h
   simp only [Bool.and_eq_true] at h
   exact h.1.1.1
  exact lex_bl (.inl rfl) (lex_cons (kw_ok (s := sLet) (by decide) (sep_sp _).1) (lex_sp (lex_cons (nm_pcok (nameB_nf hn) (sep_sp _).1) (lex_sp (lex_mark (by decide) (lex_sp hb))))))
 split
 ·exact lex_bl (.inl rfl) (lex_cons (kw_ok (s := sReq) (by decide) (sep_sp _).1) (lex_sp hb))
 ·rename_i h1 h2
  have ha : acB s.acc = true := by
   unfold shdB at h
   rw [if_neg h1, if_neg h2] at h
   simp only [Bool.and_eq_true] at h
   have h3 := h.1.1
   split at h3
   ·simp only [Bool.and_eq_true] at h3; exact h3.2
   ·cases h3
  unfold acB at ha
  simp only [Bool.and_eq_true, decide_eq_true_eq] at ha
  exact lex_bl (.inl rfl) (lex_cons (kw_ok (s := sPost) (by decide) (sep_sp _).1) (lex_sp (lex_cons (num_pcok (by omega) (by omega) (sep_sp _).2) (lex_sp hb))))
theorem lxb_stms : ∀ {ss : List Stm}, (∀ s ∈ ss, stmB s = true) → ∀ {rest : List Pc}, lexOK rest → lexOK (ss.flatMap stmP ++ rest)
 | [], _, rest, hr => hr
 | s :: ss, h, rest, hr => by
  rw [List.flatMap_cons, List.append_assoc]
  exact lxb_stm (h s (by simp)) (lxb_stms (fun s hs => h s (by simp [hs])) hr)
theorem lxb_rul {r : Rul} (h : rulB r = true) {rest : List Pc} (hr : lexOK rest) : lexOK (rulP r ++ rest) := by
 unfold rulB at h
 simp only [Bool.and_eq_true, decide_eq_true_eq, List.all_eq_true] at h
 obtain ⟨⟨⟨hn, _⟩, ha⟩, hs⟩ := h
 unfold acB at ha
 simp only [Bool.and_eq_true, decide_eq_true_eq] at ha
 unfold rulP
 simp only [List.cons_append, List.append_assoc, List.nil_append]
 refine lex_cons (kw_ok (s := sRule) (by decide) (sep_sp _).1) (lex_sp (lex_cons (nm_pcok (nameB_nf hn) (sep_sp _).1) (lex_sp (lex_cons (kw_ok (s := sEach) (by decide) (sep_sp _).1) (lex_sp (lex_cons ?_ (lex_sp (lex_mark (by decide) (lex_bl (.inr rfl) (lxb_stms hs ?_))))))))))
 ·split
  ·exact kw_ok (s := sPair) (by decide) (sep_sp _).1
  ·exact kw_ok (s := sEnt) (by decide) (sep_sp _).1
 ·exact lex_bl (.inl rfl) (lex_cons (kw_ok (s := sTo) (by decide) (sep_sp _).1) (lex_sp (lex_cons (num_pcok (by omega) (by omega) (sep_mark (.inr (.inr (.inr rfl))) _).2) (lex_mark (by decide) (lex_bl (.inr rfl) (lex_mark (by decide) (lex_bl (.inr rfl) hr)))))))
theorem lxb_prg : ∀ {p : List Rul}, (∀ r ∈ p, rulB r = true) → lexOK (prgP p)
 | [], _ => trivial
 | r :: p, h => by
  show lexOK (rulP r ++ prgP p)
  exact lxb_rul (h r (by simp)) (lxb_prg fun r hr => h r (by simp [hr]))
theorem parse_print {p : List Rul} (h : prgB p = true) (hl : (txt (prgP p)).length ≤ 8000) : parseR (txt (prgP p)) = (p, 0, 0) := by
 have ha : ∀ r ∈ p, rulB r = true := by
  unfold prgB at h
  simp only [Bool.and_eq_true, List.all_eq_true] at h
  exact h.1
 obtain ⟨l, h1, h2⟩ := lex_pieces (prgP p) 0 (lxb_prg ha)
 have h3 := prgT_print h
 rw [← h2] at h3
 have h4 := prgT_strip h3
 unfold parseR
 rw [lex_tokens hl h1, if_pos rfl]
 unfold parsT
 simp only [h4]
 rw [if_pos h]
end Go.Proofs.YtpggidmbnjfmaaaDoor
end
