/- Chapter 34: the builder's add. -/
import Derived.Test.YtpggidmbnjfmaaaGreatDoorCps
import Derived.Test.YtpggidmbnjfmaaaGreatDoorExp
import Derived.Test.YtpggidmbnjfmaaaGreatDoorBld
import Derived.Test.YtpggidmbnjfmaaaGreatDoorRul
section
set_option linter.unusedSimpArgs false
set_option linter.unusedVariables false
set_option maxHeartbeats 4000000
set_option maxRecDepth 8000
namespace Go.Proofs.YtpggidmbnjfmaaaGreatDoor
open E

def bldX (k m : Nat) (es : List Ins) : Bx := .cells [.own k 54 3 (es.map Ins.c), .mp m]
def OkBK (B : List Bx) (K : List Nat) : Prop := ∀ n m, B.length ≤ n → K.length ≤ m → LeBs n m B B
theorem leB_bld {n h : Nat} {k m : Nat} (es : List Ins) (hm : m < n) (hk : k < h) : leB n h (bldX k m es) (bldX k m es) := by
 unfold bldX
 simp [leB, LeL_refl, okNs, okN, hm, hk]
theorem OkBK.set {B : List Bx} {K : List Nat} {b k m : Nat} (h : OkBK B K) (es : List Ins) (hm : m < B.length) (hk : k < K.length) (j : Nat) : OkBK (B.set b (bldX k m es)) (K.set k j) := fun n h' hn hh => by
 rw [List.length_set] at hn hh
 exact LeBs.setR (leB_bld es (by omega) (by omega)) b (h n h' hn hh)
theorem OkBK.more {B : List Bx} {K : List Nat} (h : OkBK B K) (l : List Bx) (hl : ∀ n m, B.length + l.length ≤ n → K.length ≤ m → LeBs n m l l) : OkBK (B ++ l) K := fun n m hn hm => by
 rw [List.length_append] at hn
 exact (LeBs.app' (h n m (by omega) hm)).2 (hl n m hn hm)
theorem w_add (b k m : Nat) (es : List Ins) (op x y : Int) (B : List Bx) (K : List Nat) (hB : B[b]? = some (bldX k m es)) (hK : K[k]? = some es.length) (hl : es.length ≤ 1000000) (hm : m < B.length) (hok : OkBK B K) :
  FnS Tryz.prog 50 [.ptr b 0, vI op, vI x, vI y] ⟨B, K⟩ (.tup []) ⟨B.set b (bldX k m (es ++ [⟨op, x, y⟩])), K.set k (es.length + 1)⟩ := by
 have hb : b < B.length := (List.getElem?_eq_some_iff.1 hB).1
 have hk : k < K.length := (List.getElem?_eq_some_iff.1 hK).1
 have hfin : LeBs B.length K.length (B.set b (bldX k m (es ++ [⟨op, x, y⟩]))) (B.set b (bldX k m (es ++ [⟨op, x, y⟩]))) := LeBs.setR (leB_bld _ hm hk) b (hok _ _ (Nat.le_refl _) (Nat.le_refl _))
 have hkk : K[k] = es.length := by simpa [hk] using hK
 unfold bldX at hB hfin ⊢
 have hBe := hB
 rw [List.getElem?_eq_getElem hb] at hBe
 have hBe := Option.some.inj hBe
 (refine FnS.of_code mix Tryz.call50 k_50 (by simp) (fun hB => ?_); (try simp at hB); (try simp -implicitDefEqProofs [qc_50]))
 ((try simp -implicitDefEqProofs [hB, hBe, hb, hk, hK, hkk]); repeat' first | ((with_reducible first | apply gdK_em | apply cdK_em | apply pickK_em) <;> (intro hc; have hc' := hc; (try simp at hc'); simp -implicitDefEqProofs [hc, hc', hB, hBe, hb, hk, hK, hkk])))
 exact ⟨⟨by unfold maxLen; omega, by omega⟩, by simpa [Ins.c] using hfin, LeNs.refl _⟩
abbrev mpL (L : List (List UInt8 × Int)) : Bx := .mp (mS vI L)
theorem w_bexpr (M : List (List UInt8)) (L : List (List UInt8 × Int)) (hL : ∀ n, (aget L n).getD 0 = idxN M n) : ∀ (x : Xp), x.prop = true → ∀ (b k m : Nat) (es : List Ins) (B : List Bx) (K : List Nat), B[b]? = some (bldX k m es) → B[m]? = some (mpL L) → K[k]? = some es.length →
  es.length + x.cnt ≤ 1000000 → OkBK B K → FnS Tryz.prog 49 [.ptr b 0, x.v] ⟨B, K⟩ (.tup []) ⟨B.set b (bldX k m (es ++ x.codeX M)), K.set k (es.length + x.cnt)⟩ := by
 refine Xp.ind fun kd vl fr to nm xs ih hp b k m es B K hbx hM hK hlen hok => ?_
 rw [Xp.prop, Bool.and_eq_true] at hp
 obtain ⟨hsh, hps⟩ := hp
 have hpm := Xp.props_mem hps
 rw [Xp.cnt] at hlen ⊢
 rw [Xp.codeX, Xp.v, Xp.c_mk]
 have hb : b < B.length := (List.getElem?_eq_some_iff.1 hbx).1
 have hk : k < K.length := (List.getElem?_eq_some_iff.1 hK).1
 have hm : m < B.length := (List.getElem?_eq_some_iff.1 hM).1
 have hbm : b ≠ m := by rintro rfl; rw [hbx] at hM; simp [bldX] at hM
 have hal := Xp.cnts_len xs
 obtain ⟨RES, hRES⟩ : ∃ RES, RES = (⟨B.set b (bldX k m (es ++ (Xp.codesX M xs ++ [lastX M kd vl fr to nm]))), K.set k (es.length + (1 + Xp.cnts xs))⟩ : St) := ⟨_, rfl⟩
 rw [← hRES]
 have hRl : RES.boxes.length = B.length ∧ RES.toks.length = K.length := by rw [hRES]; simp
 (refine FnS.of_code mix Tryz.call49 k_49 (by simp) (fun hB => ?_); (try simp at hB); (try simp -implicitDefEqProofs [qc_49]))
 have gz0 := get0 B
 ((try simp -implicitDefEqProofs [gz0]); repeat' first | ((with_reducible first | apply gdK_em | apply cdK_em | apply pickK_em) <;> (intro hc; have hc' := hc; (try simp at hc'); simp -implicitDefEqProofs [hc, hc', gz0])))
 refine loop_rule (X := Nat × List Bx × List Nat) (fun X => X.1 ≤ xs.length ∧ X.2.1 = B.set b (bldX k m (es ++ Xp.codesX M (xs.take X.1))) ∧ X.2.2 = K.set k (es.length + Xp.cnts (xs.take X.1)))
  (fun X => [(0, .ptr b 0), (3, .ptr B.length 0), (8, Xp.l xs), (9, vI xs.length), (10, vI X.1)]) (fun X => ⟨X.2.1 ++ [.cells [vI kd, vI vl, vI fr, vI to, vS nm, Xp.l xs]], X.2.2⟩) (fun X => xs.length - X.1) (0, B, K) ⟨by simp, ?h1, ?h2⟩ ?hs ?_
 case h1 => simp only [List.take_zero, Xp.codesX, List.append_nil]; exact (set_same hbx).symm
 case h2 => simp only [List.take_zero, Xp.cnts, Nat.add_zero]; exact (set_same hK).symm
 case hs =>
  have hle := fun l l' n m h h2 => LeBs.app' (l := l) (l' := l') (hok n m h h2)
  simp [hle, leB, LeL_refl, LeNs.refl]
  omega
 rintro ⟨j, B1, K1⟩ ⟨hj, hB1, hK1⟩ hbd
 simp only [] at hj hB1 hK1
 clear hbd
 have hl1 : B1.length = B.length := by rw [hB1]; simp
 have hk1 : K1.length = K.length := by rw [hK1]; simp
 have b1 : B1[b]? = some (bldX k m (es ++ Xp.codesX M (xs.take j))) := by rw [hB1]; simp [hb]
 have b2 : B1[m]? = some (mpL L) := by rw [hB1, List.getElem?_set_ne hbm]; exact hM
 have b3 : K1[k]? = some (es ++ Xp.codesX M (xs.take j)).length := by rw [hK1, List.length_append, Xp.codesX_len]; simp [hk]
 have hok1 : OkBK B1 K1 := by rw [hB1, hK1]; exact hok.set _ hm hk _
 have gz : ∀ l, (B1 ++ l)[B.length]? = l[0]? := fun l => by have := get0 B1 l; rwa [hl1] at this
 have g1 : ∀ l, (B1 ++ l)[B.length + 1]? = l[1]? := fun l => by have := get1 B1 l; rwa [hl1] at this
 have gb : ∀ l, (B1 ++ l)[b]? = some (bldX k m (es ++ Xp.codesX M (xs.take j))) := fun l => by rw [List.getElem?_append_left (by omega)]; exact b1
 have gm : ∀ l, (B1 ++ l)[m]? = some (mpL L) := fun l => by rw [List.getElem?_append_left (by omega)]; exact b2
 have sb : ∀ l (v : Bx), (B1 ++ l).set b v = B1.set b v ++ l := fun l v => List.set_append_left _ _ (by omega)
 have sz : ∀ l (v : Bx), (B1 ++ l).set (B.length + 1) v = B1 ++ l.set 1 v := fun l v => by rw [← hl1, List.set_append_right _ _ (by omega)]; simp
 have hle := fun l l' n m h h2 => LeBs.app' (l := l) (l' := l') (hok1 n m h h2)
 rcases Nat.lt_or_ge j xs.length with h | h
 ·have hx : xs[j]? = some xs[j] := by simp [h]
  have e3 : IntKind.i64.wrap ((j : Int) + 1) = (j : Int) + 1 := wrap64 (by omega) (by omega)
  have htk := take_next hx
  have hc1 : Xp.codesX M (xs.take (j + 1)) = Xp.codesX M (xs.take j) ++ xs[j].codeX M := by rw [Xp.codesX_flat, Xp.codesX_flat, htk, List.flatMap_append]; simp
  have hc2 : Xp.cnts (xs.take (j + 1)) = Xp.cnts (xs.take j) + xs[j].cnt := by rw [htk, Xp.cnts_append]; simp [Xp.cnts]
  have hc3 : Xp.cnts (xs.take (j + 1)) ≤ Xp.cnts xs := by
   have := Xp.cnts_append (xs.take (j + 1)) (xs.drop (j + 1))
   rw [List.take_append_drop] at this; omega
  have hrec := ih xs[j] (List.getElem_mem h) (hpm _ (List.getElem_mem h)) b k m (es ++ Xp.codesX M (xs.take j)) (B1 ++ [.cells [vI kd, vI vl, vI fr, vI to, vS nm, Xp.l xs], .cells (xs[j].c.map V.t)]) K1 (gb _) (gm _) b3 (by rw [List.length_append, Xp.codesX_len]; omega)
   (by refine hok1.more _ (fun n m _ _ => ?_); exact ⟨⟨LeL_refl _, rfl⟩, ⟨LeL_refl _, okNs_all (fun v hv => by obtain ⟨t, _, rfl⟩ := List.mem_map.1 hv; rfl)⟩, trivial⟩)
  have hlc := len_c xs[j]
  have htc := take_c xs[j]
  ((try simp -implicitDefEqProofs [h, e3, gz, g1, sz, hlc, htc]); repeat' first | ((with_reducible first | apply gdK_em | apply cdK_em | apply pickK_em) <;> (intro hc; have hc' := hc; (try simp at hc'); simp -implicitDefEqProofs [hc, hc', h, e3, gz, g1, sz, hlc, htc])))
  refine callKf hrec ?_
  ((try simp -implicitDefEqProofs [e3, sb]); repeat' first | ((with_reducible first | apply gdK_em | apply cdK_em | apply pickK_em) <;> (intro hc; have hc' := hc; (try simp at hc'); simp -implicitDefEqProofs [hc, hc', e3, sb])))
  have hokn := hok1.set (b := b) (m := m) (k := k) (es ++ (Xp.codesX M (xs.take j) ++ xs[j].codeX M)) (by omega) (by omega) (es.length + (Xp.codesX M (xs.take j)).length + xs[j].cnt)
  refine ⟨j + 1, B1.set b (bldX k m (es ++ (Xp.codesX M (xs.take j) ++ xs[j].codeX M))), K1.set k (es.length + (Xp.codesX M (xs.take j)).length + xs[j].cnt), ⟨by omega, ?_, ?_⟩, by omega, ⟨by simp; omega, by simp; omega⟩, ⟨?_, LeNs.refl _⟩, by simp; omega, by simp; omega, by push_cast; rfl⟩
  ·rw [hB1, List.set_set, hc1]
  ·rw [hK1, List.set_set, hc2, Xp.codesX_len, Nat.add_assoc]
  ·exact (LeBs.app' (hokn _ _ (by omega) (Nat.le_refl _))).2 ⟨⟨LeL_refl _, rfl⟩, trivial⟩
 have : j = xs.length := by omega
 subst this
 rw [List.take_length] at *
 have hkd : 1 ≤ kd ∧ kd ≤ 22 := by
  have := hsh
  unfold shpB kdB at this
  simp only [Bool.and_eq_true, decide_eq_true_eq] at this
  exact this.1.1
 obtain ⟨tabc, htab⟩ : ∃ tabc : List V, tabc = [vI 0, vI 0, vI 0, vI 5, vI 6, vI 7, vI 8, vI 10, vI 11, vI 12, vI 13, vI 14, vI 15, vI 16, vI 17, vI 18, vI 19, vI 20, vI 21, vI 22] := ⟨_, rfl⟩
 have hadd : ∀ op x y, FnS Tryz.prog 50 [.ptr b 0, vI op, vI x, vI y] ⟨B1 ++ [.cells [vI kd, vI vl, vI fr, vI to, vS nm, Xp.l xs], .cells tabc], K1⟩ (.tup [])
   ⟨B1.set b (bldX k m (es ++ Xp.codesX M xs ++ [⟨op, x, y⟩])) ++ [.cells [vI kd, vI vl, vI fr, vI to, vS nm, Xp.l xs], .cells tabc], K1.set k (es.length + Xp.cnts xs + 1)⟩ := fun op x y => by
  have := w_add b k m (es ++ Xp.codesX M xs) op x y (B1 ++ [.cells [vI kd, vI vl, vI fr, vI to, vS nm, Xp.l xs], .cells tabc]) K1 (gb _) b3 (by rw [List.length_append, Xp.codesX_len]; omega) (by simp; omega)
   (by refine hok1.more _ (fun n m _ _ => ?_); exact ⟨⟨LeL_refl _, rfl⟩, ⟨LeL_refl _, by rw [htab]; rfl⟩, trivial⟩)
  rw [sb, List.length_append, Xp.codesX_len] at this
  exact this
 have hfin : ∀ op x y, lastX M kd vl fr to nm = ⟨op, x, y⟩ → B1.set b (bldX k m (es ++ Xp.codesX M xs ++ [⟨op, x, y⟩])) = RES.boxes ∧ K1.set k (es.length + Xp.cnts xs + 1) = RES.toks := fun op x y h => by
  rw [hRES]
  simp only []
  rw [hB1, hK1, List.set_set, List.set_set, h, List.append_assoc, show es.length + (1 + Xp.cnts xs) = es.length + Xp.cnts xs + 1 by omega]
  exact ⟨rfl, rfl⟩
 have hokR : OkBK RES.boxes RES.toks := by rw [hRES]; exact hok.set _ hm hk _
 have hleR : ∀ l, LeBs RES.boxes.length RES.toks.length (RES.boxes ++ l) RES.boxes := fun l => LeBs.drop' l (hokR _ _ (Nat.le_refl _) (Nat.le_refl _))
 by_cases e1 : kd = 1
 ·subst e1
  obtain ⟨q1, q2⟩ := hfin 1 vl 0 rfl
  have ha := hadd 1 vl 0
  rw [q1, q2, htab] at ha
  ((try simp -implicitDefEqProofs [gz, g1, sz]); repeat' first | ((with_reducible first | apply gdK_em | apply cdK_em | apply pickK_em) <;> (intro hc; have hc' := hc; (try simp at hc'); simp -implicitDefEqProofs [hc, hc', gz, g1, sz])))
  refine callKf ha ?_
  ((try simp -implicitDefEqProofs [hleR, LeNs.refl]); repeat' first | ((with_reducible first | apply gdK_em | apply cdK_em | apply pickK_em) <;> (intro hc; have hc' := hc; (try simp at hc'); simp -implicitDefEqProofs [hc, hc', hleR, LeNs.refl])))
  omega
 by_cases e2 : kd = 2
 ·subst e2
  obtain ⟨q1, q2⟩ := hfin 2 (idxN M nm) 0 rfl
  have ha := hadd 2 (idxN M nm) 0
  rw [q1, q2, htab] at ha
  have hfm := findM_S vI nm L
  have hLn := hL nm
  cases hag : aget L nm with
  | none =>
   rw [hag] at hfm hLn
   simp only [Option.getD_none] at hLn
   rw [← hLn] at ha
   ((try simp -implicitDefEqProofs [gz, g1, sz, gb, gm, bldX, hfm]); repeat' first | ((with_reducible first | apply gdK_em | apply cdK_em | apply pickK_em) <;> (intro hc; have hc' := hc; (try simp at hc'); simp -implicitDefEqProofs [hc, hc', gz, g1, sz, gb, gm, bldX, hfm])))
   refine callKf ha ?_
   ((try simp -implicitDefEqProofs [hleR, LeNs.refl]); repeat' first | ((with_reducible first | apply gdK_em | apply cdK_em | apply pickK_em) <;> (intro hc; have hc' := hc; (try simp at hc'); simp -implicitDefEqProofs [hc, hc', hleR, LeNs.refl])))
   omega
  | some i =>
   rw [hag] at hfm hLn
   simp only [Option.getD_some] at hLn
   rw [← hLn] at ha
   ((try simp -implicitDefEqProofs [gz, g1, sz, gb, gm, bldX, hfm]); repeat' first | ((with_reducible first | apply gdK_em | apply cdK_em | apply pickK_em) <;> (intro hc; have hc' := hc; (try simp at hc'); simp -implicitDefEqProofs [hc, hc', gz, g1, sz, gb, gm, bldX, hfm])))
   refine callKf ha ?_
   ((try simp -implicitDefEqProofs [hleR, LeNs.refl]); repeat' first | ((with_reducible first | apply gdK_em | apply cdK_em | apply pickK_em) <;> (intro hc; have hc' := hc; (try simp at hc'); simp -implicitDefEqProofs [hc, hc', hleR, LeNs.refl])))
   omega
 by_cases e21 : kd = 21
 ·subst e21
  obtain ⟨q1, q2⟩ := hfin 3 fr to rfl
  have ha := hadd 3 fr to
  rw [q1, q2, htab] at ha
  ((try simp -implicitDefEqProofs [gz, g1, sz]); repeat' first | ((with_reducible first | apply gdK_em | apply cdK_em | apply pickK_em) <;> (intro hc; have hc' := hc; (try simp at hc'); simp -implicitDefEqProofs [hc, hc', gz, g1, sz])))
  refine callKf ha ?_
  ((try simp -implicitDefEqProofs [hleR, LeNs.refl]); repeat' first | ((with_reducible first | apply gdK_em | apply cdK_em | apply pickK_em) <;> (intro hc; have hc' := hc; (try simp at hc'); simp -implicitDefEqProofs [hc, hc', hleR, LeNs.refl])))
  omega
 by_cases e22 : kd = 22
 ·subst e22
  obtain ⟨q1, q2⟩ := hfin 4 fr to rfl
  have ha := hadd 4 fr to
  rw [q1, q2, htab] at ha
  ((try simp -implicitDefEqProofs [gz, g1, sz]); repeat' first | ((with_reducible first | apply gdK_em | apply cdK_em | apply pickK_em) <;> (intro hc; have hc' := hc; (try simp at hc'); simp -implicitDefEqProofs [hc, hc', gz, g1, sz])))
  refine callKf ha ?_
  ((try simp -implicitDefEqProofs [hleR, LeNs.refl]); repeat' first | ((with_reducible first | apply gdK_em | apply cdK_em | apply pickK_em) <;> (intro hc; have hc' := hc; (try simp at hc'); simp -implicitDefEqProofs [hc, hc', hleR, LeNs.refl])))
  omega
 by_cases e20 : kd = 20
 ·subst e20
  obtain ⟨q1, q2⟩ := hfin 9 vl 0 rfl
  have ha := hadd 9 vl 0
  rw [q1, q2, htab] at ha
  ((try simp -implicitDefEqProofs [gz, g1, sz]); repeat' first | ((with_reducible first | apply gdK_em | apply cdK_em | apply pickK_em) <;> (intro hc; have hc' := hc; (try simp at hc'); simp -implicitDefEqProofs [hc, hc', gz, g1, sz])))
  refine callKf ha ?_
  ((try simp -implicitDefEqProofs [hleR, LeNs.refl]); repeat' first | ((with_reducible first | apply gdK_em | apply cdK_em | apply pickK_em) <;> (intro hc; have hc' := hc; (try simp at hc'); simp -implicitDefEqProofs [hc, hc', hleR, LeNs.refl])))
  omega
 by_cases e3 : kd = 3
 ·subst e3
  obtain ⟨q1, q2⟩ := hfin 5 0 0 rfl
  have ha := hadd 5 0 0
  rw [q1, q2, htab] at ha
  ((try simp -implicitDefEqProofs [gz, g1, sz]); repeat' first | ((with_reducible first | apply gdK_em | apply cdK_em | apply pickK_em) <;> (intro hc; have hc' := hc; (try simp at hc'); simp -implicitDefEqProofs [hc, hc', gz, g1, sz])))
  refine callKf ha ?_
  ((try simp -implicitDefEqProofs [hleR, LeNs.refl]); repeat' first | ((with_reducible first | apply gdK_em | apply cdK_em | apply pickK_em) <;> (intro hc; have hc' := hc; (try simp at hc'); simp -implicitDefEqProofs [hc, hc', hleR, LeNs.refl])))
  omega
 by_cases e4 : kd = 4
 ·subst e4
  obtain ⟨q1, q2⟩ := hfin 6 0 0 rfl
  have ha := hadd 6 0 0
  rw [q1, q2, htab] at ha
  ((try simp -implicitDefEqProofs [gz, g1, sz]); repeat' first | ((with_reducible first | apply gdK_em | apply cdK_em | apply pickK_em) <;> (intro hc; have hc' := hc; (try simp at hc'); simp -implicitDefEqProofs [hc, hc', gz, g1, sz])))
  refine callKf ha ?_
  ((try simp -implicitDefEqProofs [hleR, LeNs.refl]); repeat' first | ((with_reducible first | apply gdK_em | apply cdK_em | apply pickK_em) <;> (intro hc; have hc' := hc; (try simp at hc'); simp -implicitDefEqProofs [hc, hc', hleR, LeNs.refl])))
  omega
 by_cases e5 : kd = 5
 ·subst e5
  obtain ⟨q1, q2⟩ := hfin 7 0 0 rfl
  have ha := hadd 7 0 0
  rw [q1, q2, htab] at ha
  ((try simp -implicitDefEqProofs [gz, g1, sz]); repeat' first | ((with_reducible first | apply gdK_em | apply cdK_em | apply pickK_em) <;> (intro hc; have hc' := hc; (try simp at hc'); simp -implicitDefEqProofs [hc, hc', gz, g1, sz])))
  refine callKf ha ?_
  ((try simp -implicitDefEqProofs [hleR, LeNs.refl]); repeat' first | ((with_reducible first | apply gdK_em | apply cdK_em | apply pickK_em) <;> (intro hc; have hc' := hc; (try simp at hc'); simp -implicitDefEqProofs [hc, hc', hleR, LeNs.refl])))
  omega
 by_cases e6 : kd = 6
 ·subst e6
  obtain ⟨q1, q2⟩ := hfin 8 0 0 rfl
  have ha := hadd 8 0 0
  rw [q1, q2, htab] at ha
  ((try simp -implicitDefEqProofs [gz, g1, sz]); repeat' first | ((with_reducible first | apply gdK_em | apply cdK_em | apply pickK_em) <;> (intro hc; have hc' := hc; (try simp at hc'); simp -implicitDefEqProofs [hc, hc', gz, g1, sz])))
  refine callKf ha ?_
  ((try simp -implicitDefEqProofs [hleR, LeNs.refl]); repeat' first | ((with_reducible first | apply gdK_em | apply cdK_em | apply pickK_em) <;> (intro hc; have hc' := hc; (try simp at hc'); simp -implicitDefEqProofs [hc, hc', hleR, LeNs.refl])))
  omega
 by_cases e7 : kd = 7
 ·subst e7
  obtain ⟨q1, q2⟩ := hfin 10 0 0 rfl
  have ha := hadd 10 0 0
  rw [q1, q2, htab] at ha
  ((try simp -implicitDefEqProofs [gz, g1, sz]); repeat' first | ((with_reducible first | apply gdK_em | apply cdK_em | apply pickK_em) <;> (intro hc; have hc' := hc; (try simp at hc'); simp -implicitDefEqProofs [hc, hc', gz, g1, sz])))
  refine callKf ha ?_
  ((try simp -implicitDefEqProofs [hleR, LeNs.refl]); repeat' first | ((with_reducible first | apply gdK_em | apply cdK_em | apply pickK_em) <;> (intro hc; have hc' := hc; (try simp at hc'); simp -implicitDefEqProofs [hc, hc', hleR, LeNs.refl])))
  omega
 by_cases e8 : kd = 8
 ·subst e8
  obtain ⟨q1, q2⟩ := hfin 11 0 0 rfl
  have ha := hadd 11 0 0
  rw [q1, q2, htab] at ha
  ((try simp -implicitDefEqProofs [gz, g1, sz]); repeat' first | ((with_reducible first | apply gdK_em | apply cdK_em | apply pickK_em) <;> (intro hc; have hc' := hc; (try simp at hc'); simp -implicitDefEqProofs [hc, hc', gz, g1, sz])))
  refine callKf ha ?_
  ((try simp -implicitDefEqProofs [hleR, LeNs.refl]); repeat' first | ((with_reducible first | apply gdK_em | apply cdK_em | apply pickK_em) <;> (intro hc; have hc' := hc; (try simp at hc'); simp -implicitDefEqProofs [hc, hc', hleR, LeNs.refl])))
  omega
 by_cases e9 : kd = 9
 ·subst e9
  obtain ⟨q1, q2⟩ := hfin 12 0 0 rfl
  have ha := hadd 12 0 0
  rw [q1, q2, htab] at ha
  ((try simp -implicitDefEqProofs [gz, g1, sz]); repeat' first | ((with_reducible first | apply gdK_em | apply cdK_em | apply pickK_em) <;> (intro hc; have hc' := hc; (try simp at hc'); simp -implicitDefEqProofs [hc, hc', gz, g1, sz])))
  refine callKf ha ?_
  ((try simp -implicitDefEqProofs [hleR, LeNs.refl]); repeat' first | ((with_reducible first | apply gdK_em | apply cdK_em | apply pickK_em) <;> (intro hc; have hc' := hc; (try simp at hc'); simp -implicitDefEqProofs [hc, hc', hleR, LeNs.refl])))
  omega
 by_cases e10 : kd = 10
 ·subst e10
  obtain ⟨q1, q2⟩ := hfin 13 0 0 rfl
  have ha := hadd 13 0 0
  rw [q1, q2, htab] at ha
  ((try simp -implicitDefEqProofs [gz, g1, sz]); repeat' first | ((with_reducible first | apply gdK_em | apply cdK_em | apply pickK_em) <;> (intro hc; have hc' := hc; (try simp at hc'); simp -implicitDefEqProofs [hc, hc', gz, g1, sz])))
  refine callKf ha ?_
  ((try simp -implicitDefEqProofs [hleR, LeNs.refl]); repeat' first | ((with_reducible first | apply gdK_em | apply cdK_em | apply pickK_em) <;> (intro hc; have hc' := hc; (try simp at hc'); simp -implicitDefEqProofs [hc, hc', hleR, LeNs.refl])))
  omega
 by_cases e11 : kd = 11
 ·subst e11
  obtain ⟨q1, q2⟩ := hfin 14 0 0 rfl
  have ha := hadd 14 0 0
  rw [q1, q2, htab] at ha
  ((try simp -implicitDefEqProofs [gz, g1, sz]); repeat' first | ((with_reducible first | apply gdK_em | apply cdK_em | apply pickK_em) <;> (intro hc; have hc' := hc; (try simp at hc'); simp -implicitDefEqProofs [hc, hc', gz, g1, sz])))
  refine callKf ha ?_
  ((try simp -implicitDefEqProofs [hleR, LeNs.refl]); repeat' first | ((with_reducible first | apply gdK_em | apply cdK_em | apply pickK_em) <;> (intro hc; have hc' := hc; (try simp at hc'); simp -implicitDefEqProofs [hc, hc', hleR, LeNs.refl])))
  omega
 by_cases e12 : kd = 12
 ·subst e12
  obtain ⟨q1, q2⟩ := hfin 15 0 0 rfl
  have ha := hadd 15 0 0
  rw [q1, q2, htab] at ha
  ((try simp -implicitDefEqProofs [gz, g1, sz]); repeat' first | ((with_reducible first | apply gdK_em | apply cdK_em | apply pickK_em) <;> (intro hc; have hc' := hc; (try simp at hc'); simp -implicitDefEqProofs [hc, hc', gz, g1, sz])))
  refine callKf ha ?_
  ((try simp -implicitDefEqProofs [hleR, LeNs.refl]); repeat' first | ((with_reducible first | apply gdK_em | apply cdK_em | apply pickK_em) <;> (intro hc; have hc' := hc; (try simp at hc'); simp -implicitDefEqProofs [hc, hc', hleR, LeNs.refl])))
  omega
 by_cases e13 : kd = 13
 ·subst e13
  obtain ⟨q1, q2⟩ := hfin 16 0 0 rfl
  have ha := hadd 16 0 0
  rw [q1, q2, htab] at ha
  ((try simp -implicitDefEqProofs [gz, g1, sz]); repeat' first | ((with_reducible first | apply gdK_em | apply cdK_em | apply pickK_em) <;> (intro hc; have hc' := hc; (try simp at hc'); simp -implicitDefEqProofs [hc, hc', gz, g1, sz])))
  refine callKf ha ?_
  ((try simp -implicitDefEqProofs [hleR, LeNs.refl]); repeat' first | ((with_reducible first | apply gdK_em | apply cdK_em | apply pickK_em) <;> (intro hc; have hc' := hc; (try simp at hc'); simp -implicitDefEqProofs [hc, hc', hleR, LeNs.refl])))
  omega
 by_cases e14 : kd = 14
 ·subst e14
  obtain ⟨q1, q2⟩ := hfin 17 0 0 rfl
  have ha := hadd 17 0 0
  rw [q1, q2, htab] at ha
  ((try simp -implicitDefEqProofs [gz, g1, sz]); repeat' first | ((with_reducible first | apply gdK_em | apply cdK_em | apply pickK_em) <;> (intro hc; have hc' := hc; (try simp at hc'); simp -implicitDefEqProofs [hc, hc', gz, g1, sz])))
  refine callKf ha ?_
  ((try simp -implicitDefEqProofs [hleR, LeNs.refl]); repeat' first | ((with_reducible first | apply gdK_em | apply cdK_em | apply pickK_em) <;> (intro hc; have hc' := hc; (try simp at hc'); simp -implicitDefEqProofs [hc, hc', hleR, LeNs.refl])))
  omega
 by_cases e15 : kd = 15
 ·subst e15
  obtain ⟨q1, q2⟩ := hfin 18 0 0 rfl
  have ha := hadd 18 0 0
  rw [q1, q2, htab] at ha
  ((try simp -implicitDefEqProofs [gz, g1, sz]); repeat' first | ((with_reducible first | apply gdK_em | apply cdK_em | apply pickK_em) <;> (intro hc; have hc' := hc; (try simp at hc'); simp -implicitDefEqProofs [hc, hc', gz, g1, sz])))
  refine callKf ha ?_
  ((try simp -implicitDefEqProofs [hleR, LeNs.refl]); repeat' first | ((with_reducible first | apply gdK_em | apply cdK_em | apply pickK_em) <;> (intro hc; have hc' := hc; (try simp at hc'); simp -implicitDefEqProofs [hc, hc', hleR, LeNs.refl])))
  omega
 by_cases e16 : kd = 16
 ·subst e16
  obtain ⟨q1, q2⟩ := hfin 19 0 0 rfl
  have ha := hadd 19 0 0
  rw [q1, q2, htab] at ha
  ((try simp -implicitDefEqProofs [gz, g1, sz]); repeat' first | ((with_reducible first | apply gdK_em | apply cdK_em | apply pickK_em) <;> (intro hc; have hc' := hc; (try simp at hc'); simp -implicitDefEqProofs [hc, hc', gz, g1, sz])))
  refine callKf ha ?_
  ((try simp -implicitDefEqProofs [hleR, LeNs.refl]); repeat' first | ((with_reducible first | apply gdK_em | apply cdK_em | apply pickK_em) <;> (intro hc; have hc' := hc; (try simp at hc'); simp -implicitDefEqProofs [hc, hc', hleR, LeNs.refl])))
  omega
 by_cases e17 : kd = 17
 ·subst e17
  obtain ⟨q1, q2⟩ := hfin 20 0 0 rfl
  have ha := hadd 20 0 0
  rw [q1, q2, htab] at ha
  ((try simp -implicitDefEqProofs [gz, g1, sz]); repeat' first | ((with_reducible first | apply gdK_em | apply cdK_em | apply pickK_em) <;> (intro hc; have hc' := hc; (try simp at hc'); simp -implicitDefEqProofs [hc, hc', gz, g1, sz])))
  refine callKf ha ?_
  ((try simp -implicitDefEqProofs [hleR, LeNs.refl]); repeat' first | ((with_reducible first | apply gdK_em | apply cdK_em | apply pickK_em) <;> (intro hc; have hc' := hc; (try simp at hc'); simp -implicitDefEqProofs [hc, hc', hleR, LeNs.refl])))
  omega
 by_cases e18 : kd = 18
 ·subst e18
  obtain ⟨q1, q2⟩ := hfin 21 0 0 rfl
  have ha := hadd 21 0 0
  rw [q1, q2, htab] at ha
  ((try simp -implicitDefEqProofs [gz, g1, sz]); repeat' first | ((with_reducible first | apply gdK_em | apply cdK_em | apply pickK_em) <;> (intro hc; have hc' := hc; (try simp at hc'); simp -implicitDefEqProofs [hc, hc', gz, g1, sz])))
  refine callKf ha ?_
  ((try simp -implicitDefEqProofs [hleR, LeNs.refl]); repeat' first | ((with_reducible first | apply gdK_em | apply cdK_em | apply pickK_em) <;> (intro hc; have hc' := hc; (try simp at hc'); simp -implicitDefEqProofs [hc, hc', hleR, LeNs.refl])))
  omega
 by_cases e19 : kd = 19
 ·subst e19
  obtain ⟨q1, q2⟩ := hfin 22 0 0 rfl
  have ha := hadd 22 0 0
  rw [q1, q2, htab] at ha
  ((try simp -implicitDefEqProofs [gz, g1, sz]); repeat' first | ((with_reducible first | apply gdK_em | apply cdK_em | apply pickK_em) <;> (intro hc; have hc' := hc; (try simp at hc'); simp -implicitDefEqProofs [hc, hc', gz, g1, sz])))
  refine callKf ha ?_
  ((try simp -implicitDefEqProofs [hleR, LeNs.refl]); repeat' first | ((with_reducible first | apply gdK_em | apply cdK_em | apply pickK_em) <;> (intro hc; have hc' := hc; (try simp at hc'); simp -implicitDefEqProofs [hc, hc', hleR, LeNs.refl])))
  omega
 exfalso; omega
end Go.Proofs.YtpggidmbnjfmaaaGreatDoor
end

/- Chapter 34: compile.rule, Compile. -/
section
set_option linter.unusedSimpArgs false
set_option linter.unusedVariables false
set_option maxHeartbeats 4000000
set_option maxRecDepth 8000
namespace Go.Proofs.YtpggidmbnjfmaaaGreatDoor
open E

def locA : Nat → List (List UInt8) → List (List UInt8 × Int)
 | _, [] => []
 | i, s :: l => (s, (i : Int)) :: locA (i + 1) l
theorem locA_len : ∀ (i : Nat) (l : List (List UInt8)), (locA i l).length = l.length
 | _, [] => rfl
 | i, s :: l => by rw [locA, List.length_cons, locA_len, List.length_cons]
theorem idxF_not {s : List UInt8} : ∀ (l : List (List UInt8)) (i : Nat) (c : Int), s ∉ l → idxF s i l c = c
 | [], _, _, _ => rfl
 | z :: l, i, c, h => by
  rw [idxF, if_neg (fun e => h (by rw [e]; simp)), idxF_not l _ _ (fun e => h (by simp [e]))]
theorem aget_locA {s : List UInt8} : ∀ (l : List (List UInt8)) (i : Nat), l.Nodup → (aget (locA i l) s).getD 0 = idxF s i l 0
 | [], i, _ => rfl
 | y :: l, i, h => by
  have h' := List.nodup_cons.1 h
  rw [locA, aget, idxF]
  by_cases e : s = y
  ·subst e
   rw [if_pos rfl, if_pos rfl, idxF_not l _ _ h'.1]; rfl
  ·rw [if_neg e, if_neg (Ne.symm e)]
   exact aget_locA l (i + 1) h'.2
theorem aset_locA {s : List UInt8} : ∀ (l : List (List UInt8)) (i : Nat), s ∉ l → aset (locA i l) s ((i + l.length : Nat) : Int) = locA i (l ++ [s])
 | [], i, _ => rfl
 | y :: l, i, h => by
  have h1 : ¬ s = y := fun e => h (by rw [e]; simp)
  have := aset_locA l (i + 1) (fun e => h (List.mem_cons_of_mem _ e))
  rw [List.cons_append, locA, locA, aset, if_neg h1, ← this, List.length_cons, show i + (l.length + 1) = i + 1 + l.length by omega]
def locL (M : List (List UInt8)) : List (List UInt8 × Int) := locA 0 M
theorem aget_locL {M : List (List UInt8)} (h : M.Nodup) (s : List UInt8) : (aget (locL M) s).getD 0 = idxN M s := aget_locA M 0 h
theorem aset_locL {M : List (List UInt8)} {s : List UInt8} (h : s ∉ M) : aset (locL M) s (M.length : Int) = locL (M ++ [s]) := by
 have := aset_locA M 0 h
 rw [Nat.zero_add] at this
 exact this
theorem leB_mp {n m : Nat} (L : List (List UInt8 × Int)) : leB n m (mpL L) (mpL L) := ⟨rfl, okNs_all (fun v hv => by obtain ⟨p, hp, rfl⟩ := List.mem_map.1 hv; obtain ⟨q, _, rfl⟩ := List.mem_map.1 hp; rfl), okNs_all (fun v hv => by obtain ⟨p, hp, rfl⟩ := List.mem_map.1 hv; obtain ⟨q, _, rfl⟩ := List.mem_map.1 hp; rfl)⟩
theorem codeSs_le (ss : List Stm) (M : List (List UInt8)) (k : Nat) : (codeSs M (ss.take k)).length ≤ ss.length + cntS ss := by
 rw [codeSs_len]
 have h1 : (ss.take k).length ≤ ss.length := by simp; omega
 have h2 : cntS (ss.take k) ≤ cntS ss := by
  have := List.take_append_drop k ss
  conv => rhs; rw [← this]
  unfold cntS
  rw [List.map_append, List.sum_append]; omega
 omega
theorem cntS_mem {ss : List Stm} {s : Stm} (h : s ∈ ss) : s.ex.cnt ≤ cntS ss := by
 induction ss with
 | nil => cases h
 | cons y ss ih =>
  unfold cntS at ih ⊢
  rw [List.map_cons, List.sum_cons]
  rcases List.mem_cons.1 h with rfl | h
  ·omega
  ·have := ih h; omega
theorem stmE_fresh {known : Int → Bool} {M : List (List UInt8)} {pair : Bool} {s : Stm} (h : stmE known (memB M) pair s = 0) (hk : s.kind = 1) : s.name ∉ M := by
 intro hm
 unfold stmE at h
 split at h
 ·rename_i q; exact absurd h q
 split at h
 ·exact absurd h (by decide)
 rename_i h3
 rw [if_pos ⟨hk, by simpa [memB] using hm⟩] at h
 exact absurd h (by decide)
theorem cX (k m : Nat) (e : List Ins) : cellsX (bldX k m e) = some [.own k 54 3 (e.map Ins.c), .mp m] := rfl
theorem w_crule (known : Int → Bool) (r : Rul) (hb : rulB r = true) (he : rulE known r = 0) (hlen : cntS r.stmts ≤ 100000) : Pure Tryz.prog 20 [r.v] (codeR r).v := by
 obtain ⟨nm, pair, ss, to⟩ := r
 unfold rulB at hb
 simp only [Bool.and_eq_true, decide_eq_true_eq, List.all_eq_true] at hb hlen
 obtain ⟨⟨⟨_, hss⟩, hto⟩, hst⟩ := hb
 have h0 : stmsE known pair [] ss = 0 := by
  unfold rulE at he
  simp only [] at he
  split at he
  ·rename_i q; exact absurd he q
  ·rename_i q; simpa using q
 have hrc : Rul.c ⟨nm, pair, ss, to⟩ = [T.str nm, T.bool pair, T.sl (ss.map Stm.c), T.int .i64 to] := rfl
 obtain ⟨RES, hRES⟩ : ∃ RES, RES = (codeR ⟨nm, pair, ss, to⟩).v := ⟨_, rfl⟩
 rw [← hRES]
 (refine Pure.of_code mix Tryz.call20 k_20 (by simp) (fun hB => ?_); (try simp at hB); (try simp -implicitDefEqProofs [qc_20]))
 ((try simp -implicitDefEqProofs [hrc]); repeat' first | ((with_reducible first | apply gdK_em | apply cdK_em | apply pickK_em) <;> (intro hc; have hc' := hc; (try simp at hc'); simp -implicitDefEqProofs [hc, hc', hrc])))
 refine loop_grow [(.cell 3 0, 54, 3)] (X := Nat) (fun k => k ≤ ss.length ∧ (namesOf (ss.take k)).Nodup ∧ stmsE known pair (namesOf (ss.take k)) (ss.drop k) = 0)
  (fun k => [(1, .ptr 0 0), (2, .ptr 1 0), (3, .ptr 3 0), (10, Stm.l ss), (11, vI ss.length), (12, vI k)])
  (fun k => ⟨[.cells [vS nm, vB pair, Stm.l ss, vI to], .cells [vS [], vB false, .snil], mpL (locL (namesOf (ss.take k))), bldX 0 2 (codeSs [] (ss.take k))], [(codeSs [] (ss.take k)).length]⟩) (fun k => ss.length - k) 0 ⟨by simp, by simp [namesOf], by simpa [namesOf] using h0⟩ ?_ ?_
 ·simp [namesOf, locL, locA, bldX, codeSs]
 rintro k ⟨hk, hnd, hi⟩ hbd
 clear hbd
 have hcl := codeSs_le ss [] k
 rcases Nat.lt_or_ge k ss.length with h | h
 ·have hx : ss[k]? = some ss[k] := by simp [h]
  have e3 : IntKind.i64.wrap ((k : Int) + 1) = (k : Int) + 1 := wrap64 (by omega) (by omega)
  rw [stmsE_at hx] at hi
  have hse : stmE known (memB (namesOf (ss.take k))) pair ss[k] = 0 := by
   by_cases q : stmE known (memB (namesOf (ss.take k))) pair ss[k] = 0
   ·exact q
   ·rw [if_pos q] at hi; exact absurd hi q
  rw [if_neg (by simpa using hse)] at hi
  have hnn := namesOf_next hx
  have hcn := codeSs_next (M := []) hx
  rw [List.nil_append] at hcn
  obtain ⟨hpx, hkd⟩ := stmB_of (hst _ (List.getElem_mem h))
  have hxc := cntS_mem (List.getElem_mem h)
  have hfr := fun hk1 => stmE_fresh hse hk1
  have hlt := lt_of_get hx
  generalize hMM : namesOf (ss.take k) = M at *
  generalize hEE : codeSs [] (ss.take k) = es at *
  obtain ⟨kd, acc, sn, x, hs⟩ : ∃ kd acc sn x, ss[k] = ⟨kd, acc, sn, x⟩ := ⟨_, _, _, _, rfl⟩
  have hsk : (ss.map Stm.c)[k]? = some (.int .i64 kd :: .int .i64 acc :: .str sn :: x.c) := by simp [h, hs, Stm.c]
  have hcc : Stm.c ⟨kd, acc, sn, x⟩ = (.int .i64 kd :: .int .i64 acc :: .str sn :: x.c) := rfl
  have hlc := len_c x
  have htc := take_c x
  rw [hs] at hpx hkd hxc hfr hi hnn hcn
  simp only [] at hpx hkd hxc hfr
  have hok : ∀ (e2 : List Ins) (j : Nat), OkBK [.cells [vS nm, vB pair, Stm.l ss, vI to], .cells [vS [], vB false, .snil], mpL (locL M), bldX 0 2 e2, .cells (vI kd :: vI acc :: vS sn :: x.c.map V.t)] [j] := fun e2 j n m hn hm => by
   simp only [List.length_cons, List.length_nil] at hn hm
   exact ⟨⟨LeL_refl _, rfl⟩, ⟨LeL_refl _, rfl⟩, leB_mp _, leB_bld _ (by omega) (by omega), ⟨LeL_refl _, okNs_all (fun v hv => by
    rcases List.mem_cons.1 hv with rfl | hv
    ·rfl
    rcases List.mem_cons.1 hv with rfl | hv
    ·rfl
    rcases List.mem_cons.1 hv with rfl | hv
    ·rfl
    obtain ⟨t, _, rfl⟩ := List.mem_map.1 hv; rfl)⟩, trivial⟩
  have hexp := w_bexpr M (locL M) (fun n => aget_locL hnd n) x hpx 3 0 2 es _ [es.length] rfl rfl rfl (by omega) (hok es es.length)
  have hadd := fun (e2 : List Ins) (op a b : Int) (hl : e2.length ≤ 1000000) => w_add 3 0 2 e2 op a b _ [e2.length] rfl rfl hl (by simp) (hok e2 e2.length)
  have hxl : (es ++ x.codeX M).length = es.length + x.cnt := by rw [List.length_append, Xp.codeX_len]
  have hadd2 := fun op a b => hadd (es ++ x.codeX M) op a b (by omega)
  simp only [List.set_cons_succ, List.set_cons_zero, hxl] at hexp hadd2
  have hmsl : (mS vI (locL M)).length = M.length := by simp [mS, locL, locA_len]
  rcases hkd with rfl | rfl | rfl
  ·have hN : namesOf [⟨1, acc, sn, x⟩] = [sn] := rfl
   rw [hN] at hnn hi
   have hcn' : codeSs [] (ss.take (k + 1)) = es ++ x.codeX M ++ [⟨23, M.length, 0⟩] := by rw [hcn, List.append_assoc]; rfl
   have hsn := hfr rfl
   have hnd' : (M ++ [sn]).Nodup := by
    rw [List.nodup_append]
    exact ⟨hnd, by simp, fun a ha b hb e => by simp at hb; subst hb; subst e; exact hsn ha⟩
   have hsm := setM_S vI sn (M.length : Int) (locL M)
   rw [aset_locL hsn] at hsm
   have hml2 : (mS vI (locL (M ++ [sn]))).length ≤ maxLen := by
    have := namesOf_len (ss.take (k + 1))
    rw [hnn] at this
    simp [mS, locL, locA_len, maxLen] at this ⊢
    omega
   ((try simp -implicitDefEqProofs [h, hs, hsk, hcc, hlc, htc]); repeat' first | ((with_reducible first | apply gdK_em | apply cdK_em | apply pickK_em) <;> (intro hc; have hc' := hc; (try simp at hc'); simp -implicitDefEqProofs [hc, hc', h, hs, hsk, hcc, hlc, htc])))
   refine callKf hexp ?_
   ((try simp -implicitDefEqProofs [h, hmsl, cX, mpL]); repeat' first | ((with_reducible first | apply gdK_em | apply cdK_em | apply pickK_em) <;> (intro hc; have hc' := hc; (try simp at hc'); simp -implicitDefEqProofs [hc, hc', h, hmsl, cX, mpL])))
   refine callKf (hadd2 23 M.length 0) ?_
   ((try simp -implicitDefEqProofs [h, e3, cX, mpL, hmsl, hsm, hml2]); repeat' first | ((with_reducible first | apply gdK_em | apply cdK_em | apply pickK_em) <;> (intro hc; have hc' := hc; (try simp at hc'); simp -implicitDefEqProofs [hc, hc', h, e3, cX, mpL, hmsl, hsm, hml2])))
   exact ⟨by have := hml2; simpa [mS] using this, k + 1, ⟨by omega, by rw [hnn]; exact hnd', by rw [hnn]; exact hi⟩, by omega, ⟨⟨⟨by rw [hnn], okNs_all (fun v hv => by obtain ⟨p, _, rfl⟩ := List.mem_map.1 hv; rfl), okNs_all (fun v hv => by obtain ⟨p, _, rfl⟩ := List.mem_map.1 hv; rfl)⟩, by rw [hcn', List.append_assoc]; exact leB_bld _ (by omega) (by omega)⟩, by rw [hcn', List.length_append, hxl]; rfl⟩, by push_cast; rfl⟩
  ·have hN : namesOf [⟨2, acc, sn, x⟩] = [] := rfl
   rw [hN] at hnn hi
   have hcn' : codeSs [] (ss.take (k + 1)) = es ++ x.codeX M ++ [⟨24, 0, 0⟩] := by rw [hcn, List.append_assoc]; rfl
   rw [List.append_nil] at hnn hi
   have hnd' := hnd
   ((try simp -implicitDefEqProofs [h, hs, hsk, hcc, hlc, htc]); repeat' first | ((with_reducible first | apply gdK_em | apply cdK_em | apply pickK_em) <;> (intro hc; have hc' := hc; (try simp at hc'); simp -implicitDefEqProofs [hc, hc', h, hs, hsk, hcc, hlc, htc])))
   refine callKf hexp ?_
   ((try simp -implicitDefEqProofs [h, hmsl, cX, mpL]); repeat' first | ((with_reducible first | apply gdK_em | apply cdK_em | apply pickK_em) <;> (intro hc; have hc' := hc; (try simp at hc'); simp -implicitDefEqProofs [hc, hc', h, hmsl, cX, mpL])))
   refine callKf (hadd2 24 0 0) ?_
   ((try simp -implicitDefEqProofs [h, e3, cX, mpL]); repeat' first | ((with_reducible first | apply gdK_em | apply cdK_em | apply pickK_em) <;> (intro hc; have hc' := hc; (try simp at hc'); simp -implicitDefEqProofs [hc, hc', h, e3, cX, mpL])))
   exact ⟨k + 1, ⟨by omega, by rw [hnn]; exact hnd', by rw [hnn]; exact hi⟩, by omega, ⟨⟨⟨by rw [hnn], okNs_all (fun v hv => by obtain ⟨p, _, rfl⟩ := List.mem_map.1 hv; rfl), okNs_all (fun v hv => by obtain ⟨p, _, rfl⟩ := List.mem_map.1 hv; rfl)⟩, by rw [hcn', List.append_assoc]; exact leB_bld _ (by omega) (by omega)⟩, by rw [hcn', List.length_append, hxl]; rfl⟩, by push_cast; rfl⟩
  ·have hN : namesOf [⟨3, acc, sn, x⟩] = [] := rfl
   rw [hN] at hnn hi
   have hcn' : codeSs [] (ss.take (k + 1)) = es ++ x.codeX M ++ [⟨25, acc, 0⟩] := by rw [hcn, List.append_assoc]; rfl
   rw [List.append_nil] at hnn hi
   have hnd' := hnd
   ((try simp -implicitDefEqProofs [h, hs, hsk, hcc, hlc, htc]); repeat' first | ((with_reducible first | apply gdK_em | apply cdK_em | apply pickK_em) <;> (intro hc; have hc' := hc; (try simp at hc'); simp -implicitDefEqProofs [hc, hc', h, hs, hsk, hcc, hlc, htc])))
   refine callKf hexp ?_
   ((try simp -implicitDefEqProofs [h, hmsl, cX, mpL]); repeat' first | ((with_reducible first | apply gdK_em | apply cdK_em | apply pickK_em) <;> (intro hc; have hc' := hc; (try simp at hc'); simp -implicitDefEqProofs [hc, hc', h, hmsl, cX, mpL])))
   refine callKf (hadd2 25 acc 0) ?_
   ((try simp -implicitDefEqProofs [h, e3, cX, mpL]); repeat' first | ((with_reducible first | apply gdK_em | apply cdK_em | apply pickK_em) <;> (intro hc; have hc' := hc; (try simp at hc'); simp -implicitDefEqProofs [hc, hc', h, e3, cX, mpL])))
   exact ⟨k + 1, ⟨by omega, by rw [hnn]; exact hnd', by rw [hnn]; exact hi⟩, by omega, ⟨⟨⟨by rw [hnn], okNs_all (fun v hv => by obtain ⟨p, _, rfl⟩ := List.mem_map.1 hv; rfl), okNs_all (fun v hv => by obtain ⟨p, _, rfl⟩ := List.mem_map.1 hv; rfl)⟩, by rw [hcn', List.append_assoc]; exact leB_bld _ (by omega) (by omega)⟩, by rw [hcn', List.length_append, hxl]; rfl⟩, by push_cast; rfl⟩
 ·have : k = ss.length := by omega
  subst this
  rw [List.take_length] at *
  generalize hMM : namesOf ss = M at *
  generalize hEE : codeSs [] ss = es at *
  have hok : OkBK [.cells [vS nm, vB pair, Stm.l ss, vI to], .cells [vS [], vB false, .snil], mpL (locL M), bldX 0 2 es] [es.length] := fun n m hn hm => by
   simp only [List.length_cons, List.length_nil] at hn hm
   exact ⟨⟨LeL_refl _, rfl⟩, ⟨LeL_refl _, rfl⟩, leB_mp _, leB_bld _ (by omega) (by omega), trivial⟩
  have hadd := w_add 3 0 2 es 26 to 0 _ [es.length] rfl rfl (by omega) (by simp) hok
  simp only [List.set_cons_succ, List.set_cons_zero] at hadd
  have hR : RES = .agg [vS nm, vB pair, .t (.sl ((es ++ [(⟨26, to, 0⟩ : Ins)]).map Ins.c))] := by
   rw [hRES]
   simp only [codeR, hEE]
   rfl
  rw [hR]
  ((try simp -implicitDefEqProofs); repeat' first | ((with_reducible first | apply gdK_em | apply cdK_em | apply pickK_em) <;> (intro hc; have hc' := hc; (try simp at hc'); simp -implicitDefEqProofs [hc, hc'])))
  refine callKf hadd ?_
  ((try simp -implicitDefEqProofs [cX]); repeat' first | ((with_reducible first | apply gdK_em | apply cdK_em | apply pickK_em) <;> (intro hc; have hc' := hc; (try simp at hc'); simp -implicitDefEqProofs [hc, hc', cX])))
theorem rulsE_all {known : Int → Bool} : ∀ (p : List Rul) (M : List (List UInt8)) (i : Nat), (rulsE known M i p).2 = 0 → ∀ r ∈ p, rulE known r = 0
 | [], M, i, _, r, hr => by cases hr
 | y :: p, M, i, h, r, hr => by
  rw [rulsE] at h
  split at h
  ·exact absurd h (by simp)
  split at h
  ·rename_i h1; exact absurd h h1
  ·rename_i h1
   rcases List.mem_cons.1 hr with rfl | hr
   ·simpa using h1
   ·exact rulsE_all p _ _ h r hr
theorem chkR_all {p : List Rul} {l : List Account} (h : (chkR p l).2 = 0) : ∀ r ∈ p, rulB r = true ∧ rulE (knownB l) r = 0 := by
 unfold chkR at h
 split at h
 ·rename_i q
  intro r hr
  have hv := q.1
  unfold prgB at hv
  simp only [Bool.and_eq_true, List.all_eq_true] at hv
  exact ⟨hv.1 r hr, rulsE_all p [] 0 h r hr⟩
 ·exact absurd h (by simp)
theorem w_Compile (p : List Rul) (l : List Account) (hc : ∀ r ∈ p, ∀ s ∈ r.stmts, s.ex.cnt ≤ 1000) (hss : ∀ r ∈ p, cntS r.stmts ≤ 100000) (hp : p.length ≤ 1000) (hl : l.length ≤ 1000000) :
  Pure Tryz.prog 7 [Rul.l p, Account.l l] (.tup [.t (.sl ((cmpR p l).1.map Code.c)), vI (cmpR p l).2.1, vI (cmpR p l).2.2]) := by
 have hchk := w_Check p l (fun r hr s hs => by have := hc r hr s hs; omega) hl
 unfold cmpR
 by_cases h0 : (chkR p l).2 = 0
 case neg =>
  rw [if_neg h0]
  generalize chkR p l = q at *
  have h1 : (q.2 == 0) = false := by simpa using h0
  have h2 : (q.2 != 0) = true := by simpa using h0
  (refine Pure.of_code mix Tryz.call7 k_7 (by simp) (fun hB => ?_); (try simp at hB); (try simp -implicitDefEqProofs [qc_7]))
  ((try simp at hchk); (try simp -implicitDefEqProofs [h0, h1, h2]); repeat' first | ((with_reducible first | apply gdK_em | apply cdK_em | apply pickK_em) <;> (intro hc; have hc' := hc; (try simp at hc'); simp -implicitDefEqProofs [hc, hc', h0, h1, h2])) | (with_reducible apply callK_pure <;> first | (simp only [eras, era, eras_map]; first | with_reducible exact hchk | simpa using hchk) | (simp -implicitDefEqProofs [h0, h1, h2])))
 rw [if_pos h0]
 have hall := chkR_all h0
 rw [h0] at hchk
 obtain ⟨L, hL⟩ : ∃ L, L = (p.map codeR).map Code.c := ⟨_, rfl⟩
 have hLl : L.length = p.length := by rw [hL]; simp
 simp only []
 rw [← hL]
 (refine Pure.of_code mix Tryz.call7 k_7 (by simp) (fun hB => ?_); (try simp at hB); (try simp -implicitDefEqProofs [qc_7]))
 ((try simp at hchk); (try simp -implicitDefEqProofs); repeat' first | ((with_reducible first | apply gdK_em | apply cdK_em | apply pickK_em) <;> (intro hc; have hc' := hc; (try simp at hc'); simp -implicitDefEqProofs [hc, hc'])) | (with_reducible apply callK_pure <;> first | (simp only [eras, era, eras_map]; first | with_reducible exact hchk | simpa using hchk) | (simp -implicitDefEqProofs)))
 refine loop_grow [(.slot 9, 40, 3)] (X := Nat) (fun k => k ≤ p.length) (fun k => [(9, .own 0 40 3 (L.take k)), (22, Rul.l p), (23, vI p.length), (24, vI k)])
  (fun k => ⟨[], [k]⟩) (fun k => p.length - k) 0 (by simp) (by simp) ?_
 rintro k hk hbd
 clear hbd
 rcases Nat.lt_or_ge k p.length with h | h
 ·have hx : p[k]? = some p[k] := by simp [h]
  have e3 : IntKind.i64.wrap ((k : Int) + 1) = (k : Int) + 1 := wrap64 (by omega) (by omega)
  obtain ⟨q1, q2⟩ := hall p[k] (List.getElem_mem h)
  have hrule := w_crule (knownB l) p[k] q1 q2 (hss _ (List.getElem_mem h))
  have hrv : L.take (k + 1) = L.take k ++ [(codeR p[k]).c] := take_next (by rw [hL]; simp [h])
  have hmin : min k L.length = k := by omega
  obtain ⟨nm, pr, ss, to, hr⟩ : ∃ nm pr ss to, p[k] = ⟨nm, pr, ss, to⟩ := ⟨_, _, _, _, rfl⟩
  have hrk : (p.map Rul.c)[k]? = some [.str nm, .bool pr, .sl (ss.map Stm.c), .int .i64 to] := by simp [h, hr, Rul.c]
  have hcc : p[k].c = [.str nm, .bool pr, .sl (ss.map Stm.c), .int .i64 to] := by rw [hr]; rfl
  have hcd : (codeR p[k]).c = [.str (codeR p[k]).name, .bool (codeR p[k]).pair, .sl ((codeR p[k]).ins.map Ins.c)] := rfl
  rw [Rul.v, hcc] at hrule
  generalize codeR p[k] = cd at *
  obtain ⟨cn, cp, ci⟩ := cd
  simp only [List.map] at hrule
  ((try simp at hrule); (try simp -implicitDefEqProofs [h, hrk, hcc, e3, hmin]); repeat' first | ((with_reducible first | apply gdK_em | apply cdK_em | apply pickK_em) <;> (intro hc; have hc' := hc; (try simp at hc'); simp -implicitDefEqProofs [hc, hc', h, hrk, hcc, e3, hmin])) | (with_reducible apply callK_pure <;> first | (simp only [eras, era, eras_map]; first | with_reducible exact hrule | simpa using hrule) | (simp -implicitDefEqProofs [h, hrk, hcc, e3, hmin])))
  exact ⟨⟨by unfold maxLen; omega, by omega⟩, k + 1, by omega, by omega, rfl, by rw [hrv]; exact leA.refl _, by push_cast; rfl⟩
 ·have : k = p.length := by omega
  subst this
  have ht : L.take p.length = L := List.take_of_length_le (by omega)
  ((try simp -implicitDefEqProofs [ht]); repeat' first | ((with_reducible first | apply gdK_em | apply cdK_em | apply pickK_em) <;> (intro hc; have hc' := hc; (try simp at hc'); simp -implicitDefEqProofs [hc, hc', ht])))
end Go.Proofs.YtpggidmbnjfmaaaGreatDoor
end
