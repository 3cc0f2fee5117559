/- Chapter 34: the builder's add. -/
import Derived.Test.YtckffbklaepmpaaDoorCps
import Derived.Test.YtckffbklaepmpaaDoorExp
import Derived.Test.YtckffbklaepmpaaDoorBld
set_option linter.unusedSimpArgs false
set_option linter.unusedVariables false
set_option maxHeartbeats 4000000
set_option maxRecDepth 8000
namespace Go.Proofs.YtckffbklaepmpaaDoor
open E

/-- The builder's box. -/
def bldX (k m : Nat) (es : List Ins) : Bx := .cells [.own k 51 3 (es.map Ins.c), .mp m]
/-- Boxes and tokens that name no others than those there are. -/
def OkBK (B : List Bx) (K : List Nat) : Prop := ∀ n m, B.length ≤ n → K.length ≤ m → LeBs n m B B
theorem leB_bld {n h : Nat} {k m : Nat} (es : List Ins) (hm : m < n) (hk : k < h) : leB n h (bldX k m es) (bldX k m es) := by
  unfold bldX
  simp [leB, LeL_refl, okNs, okN, hm, hk]
theorem OkBK.set {B : List Bx} {K : List Nat} {b k m : Nat} (h : OkBK B K) (es : List Ins) (hm : m < B.length) (hk : k < K.length) (j : Nat) : OkBK (B.set b (bldX k m es)) (K.set k j) := fun n h' hn hh => by
  rw [List.length_set] at hn hh
  exact LeBs.setR (leB_bld es (by omega) (by omega)) b (h n h' hn hh)
theorem OkBK.more {B : List Bx} {K : List Nat} (h : OkBK B K) (l : List Bx) (hl : ∀ n m, B.length + l.length ≤ n → K.length ≤ m → LeBs n m l l) : OkBK (B ++ l) K := fun n m hn hm => by
  rw [List.length_append] at hn
  exact (LeBs.app' (h n m (by omega) hm)).2 (hl n m hn hm)
theorem w_add (b k m : Nat) (es : List Ins) (op x y : Int) (B : List Bx) (K : List Nat) (hB : B[b]? = some (bldX k m es)) (hK : K[k]? = some es.length) (hl : es.length ≤ 1000000) (hm : m < B.length) (hok : OkBK B K) :
    FnS Tryd.prog 32 [.ptr b 0, vI op, vI x, vI y] ⟨B, K⟩ (.tup []) ⟨B.set b (bldX k m (es ++ [⟨op, x, y⟩])), K.set k (es.length + 1)⟩ := by
  have hb : b < B.length := (List.getElem?_eq_some_iff.1 hB).1
  have hk : k < K.length := (List.getElem?_eq_some_iff.1 hK).1
  have hfin : LeBs B.length K.length (B.set b (bldX k m (es ++ [⟨op, x, y⟩]))) (B.set b (bldX k m (es ++ [⟨op, x, y⟩]))) := LeBs.setR (leB_bld _ hm hk) b (hok _ _ (Nat.le_refl _) (Nat.le_refl _))
  have hkk : K[k] = es.length := by simpa [hk] using hK
  unfold bldX at hB hfin ⊢
  have hBe := hB
  rw [List.getElem?_eq_getElem hb] at hBe
  have hBe := Option.some.inj hBe
  (refine FnS.of_code mix Tryd.call32 k_32 (by simp) (fun hB => ?_); (try simp at hB); (try simp -implicitDefEqProofs [c_compile_builder__add_32]))
  ((try simp -implicitDefEqProofs [hB, hBe, hb, hk, hK, hkk]); repeat' first | ((first | with_reducible refine gdK_em (fun hc => ?_) (fun hc => ?_) | with_reducible refine cdK_em (fun hc => ?_) (fun hc => ?_) | with_reducible refine pickK_em (fun hc => ?_) (fun hc => ?_)) <;> (have hc' := hc; (try simp at hc'); simp -implicitDefEqProofs [hc, hc', hB, hBe, hb, hk, hK, hkk])))
  exact ⟨⟨by unfold maxLen; omega, by omega⟩, by simpa [Ins.c] using hfin, LeNs.refl _⟩
/-- The map of the locals. -/
abbrev mpL (L : List (List UInt8 × Int)) : Bx := .mp (mS vI L)
theorem w_bexpr (M : List (List UInt8)) (L : List (List UInt8 × Int)) (hL : ∀ n, (aget L n).getD 0 = idxN M n) : ∀ (x : Xp), x.prop = true → ∀ (b k m : Nat) (es : List Ins) (B : List Bx) (K : List Nat), B[b]? = some (bldX k m es) → B[m]? = some (mpL L) → K[k]? = some es.length →
    es.length + x.cnt ≤ 1000000 → OkBK B K → FnS Tryd.prog 31 [.ptr b 0, x.v] ⟨B, K⟩ (.tup []) ⟨B.set b (bldX k m (es ++ x.codeX M)), K.set k (es.length + x.cnt)⟩ := by
  refine Xp.ind fun kd vl fr to nm xs ih hp b k m es B K hbx hM hK hlen hok => ?_
  rw [Xp.prop, Bool.and_eq_true] at hp
  obtain ⟨hsh, hps⟩ := hp
  have hpm := Xp.props_mem hps
  rw [Xp.cnt] at hlen ⊢
  rw [Xp.codeX, Xp.v, Xp.c_mk]
  have hb : b < B.length := (List.getElem?_eq_some_iff.1 hbx).1
  have hk : k < K.length := (List.getElem?_eq_some_iff.1 hK).1
  have hm : m < B.length := (List.getElem?_eq_some_iff.1 hM).1
  have hbm : b ≠ m := by rintro rfl; rw [hbx] at hM; simp [bldX] at hM
  have hal := Xp.cnts_len xs
  obtain ⟨RES, hRES⟩ : ∃ RES, RES = (⟨B.set b (bldX k m (es ++ (Xp.codesX M xs ++ [lastX M kd vl fr to nm]))), K.set k (es.length + (1 + Xp.cnts xs))⟩ : St) := ⟨_, rfl⟩
  rw [← hRES]
  have hRl : RES.boxes.length = B.length ∧ RES.toks.length = K.length := by rw [hRES]; simp
  (refine FnS.of_code mix Tryd.call31 k_31 (by simp) (fun hB => ?_); (try simp at hB); (try simp -implicitDefEqProofs [c_compile_builder__expr_31]))
  have gz0 := get0 B
  ((try simp -implicitDefEqProofs [gz0]); repeat' first | ((first | with_reducible refine gdK_em (fun hc => ?_) (fun hc => ?_) | with_reducible refine cdK_em (fun hc => ?_) (fun hc => ?_) | with_reducible refine pickK_em (fun hc => ?_) (fun hc => ?_)) <;> (have hc' := hc; (try simp at hc'); simp -implicitDefEqProofs [hc, hc', gz0])))
  refine loop_rule (X := Nat × List Bx × List Nat) (fun X => X.1 ≤ xs.length ∧ X.2.1 = B.set b (bldX k m (es ++ Xp.codesX M (xs.take X.1))) ∧ X.2.2 = K.set k (es.length + Xp.cnts (xs.take X.1)))
    (fun X => [(0, .ptr b 0), (3, .ptr B.length 0), (8, Xp.l xs), (9, vI xs.length), (10, vI X.1)]) (fun X => ⟨X.2.1 ++ [.cells [vI kd, vI vl, vI fr, vI to, vS nm, Xp.l xs]], X.2.2⟩) (fun X => xs.length - X.1) (0, B, K) ⟨by simp, ?h1, ?h2⟩ ?hs ?_
  case h1 => simp only [List.take_zero, Xp.codesX, List.append_nil]; exact (set_same hbx).symm
  case h2 => simp only [List.take_zero, Xp.cnts, Nat.add_zero]; exact (set_same hK).symm
  case hs =>
    have hle := fun l l' n m h h2 => LeBs.app' (l := l) (l' := l') (hok n m h h2)
    simp [hle, leB, LeL_refl, LeNs.refl]
    omega
  rintro ⟨j, B1, K1⟩ ⟨hj, hB1, hK1⟩ hbd
  simp only [] at hj hB1 hK1
  clear hbd
  have hl1 : B1.length = B.length := by rw [hB1]; simp
  have hk1 : K1.length = K.length := by rw [hK1]; simp
  have b1 : B1[b]? = some (bldX k m (es ++ Xp.codesX M (xs.take j))) := by rw [hB1]; simp [hb]
  have b2 : B1[m]? = some (mpL L) := by rw [hB1, List.getElem?_set_ne hbm]; exact hM
  have b3 : K1[k]? = some (es ++ Xp.codesX M (xs.take j)).length := by rw [hK1, List.length_append, Xp.codesX_len]; simp [hk]
  have hok1 : OkBK B1 K1 := by rw [hB1, hK1]; exact hok.set _ hm hk _
  have gz : ∀ l, (B1 ++ l)[B.length]? = l[0]? := fun l => by have := get0 B1 l; rwa [hl1] at this
  have g1 : ∀ l, (B1 ++ l)[B.length + 1]? = l[1]? := fun l => by have := get1 B1 l; rwa [hl1] at this
  have gb : ∀ l, (B1 ++ l)[b]? = some (bldX k m (es ++ Xp.codesX M (xs.take j))) := fun l => by rw [List.getElem?_append_left (by omega)]; exact b1
  have gm : ∀ l, (B1 ++ l)[m]? = some (mpL L) := fun l => by rw [List.getElem?_append_left (by omega)]; exact b2
  have sb : ∀ l (v : Bx), (B1 ++ l).set b v = B1.set b v ++ l := fun l v => List.set_append_left _ _ (by omega)
  have sz : ∀ l (v : Bx), (B1 ++ l).set (B.length + 1) v = B1 ++ l.set 1 v := fun l v => by rw [← hl1, List.set_append_right _ _ (by omega)]; simp
  have hle := fun l l' n m h h2 => LeBs.app' (l := l) (l' := l') (hok1 n m h h2)
  rcases Nat.lt_or_ge j xs.length with h | h
  · have hx : xs[j]? = some xs[j] := by simp [h]
    have e3 : IntKind.i64.wrap ((j : Int) + 1) = (j : Int) + 1 := wrap64 (by omega) (by omega)
    have htk := take_next hx
    have hc1 : Xp.codesX M (xs.take (j + 1)) = Xp.codesX M (xs.take j) ++ xs[j].codeX M := by rw [Xp.codesX_flat, Xp.codesX_flat, htk, List.flatMap_append]; simp
    have hc2 : Xp.cnts (xs.take (j + 1)) = Xp.cnts (xs.take j) + xs[j].cnt := by rw [htk, Xp.cnts_append]; simp [Xp.cnts]
    have hc3 : Xp.cnts (xs.take (j + 1)) ≤ Xp.cnts xs := by
      have := Xp.cnts_append (xs.take (j + 1)) (xs.drop (j + 1))
      rw [List.take_append_drop] at this; omega
    have hrec := ih xs[j] (List.getElem_mem h) (hpm _ (List.getElem_mem h)) b k m (es ++ Xp.codesX M (xs.take j)) (B1 ++ [.cells [vI kd, vI vl, vI fr, vI to, vS nm, Xp.l xs], .cells (xs[j].c.map V.t)]) K1 (gb _) (gm _) b3 (by rw [List.length_append, Xp.codesX_len]; omega)
      (by refine hok1.more _ (fun n m _ _ => ?_); exact ⟨⟨LeL_refl _, rfl⟩, ⟨LeL_refl _, okNs_all (fun v hv => by obtain ⟨t, _, rfl⟩ := List.mem_map.1 hv; rfl)⟩, trivial⟩)
    have hlc := len_c xs[j]
    have htc := take_c xs[j]
    ((try simp -implicitDefEqProofs [h, e3, gz, g1, sz, hlc, htc]); repeat' first | ((first | with_reducible refine gdK_em (fun hc => ?_) (fun hc => ?_) | with_reducible refine cdK_em (fun hc => ?_) (fun hc => ?_) | with_reducible refine pickK_em (fun hc => ?_) (fun hc => ?_)) <;> (have hc' := hc; (try simp at hc'); simp -implicitDefEqProofs [hc, hc', h, e3, gz, g1, sz, hlc, htc])))
    refine callK_fn hrec (fun hd => by cases hd) ?_
    ((try simp -implicitDefEqProofs [e3, sb]); repeat' first | ((first | with_reducible refine gdK_em (fun hc => ?_) (fun hc => ?_) | with_reducible refine cdK_em (fun hc => ?_) (fun hc => ?_) | with_reducible refine pickK_em (fun hc => ?_) (fun hc => ?_)) <;> (have hc' := hc; (try simp at hc'); simp -implicitDefEqProofs [hc, hc', e3, sb])))
    have hokn := hok1.set (b := b) (m := m) (k := k) (es ++ (Xp.codesX M (xs.take j) ++ xs[j].codeX M)) (by omega) (by omega) (es.length + (Xp.codesX M (xs.take j)).length + xs[j].cnt)
    refine ⟨j + 1, B1.set b (bldX k m (es ++ (Xp.codesX M (xs.take j) ++ xs[j].codeX M))), K1.set k (es.length + (Xp.codesX M (xs.take j)).length + xs[j].cnt), ⟨by omega, ?_, ?_⟩, by omega, ⟨by simp; omega, by simp; omega⟩, ⟨?_, LeNs.refl _⟩, by simp; omega, by simp; omega, by push_cast; rfl⟩
    · rw [hB1, List.set_set, hc1]
    · rw [hK1, List.set_set, hc2, Xp.codesX_len, Nat.add_assoc]
    · exact (LeBs.app' (hokn _ _ (by omega) (Nat.le_refl _))).2 ⟨⟨LeL_refl _, rfl⟩, trivial⟩
  have : j = xs.length := by omega
  subst this
  rw [List.take_length] at *
  have hkd : 1 ≤ kd ∧ kd ≤ 22 := by
    have := hsh
    unfold shpB kdB at this
    simp only [Bool.and_eq_true, decide_eq_true_eq] at this
    exact this.1.1
  obtain ⟨tabc, htab⟩ : ∃ tabc : List V, tabc = [vI 0, vI 0, vI 0, vI 5, vI 6, vI 7, vI 8, vI 10, vI 11, vI 12, vI 13, vI 14, vI 15, vI 16, vI 17, vI 18, vI 19, vI 20, vI 21, vI 22] := ⟨_, rfl⟩
  have hadd : ∀ op x y, FnS Tryd.prog 32 [.ptr b 0, vI op, vI x, vI y] ⟨B1 ++ [.cells [vI kd, vI vl, vI fr, vI to, vS nm, Xp.l xs], .cells tabc], K1⟩ (.tup [])
      ⟨B1.set b (bldX k m (es ++ Xp.codesX M xs ++ [⟨op, x, y⟩])) ++ [.cells [vI kd, vI vl, vI fr, vI to, vS nm, Xp.l xs], .cells tabc], K1.set k (es.length + Xp.cnts xs + 1)⟩ := fun op x y => by
    have := w_add b k m (es ++ Xp.codesX M xs) op x y (B1 ++ [.cells [vI kd, vI vl, vI fr, vI to, vS nm, Xp.l xs], .cells tabc]) K1 (gb _) b3 (by rw [List.length_append, Xp.codesX_len]; omega) (by simp; omega)
      (by refine hok1.more _ (fun n m _ _ => ?_); exact ⟨⟨LeL_refl _, rfl⟩, ⟨LeL_refl _, by rw [htab]; rfl⟩, trivial⟩)
    rw [sb, List.length_append, Xp.codesX_len] at this
    exact this
  have hfin : ∀ op x y, lastX M kd vl fr to nm = ⟨op, x, y⟩ → B1.set b (bldX k m (es ++ Xp.codesX M xs ++ [⟨op, x, y⟩])) = RES.boxes ∧ K1.set k (es.length + Xp.cnts xs + 1) = RES.toks := fun op x y h => by
    rw [hRES]
    simp only []
    rw [hB1, hK1, List.set_set, List.set_set, h, List.append_assoc, show es.length + (1 + Xp.cnts xs) = es.length + Xp.cnts xs + 1 by omega]
    exact ⟨rfl, rfl⟩
  have hokR : OkBK RES.boxes RES.toks := by rw [hRES]; exact hok.set _ hm hk _
  have hleR : ∀ l, LeBs RES.boxes.length RES.toks.length (RES.boxes ++ l) RES.boxes := fun l => LeBs.drop' l (hokR _ _ (Nat.le_refl _) (Nat.le_refl _))
  by_cases e1 : kd = 1
  · subst e1
    obtain ⟨q1, q2⟩ := hfin 1 vl 0 rfl
    have ha := hadd 1 vl 0
    rw [q1, q2, htab] at ha
    ((try simp -implicitDefEqProofs [gz, g1, sz]); repeat' first | ((first | with_reducible refine gdK_em (fun hc => ?_) (fun hc => ?_) | with_reducible refine cdK_em (fun hc => ?_) (fun hc => ?_) | with_reducible refine pickK_em (fun hc => ?_) (fun hc => ?_)) <;> (have hc' := hc; (try simp at hc'); simp -implicitDefEqProofs [hc, hc', gz, g1, sz])))
    refine callK_fn ha (fun hd => by cases hd) ?_
    ((try simp -implicitDefEqProofs [hleR, LeNs.refl]); repeat' first | ((first | with_reducible refine gdK_em (fun hc => ?_) (fun hc => ?_) | with_reducible refine cdK_em (fun hc => ?_) (fun hc => ?_) | with_reducible refine pickK_em (fun hc => ?_) (fun hc => ?_)) <;> (have hc' := hc; (try simp at hc'); simp -implicitDefEqProofs [hc, hc', hleR, LeNs.refl])))
    omega
  by_cases e2 : kd = 2
  · subst e2
    obtain ⟨q1, q2⟩ := hfin 2 (idxN M nm) 0 rfl
    have ha := hadd 2 (idxN M nm) 0
    rw [q1, q2, htab] at ha
    have hfm := findM_S vI nm L
    have hLn := hL nm
    cases hag : aget L nm with
    | none =>
      rw [hag] at hfm hLn
      simp only [Option.getD_none] at hLn
      rw [← hLn] at ha
      ((try simp -implicitDefEqProofs [gz, g1, sz, gb, gm, bldX, hfm]); repeat' first | ((first | with_reducible refine gdK_em (fun hc => ?_) (fun hc => ?_) | with_reducible refine cdK_em (fun hc => ?_) (fun hc => ?_) | with_reducible refine pickK_em (fun hc => ?_) (fun hc => ?_)) <;> (have hc' := hc; (try simp at hc'); simp -implicitDefEqProofs [hc, hc', gz, g1, sz, gb, gm, bldX, hfm])))
      refine callK_fn ha (fun hd => by cases hd) ?_
      ((try simp -implicitDefEqProofs [hleR, LeNs.refl]); repeat' first | ((first | with_reducible refine gdK_em (fun hc => ?_) (fun hc => ?_) | with_reducible refine cdK_em (fun hc => ?_) (fun hc => ?_) | with_reducible refine pickK_em (fun hc => ?_) (fun hc => ?_)) <;> (have hc' := hc; (try simp at hc'); simp -implicitDefEqProofs [hc, hc', hleR, LeNs.refl])))
      omega
    | some i =>
      rw [hag] at hfm hLn
      simp only [Option.getD_some] at hLn
      rw [← hLn] at ha
      ((try simp -implicitDefEqProofs [gz, g1, sz, gb, gm, bldX, hfm]); repeat' first | ((first | with_reducible refine gdK_em (fun hc => ?_) (fun hc => ?_) | with_reducible refine cdK_em (fun hc => ?_) (fun hc => ?_) | with_reducible refine pickK_em (fun hc => ?_) (fun hc => ?_)) <;> (have hc' := hc; (try simp at hc'); simp -implicitDefEqProofs [hc, hc', gz, g1, sz, gb, gm, bldX, hfm])))
      refine callK_fn ha (fun hd => by cases hd) ?_
      ((try simp -implicitDefEqProofs [hleR, LeNs.refl]); repeat' first | ((first | with_reducible refine gdK_em (fun hc => ?_) (fun hc => ?_) | with_reducible refine cdK_em (fun hc => ?_) (fun hc => ?_) | with_reducible refine pickK_em (fun hc => ?_) (fun hc => ?_)) <;> (have hc' := hc; (try simp at hc'); simp -implicitDefEqProofs [hc, hc', hleR, LeNs.refl])))
      omega
  by_cases e21 : kd = 21
  · subst e21
    obtain ⟨q1, q2⟩ := hfin 3 fr to rfl
    have ha := hadd 3 fr to
    rw [q1, q2, htab] at ha
    ((try simp -implicitDefEqProofs [gz, g1, sz]); repeat' first | ((first | with_reducible refine gdK_em (fun hc => ?_) (fun hc => ?_) | with_reducible refine cdK_em (fun hc => ?_) (fun hc => ?_) | with_reducible refine pickK_em (fun hc => ?_) (fun hc => ?_)) <;> (have hc' := hc; (try simp at hc'); simp -implicitDefEqProofs [hc, hc', gz, g1, sz])))
    refine callK_fn ha (fun hd => by cases hd) ?_
    ((try simp -implicitDefEqProofs [hleR, LeNs.refl]); repeat' first | ((first | with_reducible refine gdK_em (fun hc => ?_) (fun hc => ?_) | with_reducible refine cdK_em (fun hc => ?_) (fun hc => ?_) | with_reducible refine pickK_em (fun hc => ?_) (fun hc => ?_)) <;> (have hc' := hc; (try simp at hc'); simp -implicitDefEqProofs [hc, hc', hleR, LeNs.refl])))
    omega
  by_cases e22 : kd = 22
  · subst e22
    obtain ⟨q1, q2⟩ := hfin 4 fr to rfl
    have ha := hadd 4 fr to
    rw [q1, q2, htab] at ha
    ((try simp -implicitDefEqProofs [gz, g1, sz]); repeat' first | ((first | with_reducible refine gdK_em (fun hc => ?_) (fun hc => ?_) | with_reducible refine cdK_em (fun hc => ?_) (fun hc => ?_) | with_reducible refine pickK_em (fun hc => ?_) (fun hc => ?_)) <;> (have hc' := hc; (try simp at hc'); simp -implicitDefEqProofs [hc, hc', gz, g1, sz])))
    refine callK_fn ha (fun hd => by cases hd) ?_
    ((try simp -implicitDefEqProofs [hleR, LeNs.refl]); repeat' first | ((first | with_reducible refine gdK_em (fun hc => ?_) (fun hc => ?_) | with_reducible refine cdK_em (fun hc => ?_) (fun hc => ?_) | with_reducible refine pickK_em (fun hc => ?_) (fun hc => ?_)) <;> (have hc' := hc; (try simp at hc'); simp -implicitDefEqProofs [hc, hc', hleR, LeNs.refl])))
    omega
  by_cases e20 : kd = 20
  · subst e20
    obtain ⟨q1, q2⟩ := hfin 9 vl 0 rfl
    have ha := hadd 9 vl 0
    rw [q1, q2, htab] at ha
    ((try simp -implicitDefEqProofs [gz, g1, sz]); repeat' first | ((first | with_reducible refine gdK_em (fun hc => ?_) (fun hc => ?_) | with_reducible refine cdK_em (fun hc => ?_) (fun hc => ?_) | with_reducible refine pickK_em (fun hc => ?_) (fun hc => ?_)) <;> (have hc' := hc; (try simp at hc'); simp -implicitDefEqProofs [hc, hc', gz, g1, sz])))
    refine callK_fn ha (fun hd => by cases hd) ?_
    ((try simp -implicitDefEqProofs [hleR, LeNs.refl]); repeat' first | ((first | with_reducible refine gdK_em (fun hc => ?_) (fun hc => ?_) | with_reducible refine cdK_em (fun hc => ?_) (fun hc => ?_) | with_reducible refine pickK_em (fun hc => ?_) (fun hc => ?_)) <;> (have hc' := hc; (try simp at hc'); simp -implicitDefEqProofs [hc, hc', hleR, LeNs.refl])))
    omega
  by_cases e3 : kd = 3
  · subst e3
    obtain ⟨q1, q2⟩ := hfin 5 0 0 rfl
    have ha := hadd 5 0 0
    rw [q1, q2, htab] at ha
    ((try simp -implicitDefEqProofs [gz, g1, sz]); repeat' first | ((first | with_reducible refine gdK_em (fun hc => ?_) (fun hc => ?_) | with_reducible refine cdK_em (fun hc => ?_) (fun hc => ?_) | with_reducible refine pickK_em (fun hc => ?_) (fun hc => ?_)) <;> (have hc' := hc; (try simp at hc'); simp -implicitDefEqProofs [hc, hc', gz, g1, sz])))
    refine callK_fn ha (fun hd => by cases hd) ?_
    ((try simp -implicitDefEqProofs [hleR, LeNs.refl]); repeat' first | ((first | with_reducible refine gdK_em (fun hc => ?_) (fun hc => ?_) | with_reducible refine cdK_em (fun hc => ?_) (fun hc => ?_) | with_reducible refine pickK_em (fun hc => ?_) (fun hc => ?_)) <;> (have hc' := hc; (try simp at hc'); simp -implicitDefEqProofs [hc, hc', hleR, LeNs.refl])))
    omega
  by_cases e4 : kd = 4
  · subst e4
    obtain ⟨q1, q2⟩ := hfin 6 0 0 rfl
    have ha := hadd 6 0 0
    rw [q1, q2, htab] at ha
    ((try simp -implicitDefEqProofs [gz, g1, sz]); repeat' first | ((first | with_reducible refine gdK_em (fun hc => ?_) (fun hc => ?_) | with_reducible refine cdK_em (fun hc => ?_) (fun hc => ?_) | with_reducible refine pickK_em (fun hc => ?_) (fun hc => ?_)) <;> (have hc' := hc; (try simp at hc'); simp -implicitDefEqProofs [hc, hc', gz, g1, sz])))
    refine callK_fn ha (fun hd => by cases hd) ?_
    ((try simp -implicitDefEqProofs [hleR, LeNs.refl]); repeat' first | ((first | with_reducible refine gdK_em (fun hc => ?_) (fun hc => ?_) | with_reducible refine cdK_em (fun hc => ?_) (fun hc => ?_) | with_reducible refine pickK_em (fun hc => ?_) (fun hc => ?_)) <;> (have hc' := hc; (try simp at hc'); simp -implicitDefEqProofs [hc, hc', hleR, LeNs.refl])))
    omega
  by_cases e5 : kd = 5
  · subst e5
    obtain ⟨q1, q2⟩ := hfin 7 0 0 rfl
    have ha := hadd 7 0 0
    rw [q1, q2, htab] at ha
    ((try simp -implicitDefEqProofs [gz, g1, sz]); repeat' first | ((first | with_reducible refine gdK_em (fun hc => ?_) (fun hc => ?_) | with_reducible refine cdK_em (fun hc => ?_) (fun hc => ?_) | with_reducible refine pickK_em (fun hc => ?_) (fun hc => ?_)) <;> (have hc' := hc; (try simp at hc'); simp -implicitDefEqProofs [hc, hc', gz, g1, sz])))
    refine callK_fn ha (fun hd => by cases hd) ?_
    ((try simp -implicitDefEqProofs [hleR, LeNs.refl]); repeat' first | ((first | with_reducible refine gdK_em (fun hc => ?_) (fun hc => ?_) | with_reducible refine cdK_em (fun hc => ?_) (fun hc => ?_) | with_reducible refine pickK_em (fun hc => ?_) (fun hc => ?_)) <;> (have hc' := hc; (try simp at hc'); simp -implicitDefEqProofs [hc, hc', hleR, LeNs.refl])))
    omega
  by_cases e6 : kd = 6
  · subst e6
    obtain ⟨q1, q2⟩ := hfin 8 0 0 rfl
    have ha := hadd 8 0 0
    rw [q1, q2, htab] at ha
    ((try simp -implicitDefEqProofs [gz, g1, sz]); repeat' first | ((first | with_reducible refine gdK_em (fun hc => ?_) (fun hc => ?_) | with_reducible refine cdK_em (fun hc => ?_) (fun hc => ?_) | with_reducible refine pickK_em (fun hc => ?_) (fun hc => ?_)) <;> (have hc' := hc; (try simp at hc'); simp -implicitDefEqProofs [hc, hc', gz, g1, sz])))
    refine callK_fn ha (fun hd => by cases hd) ?_
    ((try simp -implicitDefEqProofs [hleR, LeNs.refl]); repeat' first | ((first | with_reducible refine gdK_em (fun hc => ?_) (fun hc => ?_) | with_reducible refine cdK_em (fun hc => ?_) (fun hc => ?_) | with_reducible refine pickK_em (fun hc => ?_) (fun hc => ?_)) <;> (have hc' := hc; (try simp at hc'); simp -implicitDefEqProofs [hc, hc', hleR, LeNs.refl])))
    omega
  by_cases e7 : kd = 7
  · subst e7
    obtain ⟨q1, q2⟩ := hfin 10 0 0 rfl
    have ha := hadd 10 0 0
    rw [q1, q2, htab] at ha
    ((try simp -implicitDefEqProofs [gz, g1, sz]); repeat' first | ((first | with_reducible refine gdK_em (fun hc => ?_) (fun hc => ?_) | with_reducible refine cdK_em (fun hc => ?_) (fun hc => ?_) | with_reducible refine pickK_em (fun hc => ?_) (fun hc => ?_)) <;> (have hc' := hc; (try simp at hc'); simp -implicitDefEqProofs [hc, hc', gz, g1, sz])))
    refine callK_fn ha (fun hd => by cases hd) ?_
    ((try simp -implicitDefEqProofs [hleR, LeNs.refl]); repeat' first | ((first | with_reducible refine gdK_em (fun hc => ?_) (fun hc => ?_) | with_reducible refine cdK_em (fun hc => ?_) (fun hc => ?_) | with_reducible refine pickK_em (fun hc => ?_) (fun hc => ?_)) <;> (have hc' := hc; (try simp at hc'); simp -implicitDefEqProofs [hc, hc', hleR, LeNs.refl])))
    omega
  by_cases e8 : kd = 8
  · subst e8
    obtain ⟨q1, q2⟩ := hfin 11 0 0 rfl
    have ha := hadd 11 0 0
    rw [q1, q2, htab] at ha
    ((try simp -implicitDefEqProofs [gz, g1, sz]); repeat' first | ((first | with_reducible refine gdK_em (fun hc => ?_) (fun hc => ?_) | with_reducible refine cdK_em (fun hc => ?_) (fun hc => ?_) | with_reducible refine pickK_em (fun hc => ?_) (fun hc => ?_)) <;> (have hc' := hc; (try simp at hc'); simp -implicitDefEqProofs [hc, hc', gz, g1, sz])))
    refine callK_fn ha (fun hd => by cases hd) ?_
    ((try simp -implicitDefEqProofs [hleR, LeNs.refl]); repeat' first | ((first | with_reducible refine gdK_em (fun hc => ?_) (fun hc => ?_) | with_reducible refine cdK_em (fun hc => ?_) (fun hc => ?_) | with_reducible refine pickK_em (fun hc => ?_) (fun hc => ?_)) <;> (have hc' := hc; (try simp at hc'); simp -implicitDefEqProofs [hc, hc', hleR, LeNs.refl])))
    omega
  by_cases e9 : kd = 9
  · subst e9
    obtain ⟨q1, q2⟩ := hfin 12 0 0 rfl
    have ha := hadd 12 0 0
    rw [q1, q2, htab] at ha
    ((try simp -implicitDefEqProofs [gz, g1, sz]); repeat' first | ((first | with_reducible refine gdK_em (fun hc => ?_) (fun hc => ?_) | with_reducible refine cdK_em (fun hc => ?_) (fun hc => ?_) | with_reducible refine pickK_em (fun hc => ?_) (fun hc => ?_)) <;> (have hc' := hc; (try simp at hc'); simp -implicitDefEqProofs [hc, hc', gz, g1, sz])))
    refine callK_fn ha (fun hd => by cases hd) ?_
    ((try simp -implicitDefEqProofs [hleR, LeNs.refl]); repeat' first | ((first | with_reducible refine gdK_em (fun hc => ?_) (fun hc => ?_) | with_reducible refine cdK_em (fun hc => ?_) (fun hc => ?_) | with_reducible refine pickK_em (fun hc => ?_) (fun hc => ?_)) <;> (have hc' := hc; (try simp at hc'); simp -implicitDefEqProofs [hc, hc', hleR, LeNs.refl])))
    omega
  by_cases e10 : kd = 10
  · subst e10
    obtain ⟨q1, q2⟩ := hfin 13 0 0 rfl
    have ha := hadd 13 0 0
    rw [q1, q2, htab] at ha
    ((try simp -implicitDefEqProofs [gz, g1, sz]); repeat' first | ((first | with_reducible refine gdK_em (fun hc => ?_) (fun hc => ?_) | with_reducible refine cdK_em (fun hc => ?_) (fun hc => ?_) | with_reducible refine pickK_em (fun hc => ?_) (fun hc => ?_)) <;> (have hc' := hc; (try simp at hc'); simp -implicitDefEqProofs [hc, hc', gz, g1, sz])))
    refine callK_fn ha (fun hd => by cases hd) ?_
    ((try simp -implicitDefEqProofs [hleR, LeNs.refl]); repeat' first | ((first | with_reducible refine gdK_em (fun hc => ?_) (fun hc => ?_) | with_reducible refine cdK_em (fun hc => ?_) (fun hc => ?_) | with_reducible refine pickK_em (fun hc => ?_) (fun hc => ?_)) <;> (have hc' := hc; (try simp at hc'); simp -implicitDefEqProofs [hc, hc', hleR, LeNs.refl])))
    omega
  by_cases e11 : kd = 11
  · subst e11
    obtain ⟨q1, q2⟩ := hfin 14 0 0 rfl
    have ha := hadd 14 0 0
    rw [q1, q2, htab] at ha
    ((try simp -implicitDefEqProofs [gz, g1, sz]); repeat' first | ((first | with_reducible refine gdK_em (fun hc => ?_) (fun hc => ?_) | with_reducible refine cdK_em (fun hc => ?_) (fun hc => ?_) | with_reducible refine pickK_em (fun hc => ?_) (fun hc => ?_)) <;> (have hc' := hc; (try simp at hc'); simp -implicitDefEqProofs [hc, hc', gz, g1, sz])))
    refine callK_fn ha (fun hd => by cases hd) ?_
    ((try simp -implicitDefEqProofs [hleR, LeNs.refl]); repeat' first | ((first | with_reducible refine gdK_em (fun hc => ?_) (fun hc => ?_) | with_reducible refine cdK_em (fun hc => ?_) (fun hc => ?_) | with_reducible refine pickK_em (fun hc => ?_) (fun hc => ?_)) <;> (have hc' := hc; (try simp at hc'); simp -implicitDefEqProofs [hc, hc', hleR, LeNs.refl])))
    omega
  by_cases e12 : kd = 12
  · subst e12
    obtain ⟨q1, q2⟩ := hfin 15 0 0 rfl
    have ha := hadd 15 0 0
    rw [q1, q2, htab] at ha
    ((try simp -implicitDefEqProofs [gz, g1, sz]); repeat' first | ((first | with_reducible refine gdK_em (fun hc => ?_) (fun hc => ?_) | with_reducible refine cdK_em (fun hc => ?_) (fun hc => ?_) | with_reducible refine pickK_em (fun hc => ?_) (fun hc => ?_)) <;> (have hc' := hc; (try simp at hc'); simp -implicitDefEqProofs [hc, hc', gz, g1, sz])))
    refine callK_fn ha (fun hd => by cases hd) ?_
    ((try simp -implicitDefEqProofs [hleR, LeNs.refl]); repeat' first | ((first | with_reducible refine gdK_em (fun hc => ?_) (fun hc => ?_) | with_reducible refine cdK_em (fun hc => ?_) (fun hc => ?_) | with_reducible refine pickK_em (fun hc => ?_) (fun hc => ?_)) <;> (have hc' := hc; (try simp at hc'); simp -implicitDefEqProofs [hc, hc', hleR, LeNs.refl])))
    omega
  by_cases e13 : kd = 13
  · subst e13
    obtain ⟨q1, q2⟩ := hfin 16 0 0 rfl
    have ha := hadd 16 0 0
    rw [q1, q2, htab] at ha
    ((try simp -implicitDefEqProofs [gz, g1, sz]); repeat' first | ((first | with_reducible refine gdK_em (fun hc => ?_) (fun hc => ?_) | with_reducible refine cdK_em (fun hc => ?_) (fun hc => ?_) | with_reducible refine pickK_em (fun hc => ?_) (fun hc => ?_)) <;> (have hc' := hc; (try simp at hc'); simp -implicitDefEqProofs [hc, hc', gz, g1, sz])))
    refine callK_fn ha (fun hd => by cases hd) ?_
    ((try simp -implicitDefEqProofs [hleR, LeNs.refl]); repeat' first | ((first | with_reducible refine gdK_em (fun hc => ?_) (fun hc => ?_) | with_reducible refine cdK_em (fun hc => ?_) (fun hc => ?_) | with_reducible refine pickK_em (fun hc => ?_) (fun hc => ?_)) <;> (have hc' := hc; (try simp at hc'); simp -implicitDefEqProofs [hc, hc', hleR, LeNs.refl])))
    omega
  by_cases e14 : kd = 14
  · subst e14
    obtain ⟨q1, q2⟩ := hfin 17 0 0 rfl
    have ha := hadd 17 0 0
    rw [q1, q2, htab] at ha
    ((try simp -implicitDefEqProofs [gz, g1, sz]); repeat' first | ((first | with_reducible refine gdK_em (fun hc => ?_) (fun hc => ?_) | with_reducible refine cdK_em (fun hc => ?_) (fun hc => ?_) | with_reducible refine pickK_em (fun hc => ?_) (fun hc => ?_)) <;> (have hc' := hc; (try simp at hc'); simp -implicitDefEqProofs [hc, hc', gz, g1, sz])))
    refine callK_fn ha (fun hd => by cases hd) ?_
    ((try simp -implicitDefEqProofs [hleR, LeNs.refl]); repeat' first | ((first | with_reducible refine gdK_em (fun hc => ?_) (fun hc => ?_) | with_reducible refine cdK_em (fun hc => ?_) (fun hc => ?_) | with_reducible refine pickK_em (fun hc => ?_) (fun hc => ?_)) <;> (have hc' := hc; (try simp at hc'); simp -implicitDefEqProofs [hc, hc', hleR, LeNs.refl])))
    omega
  by_cases e15 : kd = 15
  · subst e15
    obtain ⟨q1, q2⟩ := hfin 18 0 0 rfl
    have ha := hadd 18 0 0
    rw [q1, q2, htab] at ha
    ((try simp -implicitDefEqProofs [gz, g1, sz]); repeat' first | ((first | with_reducible refine gdK_em (fun hc => ?_) (fun hc => ?_) | with_reducible refine cdK_em (fun hc => ?_) (fun hc => ?_) | with_reducible refine pickK_em (fun hc => ?_) (fun hc => ?_)) <;> (have hc' := hc; (try simp at hc'); simp -implicitDefEqProofs [hc, hc', gz, g1, sz])))
    refine callK_fn ha (fun hd => by cases hd) ?_
    ((try simp -implicitDefEqProofs [hleR, LeNs.refl]); repeat' first | ((first | with_reducible refine gdK_em (fun hc => ?_) (fun hc => ?_) | with_reducible refine cdK_em (fun hc => ?_) (fun hc => ?_) | with_reducible refine pickK_em (fun hc => ?_) (fun hc => ?_)) <;> (have hc' := hc; (try simp at hc'); simp -implicitDefEqProofs [hc, hc', hleR, LeNs.refl])))
    omega
  by_cases e16 : kd = 16
  · subst e16
    obtain ⟨q1, q2⟩ := hfin 19 0 0 rfl
    have ha := hadd 19 0 0
    rw [q1, q2, htab] at ha
    ((try simp -implicitDefEqProofs [gz, g1, sz]); repeat' first | ((first | with_reducible refine gdK_em (fun hc => ?_) (fun hc => ?_) | with_reducible refine cdK_em (fun hc => ?_) (fun hc => ?_) | with_reducible refine pickK_em (fun hc => ?_) (fun hc => ?_)) <;> (have hc' := hc; (try simp at hc'); simp -implicitDefEqProofs [hc, hc', gz, g1, sz])))
    refine callK_fn ha (fun hd => by cases hd) ?_
    ((try simp -implicitDefEqProofs [hleR, LeNs.refl]); repeat' first | ((first | with_reducible refine gdK_em (fun hc => ?_) (fun hc => ?_) | with_reducible refine cdK_em (fun hc => ?_) (fun hc => ?_) | with_reducible refine pickK_em (fun hc => ?_) (fun hc => ?_)) <;> (have hc' := hc; (try simp at hc'); simp -implicitDefEqProofs [hc, hc', hleR, LeNs.refl])))
    omega
  by_cases e17 : kd = 17
  · subst e17
    obtain ⟨q1, q2⟩ := hfin 20 0 0 rfl
    have ha := hadd 20 0 0
    rw [q1, q2, htab] at ha
    ((try simp -implicitDefEqProofs [gz, g1, sz]); repeat' first | ((first | with_reducible refine gdK_em (fun hc => ?_) (fun hc => ?_) | with_reducible refine cdK_em (fun hc => ?_) (fun hc => ?_) | with_reducible refine pickK_em (fun hc => ?_) (fun hc => ?_)) <;> (have hc' := hc; (try simp at hc'); simp -implicitDefEqProofs [hc, hc', gz, g1, sz])))
    refine callK_fn ha (fun hd => by cases hd) ?_
    ((try simp -implicitDefEqProofs [hleR, LeNs.refl]); repeat' first | ((first | with_reducible refine gdK_em (fun hc => ?_) (fun hc => ?_) | with_reducible refine cdK_em (fun hc => ?_) (fun hc => ?_) | with_reducible refine pickK_em (fun hc => ?_) (fun hc => ?_)) <;> (have hc' := hc; (try simp at hc'); simp -implicitDefEqProofs [hc, hc', hleR, LeNs.refl])))
    omega
  by_cases e18 : kd = 18
  · subst e18
    obtain ⟨q1, q2⟩ := hfin 21 0 0 rfl
    have ha := hadd 21 0 0
    rw [q1, q2, htab] at ha
    ((try simp -implicitDefEqProofs [gz, g1, sz]); repeat' first | ((first | with_reducible refine gdK_em (fun hc => ?_) (fun hc => ?_) | with_reducible refine cdK_em (fun hc => ?_) (fun hc => ?_) | with_reducible refine pickK_em (fun hc => ?_) (fun hc => ?_)) <;> (have hc' := hc; (try simp at hc'); simp -implicitDefEqProofs [hc, hc', gz, g1, sz])))
    refine callK_fn ha (fun hd => by cases hd) ?_
    ((try simp -implicitDefEqProofs [hleR, LeNs.refl]); repeat' first | ((first | with_reducible refine gdK_em (fun hc => ?_) (fun hc => ?_) | with_reducible refine cdK_em (fun hc => ?_) (fun hc => ?_) | with_reducible refine pickK_em (fun hc => ?_) (fun hc => ?_)) <;> (have hc' := hc; (try simp at hc'); simp -implicitDefEqProofs [hc, hc', hleR, LeNs.refl])))
    omega
  by_cases e19 : kd = 19
  · subst e19
    obtain ⟨q1, q2⟩ := hfin 22 0 0 rfl
    have ha := hadd 22 0 0
    rw [q1, q2, htab] at ha
    ((try simp -implicitDefEqProofs [gz, g1, sz]); repeat' first | ((first | with_reducible refine gdK_em (fun hc => ?_) (fun hc => ?_) | with_reducible refine cdK_em (fun hc => ?_) (fun hc => ?_) | with_reducible refine pickK_em (fun hc => ?_) (fun hc => ?_)) <;> (have hc' := hc; (try simp at hc'); simp -implicitDefEqProofs [hc, hc', gz, g1, sz])))
    refine callK_fn ha (fun hd => by cases hd) ?_
    ((try simp -implicitDefEqProofs [hleR, LeNs.refl]); repeat' first | ((first | with_reducible refine gdK_em (fun hc => ?_) (fun hc => ?_) | with_reducible refine cdK_em (fun hc => ?_) (fun hc => ?_) | with_reducible refine pickK_em (fun hc => ?_) (fun hc => ?_)) <;> (have hc' := hc; (try simp at hc'); simp -implicitDefEqProofs [hc, hc', hleR, LeNs.refl])))
    omega
  exfalso; omega
end Go.Proofs.YtckffbklaepmpaaDoor
