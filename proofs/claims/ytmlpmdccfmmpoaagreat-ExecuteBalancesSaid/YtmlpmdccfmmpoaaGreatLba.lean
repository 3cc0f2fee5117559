/- Chapter 35: the law ExecuteBalances. -/
import Derived.Test.YtmlpmdccfmmpoaaGreatLea
import Derived.Test.YtmlpmdccfmmpoaaGreatExL
set_option linter.unusedSimpArgs false
set_option linter.unusedVariables false
set_option maxHeartbeats 4000000
set_option maxRecDepth 8000
namespace Go.Proofs.YtmlpmdccfmmpoaaGreat
open E

theorem few35_of {l : List Sou} {cs : List Code} (h : fewE l cs = true) : l.length ≤ 13 ∧ cs.length ≤ 10 ∧ (∀ c ∈ cs, c.ins.length ≤ 400) ∧ ∀ x ∈ l, x.items.length ≤ 60 := by
 unfold fewE fewR at h
 simp only [Bool.and_eq_true, List.all_eq_true, decide_eq_true_eq] at h
 exact ⟨h.1.2, h.2, fun c hc => (h.1.1.2 c hc).2, h.1.1.1⟩
theorem src_room {l : List Sou} {cs : List Code} (h : fewE l cs = true) (hw : ∀ x ∈ l, x.wf) : ∀ s ∈ l.map Sou.src, s.num.natAbs ≤ 100000 ∧ 0 < s.den ∧ s.den ≤ 100000 ∧ s.items.length ≤ 1000 := by
 intro s hs
 obtain ⟨x, hx, rfl⟩ := List.mem_map.1 hs
 have h1 := (few35_of h).2.2.2 x hx
 obtain ⟨h2, h3⟩ := hw x hx
 have h4 := low_abs (a := x.sh) (q := 10000) (by decide)
 have h5 := low_le (a := x.sh) (q := 10000)
 have h6 := low_pos (a := x.sh) (q := 10000) (by decide)
 unfold Sou.src
 exact ⟨by simp only []; omega, h6, by simp only []; omega, by simp only []; omega⟩
theorem w_runOf {l : List Sou} {cs : List Code} (h : fewE l cs = true) (hw : ∀ x ∈ l, x.wf) : Pure Tryz.prog 11 [Code.l cs, Src.l (l.map Sou.src)] (.tup [Posting.l (runE cs (l.map Sou.src)).1, vI (runE cs (l.map Sou.src)).2]) := by
 obtain ⟨h1, h2, h3, h4⟩ := few35_of h
 exact w_xRun cs (l.map Sou.src) (by simpa using h1) (by omega) (fun c hc => by have := h3 c hc; omega) (src_room h hw)
theorem wrap_add (a b : Int) : IntKind.i64.wrap (IntKind.i64.wrap a + b) = IntKind.i64.wrap (a + b) := by
 simp only [IntKind.wrap, IntKind.bits, IntKind.signed, Bool.true_and]
 simp only [decide_eq_true_eq, ge_iff_le]
 split <;> split <;> omega
theorem partsR_len {ps l : List Part} (h : partsR ps = some l) : l.length ≤ ps.length := by
 unfold partsR at h
 split at h
 ·cases h
  rw [List.length_map]
  exact Nat.le_trans (List.length_filter_le _ _) (keysOf_len ps)
 ·cases h
theorem execR_len {s : Src} {oth : Int} : ∀ {l : List Ins} {st loc : List Int} {ps q : List Part}, execR s oth l st loc ps = some q → q.length ≤ ps.length + l.length
 | [], st, loc, ps, q, h => by cases h; simp
 | x :: l, st, loc, ps, q, h => by
  unfold execR at h
  rw [List.length_cons]
  split at h
  ·have := execR_len h; omega
  split at h
  ·split at h
   ·cases h; simp
   ·have := execR_len h; omega
  split at h
  ·have := execR_len h; rw [List.length_append] at this; simp at this; omega
  split at h
  ·have := partsR_len h; rw [List.length_append] at this; simp at this; omega
  split at h
  ·have := execR_len h; omega
  ·cases h
structure BalP (cs : List Code) (p : Posting) : Prop where
 kind : p.kind = 10
 r0 : 0 ≤ p.rule
 rl : p.rule < cs.length
 oth : ∀ c, cs[p.rule.toNat]? = some c → (p.oth == -1) = !c.pair
 parts : PartsOk p.parts
 two : 2 ≤ p.parts.length
 len : p.parts.length ≤ 1000
theorem balP_of {cs : List Code} {l : List Src} {q : List Posting} (hci : ∀ c ∈ cs, c.ins.length ≤ 1000) (hl : srcOk l = true) (h : runR cs l = some q) {p : Posting} (hp : p ∈ q) : BalP cs p := by
 obtain ⟨y, hy, h1, h2, h3, h4, h5, h6, h7⟩ := run_mem h hp
 obtain ⟨g1, g2, g3, g4⟩ := idx_mem hy
 have g0 := lt_of_get g1
 refine ⟨h2, by omega, by omega, fun c hc => ?_, h6, h6.two h7, ?_⟩
 case refine_2 =>
  unfold instR at h1
  obtain ⟨ps, hx, rfl⟩ := Option.map_eq_some_iff.1 h1
  have hl := execR_len hx
  have hcl := hci _ (List.mem_of_getElem? g1)
  simp at hl
  unfold postR
  split
  ·simp
  ·simp only []; omega
 rw [h3, Int.toNat_natCast, g1] at hc
 cases hc
 by_cases hp : y.1.1.pair = true
 ·rw [if_pos hp] at g4
  obtain ⟨o, o1, o2, o3, o4⟩ := g4
  have := (src_in hl o1).1
  rw [hp, h5, ← o3]
  simp; omega
 ·rw [if_neg hp] at g4
  rw [Bool.not_eq_true] at hp
  rw [hp, h5, g4]; rfl
theorem bef_of {q : List Posting} (h : q.Pairwise fun a b => a.rule < b.rule ∨ (a.rule = b.rule ∧ (a.ent < b.ent ∨ (a.ent = b.ent ∧ a.oth < b.oth)))) {i : Nat} {a b : Posting} (ha : q[i]? = some a) (hb : q[i + 1]? = some b) : befR a b = true := by
 obtain ⟨h1, rfl⟩ := List.getElem?_eq_some_iff.1 ha
 obtain ⟨h2, rfl⟩ := List.getElem?_eq_some_iff.1 hb
 have := List.pairwise_iff_getElem.1 h i (i + 1) h1 h2 (by omega)
 unfold befR
 rcases this with g | ⟨g0, g | ⟨g1, g⟩⟩
 ·rw [if_pos (by simp; omega)]; simpa using g
 ·rw [if_neg (by simp [g0]), if_pos (by simp; omega)]; simpa using g
 ·rw [if_neg (by simp [g0]), if_neg (by simp [g1])]; simpa using g
theorem sum_take {l : List Part} {k : Nat} {x : Part} (h : l[k]? = some x) : ((l.take (k + 1)).map Part.amt).sum = ((l.take k).map Part.amt).sum + x.amt := by
 rw [take_next h]; simp
theorem srt_next {l : List Part} (h : (l.map Part.acc).Pairwise (· < ·)) {k : Nat} {a b : Part} (ha : l[k]? = some a) (hb : l[k + 1]? = some b) : a.acc < b.acc := by
 obtain ⟨h1, rfl⟩ := List.getElem?_eq_some_iff.1 ha
 obtain ⟨h2, rfl⟩ := List.getElem?_eq_some_iff.1 hb
 have := List.pairwise_iff_getElem.1 h k (k + 1) (by simpa using h1) (by simpa using h2) (by omega)
 simpa using this
theorem l_balances (cs : List Code) (l : List Sou) (hw : ∀ x ∈ l, x.wf) : Pure Tryz.prog 4 [Code.l cs, Sou.l l] (vB true) := by
 have ha := w_awake35
 have hf := w_few35 l cs
 cases h : fewE l cs
 ·rw [h] at hf
  (refine Pure.of_code mix Tryz.call4 k_4 (by simp) (fun hB => ?_); (try simp at hB); (try simp -implicitDefEqProofs [c_tallystonelaw35_ExecuteBalances_4]))
  ((try simp at ha); (try simp at hf); (try simp -implicitDefEqProofs); repeat' first | ((with_reducible first | apply gdK_em | apply cdK_em | apply pickK_em) <;> (intro hc; have hc' := hc; (try simp at hc'); simp -implicitDefEqProofs [hc, hc'])) | (with_reducible apply callK_pure <;> first | (simp only [eras, era, eras_map]; first | with_reducible exact ha | with_reducible exact hf | simpa using ha | simpa using hf) | (simp -implicitDefEqProofs)))
 rw [h] at hf
 obtain ⟨f1, f2, f3, f4⟩ := few35_of h
 have hs := w_sources l (by omega) hw
 have hc := w_codes cs (by omega) (fun c hc => by have := f3 c hc; omega)
 have hr := w_runOf h hw
 have hpb : ∀ p ∈ (runE cs (l.map Sou.src)).1, BalP cs p := by
  intro p hp
  unfold runE at hp
  split at hp
  ·rename_i g
   cases hrr : runR cs (l.map Sou.src) with
   | none => rw [hrr] at hp; simp at hp
   | some q => rw [hrr] at hp; exact balP_of (fun c hc => by have := f3 c hc; omega) g.1 hrr hp
  ·simp at hp
 have hbf : ∀ (i : Nat) (a b : Posting), (runE cs (l.map Sou.src)).1[i]? = some a → (runE cs (l.map Sou.src)).1[i + 1]? = some b → befR a b = true := by
  intro i a b ha hb
  unfold runE at ha hb
  split at ha
  ·rename_i g
   rw [if_pos g] at hb
   cases hrr : runR cs (l.map Sou.src) with
   | none => rw [hrr] at ha; simp at ha
   | some q => rw [hrr] at ha hb; exact bef_of (run_sorted g.1 hrr) ha hb
  ·simp at ha
 have her : (runE cs (l.map Sou.src)).2 ≠ 0 → (runE cs (l.map Sou.src)).1 = [] := by
  unfold runE
  split
  ·cases hrr : runR cs (l.map Sou.src) with
   | none => intro _; rfl
   | some q => intro h; simp at h
  ·intro _; rfl
 unfold Src.l Src.ql at hs
 unfold Src.l at hr
 generalize (l.map Sou.src).map Src.c = A at *
 generalize (l.map Sou.src).map Src.q = B at *
 generalize runE cs (l.map Sou.src) = R at *
 obtain ⟨q, e⟩ := R
 simp only [] at hpb hbf her hr
 by_cases he : e = 0
 case neg =>
  have hq := her he
  subst hq
  have he1 : (e == 0) = false := by simpa using he
  have he2 : (e != 0) = true := by simpa using he
  (refine Pure.of_code mix Tryz.call4 k_4 (by simp) (fun hB => ?_); (try simp at hB); (try simp -implicitDefEqProofs [c_tallystonelaw35_ExecuteBalances_4]))
  ((try simp at ha); (try simp at hf); (try simp at hs); (try simp at hc); (try simp at hr); (try simp -implicitDefEqProofs [he, he1, he2]); repeat' first | ((with_reducible first | apply gdK_em | apply cdK_em | apply pickK_em) <;> (intro hc; have hc' := hc; (try simp at hc'); simp -implicitDefEqProofs [hc, hc', he, he1, he2])) | (with_reducible apply callK_pure <;> first | (simp only [eras, era, eras_map]; first | with_reducible exact ha | with_reducible exact hf | with_reducible exact hs | with_reducible exact hc | with_reducible exact hr | simpa using ha | simpa using hf | simpa using hs | simpa using hc | simpa using hr) | (simp -implicitDefEqProofs [he, he1, he2])))
 subst he
 (refine Pure.of_code mix Tryz.call4 k_4 (by simp) (fun hB => ?_); (try simp at hB); (try simp -implicitDefEqProofs [c_tallystonelaw35_ExecuteBalances_4]))
 ((try simp at ha); (try simp at hf); (try simp at hs); (try simp at hc); (try simp at hr); (try simp -implicitDefEqProofs); repeat' first | ((with_reducible first | apply gdK_em | apply cdK_em | apply pickK_em) <;> (intro hc; have hc' := hc; (try simp at hc'); simp -implicitDefEqProofs [hc, hc'])) | (with_reducible apply callK_pure <;> first | (simp only [eras, era, eras_map]; first | with_reducible exact ha | with_reducible exact hf | with_reducible exact hs | with_reducible exact hc | with_reducible exact hr | simpa using ha | simpa using hf | simpa using hs | simpa using hc | simpa using hr) | (simp -implicitDefEqProofs)))
 refine loop_rule (X := Nat) (fun i => i ≤ q.length) (fun i => [(0, Code.l cs), (7, Posting.l q), (9, vI i)]) (fun _ => ⟨[], []⟩) (fun i => q.length - i) 0 (by simp) (by simp) ?_
 rintro i hi hbd
 have hql : q.length ≤ maxLen := by
  have := hbd 7
  simp [ofL, upd, bdV, bdT] at this
  exact this
 clear hbd
 simp only [maxLen] at hql
 rcases Nat.lt_or_ge i q.length with g | g
 case inr =>
  have : i = q.length := by omega
  subst this
  ((try simp -implicitDefEqProofs); repeat' first | ((with_reducible first | apply gdK_em | apply cdK_em | apply pickK_em) <;> (intro hc; have hc' := hc; (try simp at hc'); simp -implicitDefEqProofs [hc, hc'])))
 obtain ⟨p, hp⟩ := get_of_lt g
 obtain ⟨b1, b2, b3, b4, b5, b6, b7⟩ := hpb p (List.mem_of_getElem? hp)
 have e3 : IntKind.i64.wrap ((i : Int) + 1) = (i : Int) + 1 := wrap64 (by omega) (by omega)
 have hpc : (q.map Posting.c)[i]? = some p.c := by simp [hp]
 have hpc' : ∀ h, (q.map Posting.c)[i]'h = p.c := fun h => by rw [List.getElem?_eq_getElem h] at hpc; exact Option.some.inj hpc
 obtain ⟨kd, en, ot, ru, ps⟩ := p
 simp only [] at b1 b2 b3 b4 b5 b6 b7
 subst b1
 ((try simp -implicitDefEqProofs [g, hpc, hpc', Posting.c]); repeat' first | ((with_reducible first | apply gdK_em | apply cdK_em | apply pickK_em) <;> (intro hc; have hc' := hc; (try simp at hc'); simp -implicitDefEqProofs [hc, hc', g, hpc, hpc', Posting.c])))
 refine loop_rule (X := Nat) (fun k => k ≤ ps.length) (fun k => [(0, Code.l cs), (7, Posting.l q), (9, vI i), (10, vI (IntKind.i64.wrap ((ps.take k).map Part.amt).sum)), (11, vI k)]) (fun _ => ⟨[], []⟩) (fun k => ps.length - k) 0 (by simp) (by simp) ?_
 rintro k hk hbd
 clear hbd
 rcases Nat.lt_or_ge k ps.length with g2 | g2
 ·obtain ⟨x, hx⟩ := get_of_lt g2
  have z1 := b5.nz x (List.mem_of_getElem? hx)
  have hxc : (ps.map Part.c)[k]? = some x.c := by simp [hx]
  have hxc' : ∀ h, (ps.map Part.c)[k]'h = x.c := fun h => by rw [List.getElem?_eq_getElem h] at hxc; exact Option.some.inj hxc
  have e4 : IntKind.i64.wrap ((k : Int) + 1) = (k : Int) + 1 := wrap64 (by omega) (by omega)
  have hw2 := wrap_add ((ps.take k).map Part.amt).sum x.amt
  have hst := sum_take hx
  generalize ((ps.take k).map Part.amt).sum = s1 at *
  generalize hs2 : ((ps.take (k + 1)).map Part.amt).sum = s2 at *
  rw [← hst] at hw2
  have hfin : ∃ z' : Nat, z' ≤ ps.length ∧ ps.length - z' < ps.length - k ∧ IntKind.i64.wrap ((ps.take z').map Part.amt).sum = IntKind.i64.wrap s2 ∧ (z' : Int) = (k : Int) + 1 := ⟨k + 1, by omega, by omega, by rw [hs2], by push_cast; rfl⟩
  obtain ⟨ac, am⟩ := x
  simp only [] at z1 hw2
  rcases Nat.eq_zero_or_pos k with h0 | h0
  ·subst h0
   ((try simp -implicitDefEqProofs [g, hpc, hpc', Posting.c, g2, hxc, hxc', Part.c, e4, z1, hw2]); repeat' first | ((with_reducible first | apply gdK_em | apply cdK_em | apply pickK_em) <;> (intro hc; have hc' := hc; (try simp at hc'); simp -implicitDefEqProofs [hc, hc', g, hpc, hpc', Posting.c, g2, hxc, hxc', Part.c, e4, z1, hw2])))
   ·exact absurd (by assumption) z1
   ·simpa using hfin
  ·obtain ⟨y, hy⟩ := get_of_lt (show k - 1 < ps.length by omega)
   have hyc : (ps.map Part.c)[k - 1]? = some y.c := by simp [hy]
   have hyc' : ∀ h, (ps.map Part.c)[k - 1]'h = y.c := fun h => by rw [List.getElem?_eq_getElem h] at hyc; exact Option.some.inj hyc
   have hlt := srt_next b5.srt hy (by rw [show k - 1 + 1 = k by omega]; exact hx)
   obtain ⟨ac2, am2⟩ := y
   simp only [] at hlt
   have e5 : IntKind.i64.wrap ((k : Int) - 1) = ((k - 1 : Nat) : Int) := by rw [wrap64 (by omega) (by omega)]; omega
   have g5 : k - 1 < ps.length := by omega
   have hlt' : ¬ ac ≤ ac2 := by omega
   ((try simp -implicitDefEqProofs [g, hpc, hpc', Posting.c, g2, hxc, hxc', hyc, hyc', Part.c, e4, e5, g5, z1, hw2, h0, hlt, hlt']); repeat' first | ((with_reducible first | apply gdK_em | apply cdK_em | apply pickK_em) <;> (intro hc; have hc' := hc; (try simp at hc'); simp -implicitDefEqProofs [hc, hc', g, hpc, hpc', Posting.c, g2, hxc, hxc', hyc, hyc', Part.c, e4, e5, g5, z1, hw2, h0, hlt, hlt'])))
   ·exact absurd (by assumption) z1
   ·simpa using hfin
 ·have : k = ps.length := by omega
  subst this
  rw [List.take_of_length_le (Nat.le_refl _), b5.sum]
  have j1 : ¬ ps.length < 2 := by omega
  have j2 : ¬ (ps.length : Int) < 2 := by omega
  have j3 : ¬ ru < 0 := by omega
  have j4 : ¬ (cs.length : Int) ≤ ru := by omega
  obtain ⟨c, hc⟩ := get_of_lt (show ru.toNat < cs.length by omega)
  have b4 := b4 c hc
  have hcc : (cs.map Code.c)[ru.toNat]? = some c.c := by simp [hc]
  have hcc' : ∀ h, (cs.map Code.c)[ru.toNat]'h = c.c := fun h => by rw [List.getElem?_eq_getElem h] at hcc; exact Option.some.inj hcc
  have g6 : ru.toNat < cs.length := by omega
  obtain ⟨cn, cp, ins⟩ := c
  simp only [] at b4
  have w0 : IntKind.i64.wrap 0 = 0 := by decide
  have hfin : ∃ z' : Nat, z' ≤ q.length ∧ q.length - z' < q.length - i ∧ (z' : Int) = (i : Int) + 1 := ⟨i + 1, by omega, by omega, by push_cast; rfl⟩
  rcases Nat.eq_zero_or_pos i with h0 | h0
  ·subst h0
   ((try simp -implicitDefEqProofs [g, hpc, hpc', Posting.c, Code.c, e3, w0, j1, j2, j3, j4, hcc, hcc', g6, b2, b3, b4]); repeat' first | ((with_reducible first | apply gdK_em | apply cdK_em | apply pickK_em) <;> (intro hc; have hc' := hc; (try simp at hc'); simp -implicitDefEqProofs [hc, hc', g, hpc, hpc', Posting.c, Code.c, e3, w0, j1, j2, j3, j4, hcc, hcc', g6, b2, b3, b4])))
   simpa using hfin
  ·obtain ⟨y, hy⟩ := get_of_lt (show i - 1 < q.length by omega)
   have hyc : (q.map Posting.c)[i - 1]? = some y.c := by simp [hy]
   have hyc' : ∀ h, (q.map Posting.c)[i - 1]'h = y.c := fun h => by rw [List.getElem?_eq_getElem h] at hyc; exact Option.some.inj hyc
   have hlt := hbf (i - 1) y _ hy (by rw [show i - 1 + 1 = i by omega]; exact hp)
   have hbw := w_before y ⟨10, en, ot, ru, ps⟩
   rw [hlt] at hbw
   obtain ⟨y1, y2, y3, y4, y5⟩ := y
   have e5 : IntKind.i64.wrap ((i : Int) - 1) = ((i - 1 : Nat) : Int) := by rw [wrap64 (by omega) (by omega)]; omega
   have g5 : i - 1 < q.length := by omega
   simp only [Posting.v, Posting.c, List.map_cons, List.map_nil] at hbw
   ((try simp at hbw); (try simp -implicitDefEqProofs [g, hpc, hpc', Posting.c, Code.c, e3, w0, j1, j2, j3, j4, hcc, hcc', g6, b2, b3, b4, hyc, hyc', e5, g5, h0]); repeat' first | ((with_reducible first | apply gdK_em | apply cdK_em | apply pickK_em) <;> (intro hc; have hc' := hc; (try simp at hc'); simp -implicitDefEqProofs [hc, hc', g, hpc, hpc', Posting.c, Code.c, e3, w0, j1, j2, j3, j4, hcc, hcc', g6, b2, b3, b4, hyc, hyc', e5, g5, h0])) | (with_reducible apply callK_pure <;> first | (simp only [eras, era, eras_map]; first | with_reducible exact hbw | simpa using hbw) | (simp -implicitDefEqProofs [g, hpc, hpc', Posting.c, Code.c, e3, w0, j1, j2, j3, j4, hcc, hcc', g6, b2, b3, b4, hyc, hyc', e5, g5, h0])))
   exact hfin
end Go.Proofs.YtmlpmdccfmmpoaaGreat
