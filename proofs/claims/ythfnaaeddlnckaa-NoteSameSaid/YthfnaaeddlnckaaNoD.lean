/- Notes: All, both ways. -/
import Derived.Test.YthfnaaeddlnckaaNoC
set_option linter.unusedSimpArgs false
set_option linter.unusedVariables false
set_option maxHeartbeats 4000000
set_option maxRecDepth 8000
namespace Go.Proofs.Ythfnaaeddlnckaa
open E

abbrev noteL (L : List NoteS) : V := .t (.sl (L.map NoteS.c'))
attribute [simp] noteL
theorem takeC_next {L : List NoteS} {k : Nat} (h : k < L.length) : (L.map NoteS.c').take (k + 1) = (L.map NoteS.c').take k ++ [L[k].c'] := by
  rw [take_next (x := L[k].c') (by simp [h])]
theorem w_from (L : List NoteS) (hL : L.length ≤ 1000000) : Pure Try.prog 24 [noteL L] (noteL L) := by
  (refine Pure.of_code mix Try.call24 k_24 (by simp) (fun hB => ?_); (try simp at hB); (try simp -implicitDefEqProofs [c_tallystonelaw52_from_24]))
  refine loop_grow [(.slot 3, 47, 16)] (X := Nat) (fun k => k ≤ L.length) (fun k => [(3, .own 0 47 16 ((L.take k).map NoteS.c')), (6, noteL L), (7, vI L.length), (8, vI k)])
    (fun k => ⟨[], [k]⟩) (fun k => L.length - k) 0 (by omega) (by simp) ?_
  rintro k hk hbd
  rcases Nat.lt_or_ge k L.length with h | h
  · have htk := takeC_next h
    have e3 : IntKind.i64.wrap ((k : Int) + 1) = (k : Int) + 1 := wrap64 (by omega) (by omega)
    have hmin : min k L.length = k := by omega
    ((try simp -implicitDefEqProofs [h, e3, NoteS.c', noteC, maxLen, hmin]); repeat' first | (with_reducible refine gdK_em (fun hc => ?_) (fun hc => ?_) <;> (have hc' := hc; (try simp at hc'); simp -implicitDefEqProofs [hc, hc', h, e3, NoteS.c', noteC, maxLen, hmin])) | (with_reducible refine cdK_em (fun hc => ?_) (fun hc => ?_) <;> (have hc' := hc; (try simp at hc'); simp -implicitDefEqProofs [hc, hc', h, e3, NoteS.c', noteC, maxLen, hmin])) | (with_reducible refine pickK_em (fun hc => ?_) (fun hc => ?_) <;> (have hc' := hc; (try simp at hc'); simp -implicitDefEqProofs [hc, hc', h, e3, NoteS.c', noteC, maxLen, hmin])))
    exact ⟨⟨by omega, by omega⟩, k + 1, by omega, by omega, rfl, by rw [htk]; exact leA.refl _, by omega⟩
  · have : k = L.length := by omega
    subst this
    ((try simp -implicitDefEqProofs); repeat' first | (with_reducible refine gdK_em (fun hc => ?_) (fun hc => ?_) <;> (have hc' := hc; (try simp at hc'); simp -implicitDefEqProofs [hc, hc'])) | (with_reducible refine cdK_em (fun hc => ?_) (fun hc => ?_) <;> (have hc' := hc; (try simp at hc'); simp -implicitDefEqProofs [hc, hc'])) | (with_reducible refine pickK_em (fun hc => ?_) (fun hc => ?_) <;> (have hc' := hc; (try simp at hc'); simp -implicitDefEqProofs [hc, hc'])))
theorem w_Same (L : List NoteS) : Pure Try.prog 23 [noteL L, noteL L] (vB true) := by
  (refine Pure.of_code mix Try.call23 k_23 (by simp) (fun hB => ?_); (try simp at hB); (try simp -implicitDefEqProofs [c_tallystoneref52_Same_23]))
  have hlm : L.length ≤ 9223372036854775807 := by simp [maxLen] at hB; omega
  refine loop_rule (X := Nat) (fun k => k ≤ L.length) (fun k => [(0, noteL L), (1, noteL L), (5, vI k)]) (fun k => ⟨[], []⟩) (fun k => L.length - k) 0 (by omega) (by simp) ?_
  rintro k hk hbd
  rcases Nat.lt_or_ge k L.length with h | h
  · have e3 : IntKind.i64.wrap ((k : Int) + 1) = (k : Int) + 1 := wrap64 (by omega) (by omega)
    ((try simp -implicitDefEqProofs [h, e3, NoteS.c', noteC]); repeat' first | (with_reducible refine gdK_em (fun hc => ?_) (fun hc => ?_) <;> (have hc' := hc; (try simp at hc'); simp -implicitDefEqProofs [hc, hc', h, e3, NoteS.c', noteC])) | (with_reducible refine cdK_em (fun hc => ?_) (fun hc => ?_) <;> (have hc' := hc; (try simp at hc'); simp -implicitDefEqProofs [hc, hc', h, e3, NoteS.c', noteC])) | (with_reducible refine pickK_em (fun hc => ?_) (fun hc => ?_) <;> (have hc' := hc; (try simp at hc'); simp -implicitDefEqProofs [hc, hc', h, e3, NoteS.c', noteC])))
    exact ⟨k + 1, by omega, by omega, by omega⟩
  · have : k = L.length := by omega
    subst this
    ((try simp -implicitDefEqProofs); repeat' first | (with_reducible refine gdK_em (fun hc => ?_) (fun hc => ?_) <;> (have hc' := hc; (try simp at hc'); simp -implicitDefEqProofs [hc, hc'])) | (with_reducible refine cdK_em (fun hc => ?_) (fun hc => ?_) <;> (have hc' := hc; (try simp at hc'); simp -implicitDefEqProofs [hc, hc'])) | (with_reducible refine pickK_em (fun hc => ?_) (fun hc => ?_) <;> (have hc' := hc; (try simp at hc'); simp -implicitDefEqProofs [hc, hc'])))

def nzN (n : NoteS) : Bool := n.figs.any fun x => x != 0
def outF (f : Int → NoteS × Int) (l : List Account) : List NoteS := (l.map fun x => (f x.code).1).filter nzN
def okF (f : Int → NoteS × Int) (l : List Account) (k : Nat) : Bool := (f (l.getD k acc0).code).2 == 0
def errF (f : Int → NoteS × Int) (l : List Account) : Int := ((l.map fun x => (f x.code).2).find? fun e => e != 0).getD 0
def runF (f : Int → NoteS × Int) (l : List Account) : List NoteS × Int := if errF f l = 0 then (outF f l, 0) else ([], errF f l)
theorem okF_eq {f : Int → NoteS × Int} {l : List Account} {k : Nat} (h : k < l.length) : okF f l k = ((f l[k].code).2 == 0) := by simp [okF, List.getD_eq_getElem?_getD, h]
theorem errF_hit {f : Int → NoteS × Int} {l : List Account} {k : Nat} (h : k < l.length) (hn : allB (okF f l) k = true) (he : (f l[k].code).2 ≠ 0) : errF f l = (f l[k].code).2 := by
  have : (l.map fun x => (f x.code).2).find? (fun e => e != 0) = some (f l[k].code).2 := by
    rw [List.find?_eq_some_iff_getElem]
    refine ⟨by simpa using he, k, by simpa using h, by simp, fun j hj => ?_⟩
    have := allB_iff.1 hn j hj
    rw [okF_eq (by omega)] at this
    simpa using this
  simp [errF, this]
theorem errF_ok {f : Int → NoteS × Int} {l : List Account} (hn : allB (okF f l) l.length = true) : errF f l = 0 := by
  have : (l.map fun x => (f x.code).2).find? (fun e => e != 0) = none := by
    rw [List.find?_eq_none]
    intro x hx
    obtain ⟨y, hy, rfl⟩ := List.mem_map.1 hx
    obtain ⟨j, hj, rfl⟩ := List.getElem_of_mem hy
    have := allB_iff.1 hn j hj
    rw [okF_eq hj] at this
    simpa using this
  simp [errF, this]
theorem runF_hit {f : Int → NoteS × Int} {l : List Account} {k : Nat} (h : k < l.length) (hn : allB (okF f l) k = true) (he : (f l[k].code).2 ≠ 0) : runF f l = ([], (f l[k].code).2) := by
  unfold runF; rw [errF_hit h hn he, if_neg he]
theorem runF_ok {f : Int → NoteS × Int} {l : List Account} (hn : allB (okF f l) l.length = true) : runF f l = (outF f l, 0) := by
  unfold runF; rw [errF_ok hn, if_pos rfl]
theorem outF_succ {f : Int → NoteS × Int} {l : List Account} {k : Nat} (h : k < l.length) : outF f (l.take (k + 1)) = outF f (l.take k) ++ (if nzN (f l[k].code).1 = true then [(f l[k].code).1] else []) := by
  unfold outF
  rw [take_next (x := l[k]) (by simp [h]), List.map_append, List.filter_append]
  congr 1
  simp [List.filter_cons]
theorem outF_len (f : Int → NoteS × Int) (l : List Account) (k : Nat) : (outF f (l.take k)).length ≤ k := by
  unfold outF
  refine Nat.le_trans (List.length_filter_le _ _) (by simp; omega)

theorem w_All1 (n : Int) : Pure Try.prog 49 [vI n] (vB (n != 0)) := by
  (refine Pure.of_code mix Try.call49 k_49 (by simp) (fun hB => ?_); (try simp at hB); (try simp -implicitDefEqProofs [c_note_AllS1_49]))
def allP (g : Group) (b a : Res) : List NoteS × Int := if (daysS g a.per).2.2 ≠ 0 then ([], (daysS g a.per).2.2) else runF (makeP g b a) g.chart
theorem w_nAll (g : Group) (hg : OkG g) (b a : Res) : Pure Try.prog 21 [g.v, b.v, a.v] (.tup [noteL (allP g b a).1, vI (allP g b a).2]) := by
  have h1 := w_ndays g hg a.per
  unfold allP
  generalize daysS g a.per = dd at *
  obtain ⟨first, last, e⟩ := dd
  by_cases he : e = 0
  case neg =>
    have he' : (e != 0) = true := by simpa using he
    rw [if_pos he]
    (refine Pure.of_code mix Try.call21 k_21 (by simp) (fun hB => ?_); (try simp at hB); (try simp -implicitDefEqProofs [c_note_All_21]))
    ((try simp at h1); (try simp -implicitDefEqProofs [he']); repeat' first | (with_reducible refine gdK_em (fun hc => ?_) (fun hc => ?_) <;> (have hc' := hc; (try simp at hc'); simp -implicitDefEqProofs [hc, hc', he'])) | (with_reducible refine cdK_em (fun hc => ?_) (fun hc => ?_) <;> (have hc' := hc; (try simp at hc'); simp -implicitDefEqProofs [hc, hc', he'])) | (with_reducible refine pickK_em (fun hc => ?_) (fun hc => ?_) <;> (have hc' := hc; (try simp at hc'); simp -implicitDefEqProofs [hc, hc', he'])) | (with_reducible apply callK_pure <;> first | (simp only [eras, era, eras_map]; first | with_reducible exact h1 | simpa using h1) | (simp -implicitDefEqProofs [he'])))
  subst he
  rw [if_neg (by simp)]
  have hm := w_nMake g hg b a
  generalize makeP g b a = f at *
  have hcl := hg.chart
  (refine Pure.of_code mix Try.call21 k_21 (by simp) (fun hB => ?_); (try simp at hB); (try simp -implicitDefEqProofs [c_note_All_21]))
  ((try simp at h1); (try simp -implicitDefEqProofs); repeat' first | (with_reducible refine gdK_em (fun hc => ?_) (fun hc => ?_) <;> (have hc' := hc; (try simp at hc'); simp -implicitDefEqProofs [hc, hc'])) | (with_reducible refine cdK_em (fun hc => ?_) (fun hc => ?_) <;> (have hc' := hc; (try simp at hc'); simp -implicitDefEqProofs [hc, hc'])) | (with_reducible refine pickK_em (fun hc => ?_) (fun hc => ?_) <;> (have hc' := hc; (try simp at hc'); simp -implicitDefEqProofs [hc, hc'])) | (with_reducible apply callK_pure <;> first | (simp only [eras, era, eras_map]; first | with_reducible exact h1 | simpa using h1) | (simp -implicitDefEqProofs)))
  refine loop_grow [(.slot 11, 44, 16)] (X := Nat) (fun k => k ≤ g.chart.length ∧ allB (okF f g.chart) k = true) (fun k => [(3, .ptr 0 0), (4, .ptr 1 0), (5, .ptr 2 0), (11, .own 0 44 16 ((outF f (g.chart.take k)).map NoteS.c')), (28, Account.l g.chart), (29, vI g.chart.length), (30, vI k)])
    (fun k => ⟨[.cells (g.c.map .t), .cells (b.c.map .t), .cells (a.c.map .t)], [(outF f (g.chart.take k)).length]⟩) (fun k => g.chart.length - k) 0 ⟨by omega, rfl⟩ (by simp [outF]) ?_
  rintro k ⟨hk, hn⟩ hbd
  rcases Nat.lt_or_ge k g.chart.length with h | h
  · have e3 : IntKind.i64.wrap ((k : Int) + 1) = (k : Int) + 1 := wrap64 (by omega) (by omega)
    have hsucc := allB_succ (okF f g.chart) k
    rw [hn, okF_eq h, Bool.true_and] at hsucc
    have hhit := runF_hit (f := f) h hn
    have hos := outF_succ (f := f) h
    have hol := outF_len f g.chart k
    have hmk := hm g.chart[k].code
    generalize f g.chart[k].code = M at *
    obtain ⟨n, e⟩ := M
    by_cases he : e = 0
    case neg =>
      have he' : (e != 0) = true := by simpa using he
      rw [hhit he]
      ((try simp at hmk); (try simp -implicitDefEqProofs [h, he']); repeat' first | (with_reducible refine gdK_em (fun hc => ?_) (fun hc => ?_) <;> (have hc' := hc; (try simp at hc'); simp -implicitDefEqProofs [hc, hc', h, he'])) | (with_reducible refine cdK_em (fun hc => ?_) (fun hc => ?_) <;> (have hc' := hc; (try simp at hc'); simp -implicitDefEqProofs [hc, hc', h, he'])) | (with_reducible refine pickK_em (fun hc => ?_) (fun hc => ?_) <;> (have hc' := hc; (try simp at hc'); simp -implicitDefEqProofs [hc, hc', h, he'])) | (with_reducible apply callK_pure <;> first | (simp only [eras, era, eras_map]; first | with_reducible exact hmk | simpa using hmk) | (simp -implicitDefEqProofs [h, he'])))
    subst he
    have hfg := w_figs n.acc n.o n.d n.c n.l n.D
    have hcn := fun S hS => w_ContainsI S hS n.figs 49 [] rfl (fun x => x != 0) (fun x _ => Pure.call (vs := [vI x]) (by simpa using w_All1 x) S)
    change ∀ S hS, FnS _ _ _ _ (.t (.bool (nzN n))) _ at hcn
    simp only [beq_self_eq_true] at hsucc
    cases hz : nzN n
    · rw [hz] at hcn hos
      simp only [Bool.false_eq_true, if_false, List.append_nil] at hos
      ((try simp at hmk); (try simp -implicitDefEqProofs [h, e3]); repeat' first | (with_reducible refine gdK_em (fun hc => ?_) (fun hc => ?_) <;> (have hc' := hc; (try simp at hc'); simp -implicitDefEqProofs [hc, hc', h, e3])) | (with_reducible refine cdK_em (fun hc => ?_) (fun hc => ?_) <;> (have hc' := hc; (try simp at hc'); simp -implicitDefEqProofs [hc, hc', h, e3])) | (with_reducible refine pickK_em (fun hc => ?_) (fun hc => ?_) <;> (have hc' := hc; (try simp at hc'); simp -implicitDefEqProofs [hc, hc', h, e3])) | (with_reducible apply callK_pure <;> first | (simp only [eras, era, eras_map]; first | with_reducible exact hmk | simpa using hmk) | (simp -implicitDefEqProofs [h, e3])))
      refine callK_pure hfg ?_
      ((try simp -implicitDefEqProofs); repeat' first | (with_reducible refine gdK_em (fun hc => ?_) (fun hc => ?_) <;> (have hc' := hc; (try simp at hc'); simp -implicitDefEqProofs [hc, hc'])) | (with_reducible refine cdK_em (fun hc => ?_) (fun hc => ?_) <;> (have hc' := hc; (try simp at hc'); simp -implicitDefEqProofs [hc, hc'])) | (with_reducible refine pickK_em (fun hc => ?_) (fun hc => ?_) <;> (have hc' := hc; (try simp at hc'); simp -implicitDefEqProofs [hc, hc'])))
      refine callK_fn (hcn _ (by simp [OkS])) (fun hd => by cases hd) ?_
      ((try simp -implicitDefEqProofs [e3]); repeat' first | (with_reducible refine gdK_em (fun hc => ?_) (fun hc => ?_) <;> (have hc' := hc; (try simp at hc'); simp -implicitDefEqProofs [hc, hc', e3])) | (with_reducible refine cdK_em (fun hc => ?_) (fun hc => ?_) <;> (have hc' := hc; (try simp at hc'); simp -implicitDefEqProofs [hc, hc', e3])) | (with_reducible refine pickK_em (fun hc => ?_) (fun hc => ?_) <;> (have hc' := hc; (try simp at hc'); simp -implicitDefEqProofs [hc, hc', e3])))
      exact ⟨k + 1, ⟨by omega, hsucc⟩, by omega, by rw [hos], by rw [hos]; exact leA.refl _, by omega⟩
    · rw [hz] at hcn hos
      simp only [if_true] at hos
      ((try simp at hmk); (try simp -implicitDefEqProofs [h, e3]); repeat' first | (with_reducible refine gdK_em (fun hc => ?_) (fun hc => ?_) <;> (have hc' := hc; (try simp at hc'); simp -implicitDefEqProofs [hc, hc', h, e3])) | (with_reducible refine cdK_em (fun hc => ?_) (fun hc => ?_) <;> (have hc' := hc; (try simp at hc'); simp -implicitDefEqProofs [hc, hc', h, e3])) | (with_reducible refine pickK_em (fun hc => ?_) (fun hc => ?_) <;> (have hc' := hc; (try simp at hc'); simp -implicitDefEqProofs [hc, hc', h, e3])) | (with_reducible apply callK_pure <;> first | (simp only [eras, era, eras_map]; first | with_reducible exact hmk | simpa using hmk) | (simp -implicitDefEqProofs [h, e3])))
      refine callK_pure hfg ?_
      ((try simp -implicitDefEqProofs); repeat' first | (with_reducible refine gdK_em (fun hc => ?_) (fun hc => ?_) <;> (have hc' := hc; (try simp at hc'); simp -implicitDefEqProofs [hc, hc'])) | (with_reducible refine cdK_em (fun hc => ?_) (fun hc => ?_) <;> (have hc' := hc; (try simp at hc'); simp -implicitDefEqProofs [hc, hc'])) | (with_reducible refine pickK_em (fun hc => ?_) (fun hc => ?_) <;> (have hc' := hc; (try simp at hc'); simp -implicitDefEqProofs [hc, hc'])))
      refine callK_fn (hcn _ (by simp [OkS])) (fun hd => by cases hd) ?_
      ((try simp -implicitDefEqProofs [e3, maxLen]); repeat' first | (with_reducible refine gdK_em (fun hc => ?_) (fun hc => ?_) <;> (have hc' := hc; (try simp at hc'); simp -implicitDefEqProofs [hc, hc', e3, maxLen])) | (with_reducible refine cdK_em (fun hc => ?_) (fun hc => ?_) <;> (have hc' := hc; (try simp at hc'); simp -implicitDefEqProofs [hc, hc', e3, maxLen])) | (with_reducible refine pickK_em (fun hc => ?_) (fun hc => ?_) <;> (have hc' := hc; (try simp at hc'); simp -implicitDefEqProofs [hc, hc', e3, maxLen])))
      exact ⟨⟨by omega, by omega⟩, k + 1, ⟨by omega, hsucc⟩, by omega, by rw [hos]; simp, by rw [hos, List.map_append]; exact leA.refl _, by omega⟩
  · have : k = g.chart.length := by omega
    subst this
    rw [runF_ok hn]
    ((try simp -implicitDefEqProofs); repeat' first | (with_reducible refine gdK_em (fun hc => ?_) (fun hc => ?_) <;> (have hc' := hc; (try simp at hc'); simp -implicitDefEqProofs [hc, hc'])) | (with_reducible refine cdK_em (fun hc => ?_) (fun hc => ?_) <;> (have hc' := hc; (try simp at hc'); simp -implicitDefEqProofs [hc, hc'])) | (with_reducible refine pickK_em (fun hc => ?_) (fun hc => ?_) <;> (have hc' := hc; (try simp at hc'); simp -implicitDefEqProofs [hc, hc'])))

def allR (g : Group) (b a : Res) : List NoteS × Int := if validGR g = false then ([], 1) else runF (makeR g b a) g.chart
theorem w_rAll (g : Group) (hg : OkG g) (b a : Res) (hacc : ∀ c, (makeR g b a c).2 = 0 → (makeR g b a c).1.acc = c) : Pure Try.prog 22 [g.v, b.v, a.v] (.tup [noteL (allR g b a).1, vI (allR g b a).2]) := by
  have h1 := w_rgValid g hg
  unfold allR
  cases hv : validGR g
  · rw [hv] at h1
    simp only [if_true]
    (refine Pure.of_code mix Try.call22 k_22 (by simp) (fun hB => ?_); (try simp at hB); (try simp -implicitDefEqProofs [c_tallystoneref52_All_22]))
    ((try simp at h1); (try simp -implicitDefEqProofs); repeat' first | (with_reducible refine gdK_em (fun hc => ?_) (fun hc => ?_) <;> (have hc' := hc; (try simp at hc'); simp -implicitDefEqProofs [hc, hc'])) | (with_reducible refine cdK_em (fun hc => ?_) (fun hc => ?_) <;> (have hc' := hc; (try simp at hc'); simp -implicitDefEqProofs [hc, hc'])) | (with_reducible refine pickK_em (fun hc => ?_) (fun hc => ?_) <;> (have hc' := hc; (try simp at hc'); simp -implicitDefEqProofs [hc, hc'])) | (with_reducible apply callK_pure <;> first | (simp only [eras, era, eras_map]; first | with_reducible exact h1 | simpa using h1) | (simp -implicitDefEqProofs)))
  rw [hv] at h1
  simp only [reduceCtorEq, if_false]
  have hm := w_rMake g hg b a
  generalize makeR g b a = f at *
  have hcl := hg.chart
  (refine Pure.of_code mix Try.call22 k_22 (by simp) (fun hB => ?_); (try simp at hB); (try simp -implicitDefEqProofs [c_tallystoneref52_All_22]))
  ((try simp at h1); (try simp -implicitDefEqProofs); repeat' first | (with_reducible refine gdK_em (fun hc => ?_) (fun hc => ?_) <;> (have hc' := hc; (try simp at hc'); simp -implicitDefEqProofs [hc, hc'])) | (with_reducible refine cdK_em (fun hc => ?_) (fun hc => ?_) <;> (have hc' := hc; (try simp at hc'); simp -implicitDefEqProofs [hc, hc'])) | (with_reducible refine pickK_em (fun hc => ?_) (fun hc => ?_) <;> (have hc' := hc; (try simp at hc'); simp -implicitDefEqProofs [hc, hc'])) | (with_reducible apply callK_pure <;> first | (simp only [eras, era, eras_map]; first | with_reducible exact h1 | simpa using h1) | (simp -implicitDefEqProofs)))
  refine loop_grow [(.slot 8, 47, 16)] (X := Nat) (fun k => k ≤ g.chart.length ∧ allB (okF f g.chart) k = true) (fun k => [(3, .ptr 0 0), (4, .ptr 1 0), (5, .ptr 2 0), (8, .own 0 47 16 ((outF f (g.chart.take k)).map NoteS.c')), (9, vI k)])
    (fun k => ⟨[.cells (g.c.map .t), .cells (b.c.map .t), .cells (a.c.map .t)], [(outF f (g.chart.take k)).length]⟩) (fun k => g.chart.length - k) 0 ⟨by omega, rfl⟩ (by simp [outF]) ?_
  rintro k ⟨hk, hn⟩ hbd
  rcases Nat.lt_or_ge k g.chart.length with h | h
  · have e3 : IntKind.i64.wrap ((k : Int) + 1) = (k : Int) + 1 := wrap64 (by omega) (by omega)
    have hsucc := allB_succ (okF f g.chart) k
    rw [hn, okF_eq h, Bool.true_and] at hsucc
    have hhit := runF_hit (f := f) h hn
    have hos := outF_succ (f := f) h
    have hol := outF_len f g.chart k
    have hmk := hm g.chart[k].code
    have hac := hacc g.chart[k].code
    generalize f g.chart[k].code = M at *
    obtain ⟨n, e⟩ := M
    by_cases he : e = 0
    case neg =>
      have he' : (e != 0) = true := by simpa using he
      rw [hhit he]
      ((try simp at hmk); (try simp -implicitDefEqProofs [h, he']); repeat' first | (with_reducible refine gdK_em (fun hc => ?_) (fun hc => ?_) <;> (have hc' := hc; (try simp at hc'); simp -implicitDefEqProofs [hc, hc', h, he'])) | (with_reducible refine cdK_em (fun hc => ?_) (fun hc => ?_) <;> (have hc' := hc; (try simp at hc'); simp -implicitDefEqProofs [hc, hc', h, he'])) | (with_reducible refine pickK_em (fun hc => ?_) (fun hc => ?_) <;> (have hc' := hc; (try simp at hc'); simp -implicitDefEqProofs [hc, hc', h, he'])) | (with_reducible apply callK_pure <;> first | (simp only [eras, era, eras_map]; first | with_reducible exact hmk | simpa using hmk) | (simp -implicitDefEqProofs [h, he'])))
    subst he
    have hac := hac rfl
    simp only at hac
    simp only [beq_self_eq_true] at hsucc
    ((try simp at hmk); (try simp -implicitDefEqProofs [h, e3, hac]); repeat' first | (with_reducible refine gdK_em (fun hc => ?_) (fun hc => ?_) <;> (have hc' := hc; (try simp at hc'); simp -implicitDefEqProofs [hc, hc', h, e3, hac])) | (with_reducible refine cdK_em (fun hc => ?_) (fun hc => ?_) <;> (have hc' := hc; (try simp at hc'); simp -implicitDefEqProofs [hc, hc', h, e3, hac])) | (with_reducible refine pickK_em (fun hc => ?_) (fun hc => ?_) <;> (have hc' := hc; (try simp at hc'); simp -implicitDefEqProofs [hc, hc', h, e3, hac])) | (with_reducible apply callK_pure <;> first | (simp only [eras, era, eras_map]; first | with_reducible exact hmk | simpa using hmk) | (simp -implicitDefEqProofs [h, e3, hac])))
    · have hz : nzN n = true := by simp [nzN, NoteS.figs, figsL]; exact hc'
      simp only [hz, if_true] at hos
      exact ⟨⟨by simp [maxLen]; omega, by omega⟩, k + 1, ⟨by omega, hsucc⟩, by omega, by rw [hos]; simp, by rw [hos, List.map_append]; simp only [List.map_cons, List.map_nil, NoteS.c', noteC, hac]; exact leA.refl _, by omega⟩
    · have hz : nzN n = false := by simp [nzN, NoteS.figs, figsL]; exact hc'
      simp only [hz, Bool.false_eq_true, if_false, List.append_nil] at hos
      exact ⟨k + 1, ⟨by omega, hsucc⟩, by omega, by rw [hos], by rw [hos]; exact leA.refl _, by omega⟩
  · have : k = g.chart.length := by omega
    subst this
    rw [runF_ok hn]
    ((try simp -implicitDefEqProofs); repeat' first | (with_reducible refine gdK_em (fun hc => ?_) (fun hc => ?_) <;> (have hc' := hc; (try simp at hc'); simp -implicitDefEqProofs [hc, hc'])) | (with_reducible refine cdK_em (fun hc => ?_) (fun hc => ?_) <;> (have hc' := hc; (try simp at hc'); simp -implicitDefEqProofs [hc, hc'])) | (with_reducible refine pickK_em (fun hc => ?_) (fun hc => ?_) <;> (have hc' := hc; (try simp at hc'); simp -implicitDefEqProofs [hc, hc'])))
end Go.Proofs.Ythfnaaeddlnckaa
