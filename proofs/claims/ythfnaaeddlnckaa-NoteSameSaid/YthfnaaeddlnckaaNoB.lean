/- Notes: what Make returns. -/
import Derived.Test.YthfnaaeddlnckaaNoA
section
set_option linter.unusedSimpArgs false
set_option linter.unusedVariables false
set_option maxHeartbeats 2000000
set_option maxRecDepth 8000
namespace Go.Proofs.Ythfnaaeddlnckaa
open E

def figsL (o d c l : Int) (D : Nat → Int) : List Int := [o, d, c, l, D 0, D 1, D 2, D 3, D 4, D 5, D 6, D 7, D 8, D 9, D 10]
theorem w_figs (a o d c l : Int) (D : Nat → Int) : Pure Try.prog 36 [.agg (noteV a o d c l D)] (V.t (.sl ((figsL o d c l D).map fun x => [.int .i64 x]))) := by
  (refine Pure.of_code mix Try.call36 k_36 (by simp) (fun hB => ?_); (try simp at hB); (try simp -implicitDefEqProofs [c_note_Note__figures_36]))
  ((try simp -implicitDefEqProofs [figsL, bslK]); repeat' first | (with_reducible refine gdK_em (fun hc => ?_) (fun hc => ?_) <;> (have hc' := hc; (try simp at hc'); simp -implicitDefEqProofs [hc, hc', figsL, bslK])) | (with_reducible refine cdK_em (fun hc => ?_) (fun hc => ?_) <;> (have hc' := hc; (try simp at hc'); simp -implicitDefEqProofs [hc, hc', figsL, bslK])) | (with_reducible refine pickK_em (fun hc => ?_) (fun hc => ?_) <;> (have hc' := hc; (try simp at hc'); simp -implicitDefEqProofs [hc, hc', figsL, bslK])))
  exact ⟨by simp [maxLen], fun a h => by omega, by simp [maxLen], .inl (.inl (.inr (.inr ⟨_, rfl, rfl⟩)))⟩
theorem w_Make1 (n : Int) : Pure Try.prog 37 [vI n] (vB (!amtB n)) := by
  have h := w_mon n
  (refine Pure.of_code mix Try.call37 k_37 (by simp) (fun hB => ?_); (try simp at hB); (try simp -implicitDefEqProofs [c_note_MakeS1_37]))
  ((try simp at h); (try simp -implicitDefEqProofs); repeat' first | (with_reducible refine gdK_em (fun hc => ?_) (fun hc => ?_) <;> (have hc' := hc; (try simp at hc'); simp -implicitDefEqProofs [hc, hc'])) | (with_reducible refine cdK_em (fun hc => ?_) (fun hc => ?_) <;> (have hc' := hc; (try simp at hc'); simp -implicitDefEqProofs [hc, hc'])) | (with_reducible refine pickK_em (fun hc => ?_) (fun hc => ?_) <;> (have hc' := hc; (try simp at hc'); simp -implicitDefEqProofs [hc, hc'])) | (with_reducible apply callK_pure <;> first | (simp only [eras, era, eras_map]; first | with_reducible exact h | simpa using h) | (simp -implicitDefEqProofs)))

def daysS (g : Group) (p : Int) : Int × Int × Int := if validGP g = false then (0, 0, 1) else if (firstS g.cal p).2 = 0 then ((firstS g.cal p).1, (lastS g.cal p).1, 0) else (0, 0, 2)
theorem w_ndays (g : Group) (hg : OkG g) (p : Int) : Pure Try.prog 31 [g.v, vI p] (.tup [vI (daysS g p).1, vI (daysS g p).2.1, vI (daysS g p).2.2]) := by
  have h1 := w_gValid g hg
  have h2 := w_First g.cal p
  have h3 := w_Last g.cal p
  unfold daysS
  cases hv : validGP g
  · rw [hv] at h1
    (refine Pure.of_code mix Try.call31 k_31 (by simp) (fun hB => ?_); (try simp at hB); (try simp -implicitDefEqProofs [c_note_days_31]))
    ((try simp at h1); (try simp -implicitDefEqProofs); repeat' first | (with_reducible refine gdK_em (fun hc => ?_) (fun hc => ?_) <;> (have hc' := hc; (try simp at hc'); simp -implicitDefEqProofs [hc, hc'])) | (with_reducible refine cdK_em (fun hc => ?_) (fun hc => ?_) <;> (have hc' := hc; (try simp at hc'); simp -implicitDefEqProofs [hc, hc'])) | (with_reducible refine pickK_em (fun hc => ?_) (fun hc => ?_) <;> (have hc' := hc; (try simp at hc'); simp -implicitDefEqProofs [hc, hc'])) | (with_reducible apply callK_pure <;> first | (simp only [eras, era, eras_map]; first | with_reducible exact h1 | simpa using h1) | (simp -implicitDefEqProofs)))
  rw [hv] at h1
  generalize firstS g.cal p = F at *
  obtain ⟨f, e⟩ := F
  generalize lastS g.cal p = F at *
  obtain ⟨l, e2⟩ := F
  by_cases he : e = 0
  · subst he
    (refine Pure.of_code mix Try.call31 k_31 (by simp) (fun hB => ?_); (try simp at hB); (try simp -implicitDefEqProofs [c_note_days_31]))
    ((try simp at h1); (try simp at h2); (try simp at h3); (try simp -implicitDefEqProofs); repeat' first | (with_reducible refine gdK_em (fun hc => ?_) (fun hc => ?_) <;> (have hc' := hc; (try simp at hc'); simp -implicitDefEqProofs [hc, hc'])) | (with_reducible refine cdK_em (fun hc => ?_) (fun hc => ?_) <;> (have hc' := hc; (try simp at hc'); simp -implicitDefEqProofs [hc, hc'])) | (with_reducible refine pickK_em (fun hc => ?_) (fun hc => ?_) <;> (have hc' := hc; (try simp at hc'); simp -implicitDefEqProofs [hc, hc'])) | (with_reducible apply callK_pure <;> first | (simp only [eras, era, eras_map]; first | with_reducible exact h1 | simpa using h1) | (simp -implicitDefEqProofs)) | (with_reducible apply callK_pure <;> first | (simp only [eras, era, eras_map]; first | with_reducible exact h2 | simpa using h2) | (simp -implicitDefEqProofs)) | (with_reducible apply callK_pure <;> first | (simp only [eras, era, eras_map]; first | with_reducible exact h3 | simpa using h3) | (simp -implicitDefEqProofs)))
  · have he' : (e != 0) = true := by simpa using he
    simp only [he, if_false]
    (refine Pure.of_code mix Try.call31 k_31 (by simp) (fun hB => ?_); (try simp at hB); (try simp -implicitDefEqProofs [c_note_days_31]))
    ((try simp at h1); (try simp at h2); (try simp at h3); (try simp -implicitDefEqProofs [he']); repeat' first | (with_reducible refine gdK_em (fun hc => ?_) (fun hc => ?_) <;> (have hc' := hc; (try simp at hc'); simp -implicitDefEqProofs [hc, hc', he'])) | (with_reducible refine cdK_em (fun hc => ?_) (fun hc => ?_) <;> (have hc' := hc; (try simp at hc'); simp -implicitDefEqProofs [hc, hc', he'])) | (with_reducible refine pickK_em (fun hc => ?_) (fun hc => ?_) <;> (have hc' := hc; (try simp at hc'); simp -implicitDefEqProofs [hc, hc', he'])) | (with_reducible apply callK_pure <;> first | (simp only [eras, era, eras_map]; first | with_reducible exact h1 | simpa using h1) | (simp -implicitDefEqProofs [he'])) | (with_reducible apply callK_pure <;> first | (simp only [eras, era, eras_map]; first | with_reducible exact h2 | simpa using h2) | (simp -implicitDefEqProofs [he'])) | (with_reducible apply callK_pure <;> first | (simp only [eras, era, eras_map]; first | with_reducible exact h3 | simpa using h3) | (simp -implicitDefEqProofs [he'])))

def D0 (j : Nat) : Int := 0
@[simp] theorem D0_app (j : Nat) : D0 j = 0 := rfl
structure NoteS where
  acc : Int
  o : Int
  d : Int
  c : Int
  l : Int
  D : Nat → Int
abbrev NoteS.c' (n : NoteS) : List T := noteC n.acc n.o n.d n.c n.l n.D
abbrev NoteS.v (n : NoteS) : V := .agg (noteV n.acc n.o n.d n.c n.l n.D)
def note0 : NoteS := ⟨0, 0, 0, 0, 0, D0⟩
/-- The figures, as the code finds them. -/
def noteP (before after : Res) (first last acc : Int) : NoteS :=
  ⟨acc, ww (itemsA before.items acc + sumF (flat before.posts) acc allK), ww (itemsI after.items acc first last), ww (ww (-itemsA before.items acc) + itemsO after.items acc first last),
   ww (itemsA after.items acc + sumF (flat after.posts) acc allK), dD 1 (flat after.posts) acc (dD (-1) (flat before.posts) acc D0)⟩
def NoteS.figs (n : NoteS) : List Int := figsL n.o n.d n.c n.l n.D
def makeP (g : Group) (before after : Res) (acc : Int) : NoteS × Int :=
  if (daysS g after.per).2.2 ≠ 0 then (note0, (daysS g after.per).2.2)
  else if findS g.chart acc = none then (note0, 8)
  else if (noteP before after (daysS g after.per).1 (daysS g after.per).2.1 acc).figs.any (fun x => !amtB x) = true then (note0, 2)
  else (noteP before after (daysS g after.per).1 (daysS g after.per).2.1 acc, 0)
theorem isW_dD (s : Int) (F : List (Int × Part)) (acc : Int) (D : Nat → Int) (hD : ∀ j, isW (D j)) (j : Nat) : isW (dD s F acc D j) := by
  unfold dD; split
  · exact isW_ww _
  · exact hD j

theorem w_nMake (g : Group) (hg : OkG g) (before after : Res) (acc : Int) : Pure Try.prog 14 [g.v, before.v, after.v, vI acc] (.tup [(makeP g before after acc).1.v, vI (makeP g before after acc).2]) := by
  have h1 := w_ndays g hg after.per
  have h2 := w_gAccount g acc
  unfold makeP
  generalize hd : daysS g after.per = dd at *
  obtain ⟨first, last, e⟩ := dd
  by_cases he : e = 0
  case neg =>
    have he' : (e != 0) = true := by simpa using he
    rw [if_pos he]
    (refine Pure.of_code mix Try.call14 k_14 (by simp) (fun hB => ?_); (try simp at hB); (try simp -implicitDefEqProofs [c_note_Make_14, note0]))
    ((try simp at h1); (try simp -implicitDefEqProofs [he', note0]); repeat' first | (with_reducible refine gdK_em (fun hc => ?_) (fun hc => ?_) <;> (have hc' := hc; (try simp at hc'); simp -implicitDefEqProofs [hc, hc', he', note0])) | (with_reducible refine cdK_em (fun hc => ?_) (fun hc => ?_) <;> (have hc' := hc; (try simp at hc'); simp -implicitDefEqProofs [hc, hc', he', note0])) | (with_reducible refine pickK_em (fun hc => ?_) (fun hc => ?_) <;> (have hc' := hc; (try simp at hc'); simp -implicitDefEqProofs [hc, hc', he', note0])) | (with_reducible apply callK_pure <;> first | (simp only [eras, era, eras_map]; first | with_reducible exact h1 | simpa using h1) | (simp -implicitDefEqProofs [he', note0])))
  subst he
  rw [if_neg (by simp)]
  cases hf : findS g.chart acc with
  | none =>
    rw [hf] at h2
    simp only [if_true]
    (refine Pure.of_code mix Try.call14 k_14 (by simp) (fun hB => ?_); (try simp at hB); (try simp -implicitDefEqProofs [c_note_Make_14, note0]))
    ((try simp at h1); (try simp at h2); (try simp -implicitDefEqProofs [note0]); repeat' first | (with_reducible refine gdK_em (fun hc => ?_) (fun hc => ?_) <;> (have hc' := hc; (try simp at hc'); simp -implicitDefEqProofs [hc, hc', note0])) | (with_reducible refine cdK_em (fun hc => ?_) (fun hc => ?_) <;> (have hc' := hc; (try simp at hc'); simp -implicitDefEqProofs [hc, hc', note0])) | (with_reducible refine pickK_em (fun hc => ?_) (fun hc => ?_) <;> (have hc' := hc; (try simp at hc'); simp -implicitDefEqProofs [hc, hc', note0])) | (with_reducible apply callK_pure <;> first | (simp only [eras, era, eras_map]; first | with_reducible exact h1 | simpa using h1) | (simp -implicitDefEqProofs [note0])) | (with_reducible apply callK_pure <;> first | (simp only [eras, era, eras_map]; first | with_reducible exact h2 | simpa using h2) | (simp -implicitDefEqProofs [note0])))
  | some a =>
    rw [hf] at h2
    simp only [reduceCtorEq, if_false]
    have hw0 : isW 0 := by simp [isW, ww_eq]
    have hb := w_before (g.c.map .t) (before.c.map .t) (after.c.map .t) (noteV 0 0 0 0 0 D0) (a.c.map .t) (fun _ _ => okNs_map _ _ _) (fun _ _ => okNs_map _ _ _) (fun _ _ => okNs_map _ _ _) (fun _ _ => rfl) (fun _ _ => okNs_map _ _ _) before first last acc 0 0 0 0 D0 hw0 hw0 (fun _ => hw0)
    have ha := w_after (g.c.map .t) (before.c.map .t) (after.c.map .t) (noteV 0 0 0 0 0 D0) (a.c.map .t) (fun _ _ => okNs_map _ _ _) (fun _ _ => okNs_map _ _ _) (fun _ _ => okNs_map _ _ _) (fun _ _ => rfl) (fun _ _ => okNs_map _ _ _) after first last acc
      (ww (itemsA before.items acc + sumF (flat before.posts) acc allK)) 0 (ww (-itemsA before.items acc)) 0 (dD (-1) (flat before.posts) acc D0) hw0 (isW_ww _) hw0 (isW_dD _ _ _ _ fun _ => hw0)
    simp only [noteV, D0_app, Int.zero_add, Int.zero_sub] at hb ha
    have hfg := w_figs acc (noteP before after first last acc).o (noteP before after first last acc).d (noteP before after first last acc).c (noteP before after first last acc).l (noteP before after first last acc).D
    have hcn := fun S hS => w_ContainsI S hS (noteP before after first last acc).figs 37 [] rfl (fun x => !amtB x) (fun x _ => Pure.call (vs := [vI x]) (by simpa using w_Make1 x) S)
    generalize hany : (noteP before after first last acc).figs.any (fun x => !amtB x) = any at *
    (refine Pure.of_code mix Try.call14 k_14 (by simp) (fun hB => ?_); (try simp at hB); (try simp -implicitDefEqProofs [c_note_Make_14, note0]))
    ((try simp at h1); (try simp at h2); (try simp -implicitDefEqProofs); repeat' first | (with_reducible refine gdK_em (fun hc => ?_) (fun hc => ?_) <;> (have hc' := hc; (try simp at hc'); simp -implicitDefEqProofs [hc, hc'])) | (with_reducible refine cdK_em (fun hc => ?_) (fun hc => ?_) <;> (have hc' := hc; (try simp at hc'); simp -implicitDefEqProofs [hc, hc'])) | (with_reducible refine pickK_em (fun hc => ?_) (fun hc => ?_) <;> (have hc' := hc; (try simp at hc'); simp -implicitDefEqProofs [hc, hc'])) | (with_reducible apply callK_pure <;> first | (simp only [eras, era, eras_map]; first | with_reducible exact h1 | simpa using h1) | (simp -implicitDefEqProofs)) | (with_reducible apply callK_pure <;> first | (simp only [eras, era, eras_map]; first | with_reducible exact h2 | simpa using h2) | (simp -implicitDefEqProofs)))
    refine callK_fn hb (fun hd => by cases hd) ?_
    ((try simp -implicitDefEqProofs); repeat' first | (with_reducible refine gdK_em (fun hc => ?_) (fun hc => ?_) <;> (have hc' := hc; (try simp at hc'); simp -implicitDefEqProofs [hc, hc'])) | (with_reducible refine cdK_em (fun hc => ?_) (fun hc => ?_) <;> (have hc' := hc; (try simp at hc'); simp -implicitDefEqProofs [hc, hc'])) | (with_reducible refine pickK_em (fun hc => ?_) (fun hc => ?_) <;> (have hc' := hc; (try simp at hc'); simp -implicitDefEqProofs [hc, hc'])))
    refine callK_fn ha (fun hd => by cases hd) ?_
    ((try simp -implicitDefEqProofs); repeat' first | (with_reducible refine gdK_em (fun hc => ?_) (fun hc => ?_) <;> (have hc' := hc; (try simp at hc'); simp -implicitDefEqProofs [hc, hc'])) | (with_reducible refine cdK_em (fun hc => ?_) (fun hc => ?_) <;> (have hc' := hc; (try simp at hc'); simp -implicitDefEqProofs [hc, hc'])) | (with_reducible refine pickK_em (fun hc => ?_) (fun hc => ?_) <;> (have hc' := hc; (try simp at hc'); simp -implicitDefEqProofs [hc, hc'])))
    refine callK_pure hfg ?_
    ((try simp -implicitDefEqProofs); repeat' first | (with_reducible refine gdK_em (fun hc => ?_) (fun hc => ?_) <;> (have hc' := hc; (try simp at hc'); simp -implicitDefEqProofs [hc, hc'])) | (with_reducible refine cdK_em (fun hc => ?_) (fun hc => ?_) <;> (have hc' := hc; (try simp at hc'); simp -implicitDefEqProofs [hc, hc'])) | (with_reducible refine pickK_em (fun hc => ?_) (fun hc => ?_) <;> (have hc' := hc; (try simp at hc'); simp -implicitDefEqProofs [hc, hc'])))
    refine callK_fn (hcn _ ?_) (fun hd => by cases hd) ?_
    · simp [OkS]
    cases any
    · ((try simp -implicitDefEqProofs [noteP]); repeat' first | (with_reducible refine gdK_em (fun hc => ?_) (fun hc => ?_) <;> (have hc' := hc; (try simp at hc'); simp -implicitDefEqProofs [hc, hc', noteP])) | (with_reducible refine cdK_em (fun hc => ?_) (fun hc => ?_) <;> (have hc' := hc; (try simp at hc'); simp -implicitDefEqProofs [hc, hc', noteP])) | (with_reducible refine pickK_em (fun hc => ?_) (fun hc => ?_) <;> (have hc' := hc; (try simp at hc'); simp -implicitDefEqProofs [hc, hc', noteP])))
    · ((try simp -implicitDefEqProofs [note0]); repeat' first | (with_reducible refine gdK_em (fun hc => ?_) (fun hc => ?_) <;> (have hc' := hc; (try simp at hc'); simp -implicitDefEqProofs [hc, hc', note0])) | (with_reducible refine cdK_em (fun hc => ?_) (fun hc => ?_) <;> (have hc' := hc; (try simp at hc'); simp -implicitDefEqProofs [hc, hc', note0])) | (with_reducible refine pickK_em (fun hc => ?_) (fun hc => ?_) <;> (have hc' := hc; (try simp at hc'); simp -implicitDefEqProofs [hc, hc', note0])))
end Go.Proofs.Ythfnaaeddlnckaa
end

/- Notes: what the reference's Make returns. -/
section
set_option linter.unusedSimpArgs false
set_option linter.unusedVariables false
set_option maxHeartbeats 4000000
set_option maxRecDepth 8000
namespace Go.Proofs.Ythfnaaeddlnckaa
open E

def early : Int := -9223372036854775808
def late : Int := 9223372036854775807
def rO (r : Res) (acc : Int) : Int := itemsI r.items acc early late
/-- The derived changes of the kinds below k. -/
def dR (before after : Res) (acc : Int) (k : Nat) (j : Nat) : Int := if 1 ≤ j ∧ j < k then ww (sumF (flat after.posts) acc (okK j) - sumF (flat before.posts) acc (okK j)) else 0
def noteR (before after : Res) (first last acc : Int) : NoteS :=
  ⟨acc, ww (rO before acc + sumF (flat before.posts) acc (okK (-1))), ww (itemsI after.items acc first last), ww (rO after acc - itemsI after.items acc first last - rO before acc),
   ww (rO after acc + sumF (flat after.posts) acc (okK (-1))), dR before after acc 11⟩
def figsR (n : NoteS) (k : Nat) : List Int := [n.o, n.d, n.c, n.l] ++ (List.range (k - 1)).map fun i => n.D (i + 1)
def makeR (g : Group) (before after : Res) (acc : Int) : NoteS × Int :=
  if validGR g = false then (note0, 1)
  else if (firstS g.cal after.per).2 ≠ 0 then (note0, 2)
  else if findS g.chart acc = none then (note0, 8)
  else if (figsR (noteR before after (firstS g.cal after.per).1 (lastS g.cal after.per).1 acc) 11).any (fun x => !amtB x) = true then (note0, 2)
  else (noteR before after (firstS g.cal after.per).1 (lastS g.cal after.per).1 acc, 0)

theorem w_rMake (g : Group) (hg : OkG g) (before after : Res) (acc : Int) : Pure Try.prog 15 [g.v, before.v, after.v, vI acc] (.tup [(makeR g before after acc).1.v, vI (makeR g before after acc).2]) := by
  have h1 := w_rgValid g hg
  have h2 := w_rFirst g.cal after.per
  have h3 := w_rLast g.cal after.per
  have h4 := w_rAccount g acc
  unfold makeR
  cases hv : validGR g
  · rw [hv] at h1
    (refine Pure.of_code mix Try.call15 k_15 (by simp) (fun hB => ?_); (try simp at hB); (try simp -implicitDefEqProofs [c_tallystoneref52_Make_15, note0]))
    ((try simp at h1); (try simp -implicitDefEqProofs [note0]); repeat' first | (with_reducible refine gdK_em (fun hc => ?_) (fun hc => ?_) <;> (have hc' := hc; (try simp at hc'); simp -implicitDefEqProofs [hc, hc', note0])) | (with_reducible refine cdK_em (fun hc => ?_) (fun hc => ?_) <;> (have hc' := hc; (try simp at hc'); simp -implicitDefEqProofs [hc, hc', note0])) | (with_reducible refine pickK_em (fun hc => ?_) (fun hc => ?_) <;> (have hc' := hc; (try simp at hc'); simp -implicitDefEqProofs [hc, hc', note0])) | (with_reducible apply callK_pure <;> first | (simp only [eras, era, eras_map]; first | with_reducible exact h1 | simpa using h1) | (simp -implicitDefEqProofs [note0])))
  rw [hv] at h1
  simp only [reduceCtorEq, if_false]
  generalize firstS g.cal after.per = F at *
  obtain ⟨first, e⟩ := F
  generalize lastS g.cal after.per = F at *
  obtain ⟨last, e2⟩ := F
  by_cases he : e = 0
  case neg =>
    have he' : (e != 0) = true := by simpa using he
    rw [if_pos he]
    (refine Pure.of_code mix Try.call15 k_15 (by simp) (fun hB => ?_); (try simp at hB); (try simp -implicitDefEqProofs [c_tallystoneref52_Make_15, note0]))
    ((try simp at h1); (try simp at h2); (try simp -implicitDefEqProofs [he', note0]); repeat' first | (with_reducible refine gdK_em (fun hc => ?_) (fun hc => ?_) <;> (have hc' := hc; (try simp at hc'); simp -implicitDefEqProofs [hc, hc', he', note0])) | (with_reducible refine cdK_em (fun hc => ?_) (fun hc => ?_) <;> (have hc' := hc; (try simp at hc'); simp -implicitDefEqProofs [hc, hc', he', note0])) | (with_reducible refine pickK_em (fun hc => ?_) (fun hc => ?_) <;> (have hc' := hc; (try simp at hc'); simp -implicitDefEqProofs [hc, hc', he', note0])) | (with_reducible apply callK_pure <;> first | (simp only [eras, era, eras_map]; first | with_reducible exact h1 | simpa using h1) | (simp -implicitDefEqProofs [he', note0])) | (with_reducible apply callK_pure <;> first | (simp only [eras, era, eras_map]; first | with_reducible exact h2 | simpa using h2) | (simp -implicitDefEqProofs [he', note0])))
  subst he
  rw [if_neg (by simp)]
  cases hf : findS g.chart acc with
  | none =>
    rw [hf] at h4
    simp only [if_true]
    (refine Pure.of_code mix Try.call15 k_15 (by simp) (fun hB => ?_); (try simp at hB); (try simp -implicitDefEqProofs [c_tallystoneref52_Make_15, note0]))
    ((try simp at h1); (try simp at h2); (try simp at h3); (try simp at h4); (try simp -implicitDefEqProofs [note0]); repeat' first | (with_reducible refine gdK_em (fun hc => ?_) (fun hc => ?_) <;> (have hc' := hc; (try simp at hc'); simp -implicitDefEqProofs [hc, hc', note0])) | (with_reducible refine cdK_em (fun hc => ?_) (fun hc => ?_) <;> (have hc' := hc; (try simp at hc'); simp -implicitDefEqProofs [hc, hc', note0])) | (with_reducible refine pickK_em (fun hc => ?_) (fun hc => ?_) <;> (have hc' := hc; (try simp at hc'); simp -implicitDefEqProofs [hc, hc', note0])) | (with_reducible apply callK_pure <;> first | (simp only [eras, era, eras_map]; first | with_reducible exact h1 | simpa using h1) | (simp -implicitDefEqProofs [note0])) | (with_reducible apply callK_pure <;> first | (simp only [eras, era, eras_map]; first | with_reducible exact h2 | simpa using h2) | (simp -implicitDefEqProofs [note0])) | (with_reducible apply callK_pure <;> first | (simp only [eras, era, eras_map]; first | with_reducible exact h3 | simpa using h3) | (simp -implicitDefEqProofs [note0])) | (with_reducible apply callK_pure <;> first | (simp only [eras, era, eras_map]; first | with_reducible exact h4 | simpa using h4) | (simp -implicitDefEqProofs [note0])))
  | some a =>
    rw [hf] at h4
    simp only [reduceCtorEq, if_false]
    have i1 := w_ritems before acc early late
    have i2 := w_ritems after acc early late
    have i3 := w_ritems after acc first last
    have p1 := fun kind => w_rparts before acc kind
    have p2 := fun kind => w_rparts after acc kind
    have p3 := p1 (-1)
    have p4 := p2 (-1)
    unfold early late at i1 i2
    simp at p1 p2
    generalize hL : figsR (noteR before after first last acc) 11 = L
    have hLl : L.length = 14 := by rw [← hL]; simp [figsR]
    generalize hR : (if (L.any fun x => !amtB x) = true then (note0, (2 : Int)) else (noteR before after first last acc, 0)) = R
    (refine Pure.of_code mix Try.call15 k_15 (by simp) (fun hB => ?_); (try simp at hB); (try simp -implicitDefEqProofs [c_tallystoneref52_Make_15, note0]))
    ((try simp at h1); (try simp at h2); (try simp at h3); (try simp at h4); (try simp at i1); (try simp at i2); (try simp at i3); (try simp at p3); (try simp at p4); (try simp -implicitDefEqProofs [wrap_ww, ww_add, ww_addr, ww_sub, ww_subr]); repeat' first | (with_reducible refine gdK_em (fun hc => ?_) (fun hc => ?_) <;> (have hc' := hc; (try simp at hc'); simp -implicitDefEqProofs [hc, hc', wrap_ww, ww_add, ww_addr, ww_sub, ww_subr])) | (with_reducible refine cdK_em (fun hc => ?_) (fun hc => ?_) <;> (have hc' := hc; (try simp at hc'); simp -implicitDefEqProofs [hc, hc', wrap_ww, ww_add, ww_addr, ww_sub, ww_subr])) | (with_reducible refine pickK_em (fun hc => ?_) (fun hc => ?_) <;> (have hc' := hc; (try simp at hc'); simp -implicitDefEqProofs [hc, hc', wrap_ww, ww_add, ww_addr, ww_sub, ww_subr])) | (with_reducible apply callK_pure <;> first | (simp only [eras, era, eras_map]; first | with_reducible exact h1 | simpa using h1) | (simp -implicitDefEqProofs [wrap_ww, ww_add, ww_addr, ww_sub, ww_subr])) | (with_reducible apply callK_pure <;> first | (simp only [eras, era, eras_map]; first | with_reducible exact h2 | simpa using h2) | (simp -implicitDefEqProofs [wrap_ww, ww_add, ww_addr, ww_sub, ww_subr])) | (with_reducible apply callK_pure <;> first | (simp only [eras, era, eras_map]; first | with_reducible exact h3 | simpa using h3) | (simp -implicitDefEqProofs [wrap_ww, ww_add, ww_addr, ww_sub, ww_subr])) | (with_reducible apply callK_pure <;> first | (simp only [eras, era, eras_map]; first | with_reducible exact h4 | simpa using h4) | (simp -implicitDefEqProofs [wrap_ww, ww_add, ww_addr, ww_sub, ww_subr])) | (with_reducible apply callK_pure <;> first | (simp only [eras, era, eras_map]; first | with_reducible exact i1 | simpa using i1) | (simp -implicitDefEqProofs [wrap_ww, ww_add, ww_addr, ww_sub, ww_subr])) | (with_reducible apply callK_pure <;> first | (simp only [eras, era, eras_map]; first | with_reducible exact i2 | simpa using i2) | (simp -implicitDefEqProofs [wrap_ww, ww_add, ww_addr, ww_sub, ww_subr])) | (with_reducible apply callK_pure <;> first | (simp only [eras, era, eras_map]; first | with_reducible exact i3 | simpa using i3) | (simp -implicitDefEqProofs [wrap_ww, ww_add, ww_addr, ww_sub, ww_subr])) | (with_reducible apply callK_pure <;> first | (simp only [eras, era, eras_map]; first | with_reducible exact p3 | simpa using p3) | (simp -implicitDefEqProofs [wrap_ww, ww_add, ww_addr, ww_sub, ww_subr])) | (with_reducible apply callK_pure <;> first | (simp only [eras, era, eras_map]; first | with_reducible exact p4 | simpa using p4) | (simp -implicitDefEqProofs [wrap_ww, ww_add, ww_addr, ww_sub, ww_subr])))
    refine loop_rule (X := Nat) (fun k => 1 ≤ k ∧ k ≤ 11) (fun k => [(3, vI acc), (5, .ptr 1 0), (6, .ptr 2 0), (8, .ptr 3 0), (18, .ptr 5 0), (19, if k = 1 then .full ((figsR (noteR before after first last acc) k).map fun x => [T.int .i64 x]) else .own 0 3 1 ((figsR (noteR before after first last acc) k).map fun x => [T.int .i64 x])), (20, vI k)])
      (fun k => ⟨[.cells (g.c.map .t), .cells (before.c.map .t), .cells (after.c.map .t), .cells (noteV 0 0 0 0 0 D0), .cells (a.c.map .t), .cells (noteV acc (noteR before after first last acc).o (noteR before after first last acc).d (noteR before after first last acc).c (noteR before after first last acc).l (dR before after acc k))], if k = 1 then [] else [k + 3]⟩) (fun k => 11 - k) 1 ⟨by omega, by omega⟩ ?_ ?_
    · simp [figsR, noteR, dR, rO, early, late]
    rintro k ⟨hk1, hk2⟩ hbd
    rcases (by omega : k = 11 ∨ k = 1 ∨ k = 2 ∨ k = 3 ∨ k = 4 ∨ k = 5 ∨ k = 6 ∨ k = 7 ∨ k = 8 ∨ k = 9 ∨ k = 10) with rfl | rfl | rfl | rfl | rfl | rfl | rfl | rfl | rfl | rfl | rfl
    · ((try simp -implicitDefEqProofs); repeat' first | (with_reducible refine gdK_em (fun hc => ?_) (fun hc => ?_) <;> (have hc' := hc; (try simp at hc'); simp -implicitDefEqProofs [hc, hc'])) | (with_reducible refine cdK_em (fun hc => ?_) (fun hc => ?_) <;> (have hc' := hc; (try simp at hc'); simp -implicitDefEqProofs [hc, hc'])) | (with_reducible refine pickK_em (fun hc => ?_) (fun hc => ?_) <;> (have hc' := hc; (try simp at hc'); simp -implicitDefEqProofs [hc, hc'])))
      rw [hL]
      refine loop_rule (X := Nat) (fun k => k ≤ L.length ∧ ∀ x ∈ L.take k, amtB x = true) (fun k => [(8, .ptr 3 0), (18, .ptr 5 0), (19, V.t (.sl (L.map fun x => [T.int .i64 x]))), (21, vI k)])
        (fun k => ⟨[.dead, .dead, .dead, .cells (noteV 0 0 0 0 0 D0), .dead, .cells (noteV acc (noteR before after first last acc).o (noteR before after first last acc).d (noteR before after first last acc).c (noteR before after first last acc).l (dR before after acc 11))], []⟩) (fun k => L.length - k) 0 ⟨by omega, by simp⟩ ?_ ?_
      · simp [leA, leC]
      rintro k ⟨hk, hn⟩ hbd2
      rcases Nat.lt_or_ge k L.length with h | h
      · have hx : L[k]? = some L[k] := by simp [h]
        have e3 : IntKind.i64.wrap ((k : Int) + 1) = (k : Int) + 1 := wrap64 (by omega) (by omega)
        have hm := w_rmon L[k]
        cases hq : amtB L[k]
        · rw [hq] at hm
          rw [if_pos (by rw [List.any_eq_true]; exact ⟨L[k], List.getElem_mem h, by simp [hq]⟩)] at hR
          subst hR
          ((try simp at hm); (try simp -implicitDefEqProofs [h, e3, note0]); repeat' first | (with_reducible refine gdK_em (fun hc => ?_) (fun hc => ?_) <;> (have hc' := hc; (try simp at hc'); simp -implicitDefEqProofs [hc, hc', h, e3, note0])) | (with_reducible refine cdK_em (fun hc => ?_) (fun hc => ?_) <;> (have hc' := hc; (try simp at hc'); simp -implicitDefEqProofs [hc, hc', h, e3, note0])) | (with_reducible refine pickK_em (fun hc => ?_) (fun hc => ?_) <;> (have hc' := hc; (try simp at hc'); simp -implicitDefEqProofs [hc, hc', h, e3, note0])) | (with_reducible apply callK_pure <;> first | (simp only [eras, era, eras_map]; first | with_reducible exact hm | simpa using hm) | (simp -implicitDefEqProofs [h, e3, note0])))
        · rw [hq] at hm
          have step : ∀ y ∈ L.take (k + 1), amtB y = true := fun y hy => by
            rw [take_next hx] at hy
            rcases List.mem_append.1 hy with h | h
            · exact hn y h
            · simp at h; subst h; exact hq
          ((try simp at hm); (try simp -implicitDefEqProofs [h, e3]); repeat' first | (with_reducible refine gdK_em (fun hc => ?_) (fun hc => ?_) <;> (have hc' := hc; (try simp at hc'); simp -implicitDefEqProofs [hc, hc', h, e3])) | (with_reducible refine cdK_em (fun hc => ?_) (fun hc => ?_) <;> (have hc' := hc; (try simp at hc'); simp -implicitDefEqProofs [hc, hc', h, e3])) | (with_reducible refine pickK_em (fun hc => ?_) (fun hc => ?_) <;> (have hc' := hc; (try simp at hc'); simp -implicitDefEqProofs [hc, hc', h, e3])) | (with_reducible apply callK_pure <;> first | (simp only [eras, era, eras_map]; first | with_reducible exact hm | simpa using hm) | (simp -implicitDefEqProofs [h, e3])))
          exact ⟨k + 1, ⟨by omega, by first | exact step | (rw [← List.map_take]; exact step) | simpa using step⟩, by omega, by omega⟩
      · have : k = L.length := by omega
        subst this
        rw [List.take_length] at hn
        rw [if_neg (by rw [List.any_eq_true]; rintro ⟨x, hx, hxx⟩; simp [hn x hx] at hxx)] at hR
        subst hR
        ((try simp -implicitDefEqProofs [noteR]); repeat' first | (with_reducible refine gdK_em (fun hc => ?_) (fun hc => ?_) <;> (have hc' := hc; (try simp at hc'); simp -implicitDefEqProofs [hc, hc', noteR])) | (with_reducible refine cdK_em (fun hc => ?_) (fun hc => ?_) <;> (have hc' := hc; (try simp at hc'); simp -implicitDefEqProofs [hc, hc', noteR])) | (with_reducible refine pickK_em (fun hc => ?_) (fun hc => ?_) <;> (have hc' := hc; (try simp at hc'); simp -implicitDefEqProofs [hc, hc', noteR])))
    all_goals
      ((try simp -implicitDefEqProofs [figsR, noteR, dR, wrap_ww, ww_sub, ww_subr, bslK]); repeat' first | (with_reducible refine gdK_em (fun hc => ?_) (fun hc => ?_) <;> (have hc' := hc; (try simp at hc'); simp -implicitDefEqProofs [hc, hc', figsR, noteR, dR, wrap_ww, ww_sub, ww_subr, bslK])) | (with_reducible refine cdK_em (fun hc => ?_) (fun hc => ?_) <;> (have hc' := hc; (try simp at hc'); simp -implicitDefEqProofs [hc, hc', figsR, noteR, dR, wrap_ww, ww_sub, ww_subr, bslK])) | (with_reducible refine pickK_em (fun hc => ?_) (fun hc => ?_) <;> (have hc' := hc; (try simp at hc'); simp -implicitDefEqProofs [hc, hc', figsR, noteR, dR, wrap_ww, ww_sub, ww_subr, bslK])) | (with_reducible apply callK_pure <;> first | (simp only [eras, era, eras_map]; first | with_reducible exact (p2 _) | simpa using (p2 _)) | (simp -implicitDefEqProofs [figsR, noteR, dR, wrap_ww, ww_sub, ww_subr, bslK])) | (with_reducible apply callK_pure <;> first | (simp only [eras, era, eras_map]; first | with_reducible exact (p1 _) | simpa using (p1 _)) | (simp -implicitDefEqProofs [figsR, noteR, dR, wrap_ww, ww_sub, ww_subr, bslK])))
    all_goals first | (exact ⟨by simp [maxLen], 2, by omega, by omega, by simp [List.range_succ, leA, leC, LeNs]⟩) | (exact ⟨by simp [maxLen], 3, by omega, by omega, by simp [List.range_succ, leA, leC, LeNs]⟩) | (exact ⟨by simp [maxLen], 4, by omega, by omega, by simp [List.range_succ, leA, leC, LeNs]⟩) | (exact ⟨by simp [maxLen], 5, by omega, by omega, by simp [List.range_succ, leA, leC, LeNs]⟩) | (exact ⟨by simp [maxLen], 6, by omega, by omega, by simp [List.range_succ, leA, leC, LeNs]⟩) | (exact ⟨by simp [maxLen], 7, by omega, by omega, by simp [List.range_succ, leA, leC, LeNs]⟩) | (exact ⟨by simp [maxLen], 8, by omega, by omega, by simp [List.range_succ, leA, leC, LeNs]⟩) | (exact ⟨by simp [maxLen], 9, by omega, by omega, by simp [List.range_succ, leA, leC, LeNs]⟩) | (exact ⟨by simp [maxLen], 10, by omega, by omega, by simp [List.range_succ, leA, leC, LeNs]⟩) | (exact ⟨by simp [maxLen], 11, by omega, by omega, by simp [List.range_succ, leA, leC, LeNs]⟩)
end Go.Proofs.Ythfnaaeddlnckaa
end
