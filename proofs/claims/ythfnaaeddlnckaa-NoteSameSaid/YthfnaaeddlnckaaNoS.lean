/- The law NoteSame. -/
import Derived.Test.YthfnaaeddlnckaaNoE
set_option linter.unusedSimpArgs false
set_option linter.unusedVariables false
set_option maxHeartbeats 8000000
set_option maxRecDepth 8000
namespace Go.Proofs.Ythfnaaeddlnckaa
open E

def befF (first : Int) (l : List Item) : List Item := l.filter fun x => decide (x.date < first)
def aftF (last : Int) (l : List Item) : List Item := l.filter fun x => decide (x.date ≤ last)
def befR (first : Int) (r : Res) : Res := ⟨r.per, befF first r.items, r.posts, r.tots⟩
def aftR (last : Int) (r : Res) : Res := ⟨r.per, aftF last r.items, r.posts, r.tots⟩
theorem bef_next {first : Int} {l : List Item} {k : Nat} {x : Item} (h : l[k]? = some x) : befF first (l.take (k + 1)) = befF first (l.take k) ++ (if x.date < first then [x] else []) := by
  rw [take_next h]; unfold befF; rw [List.filter_append]; congr 1
  by_cases hx : x.date < first <;> simp [hx]
theorem aft_next {last : Int} {l : List Item} {k : Nat} {x : Item} (h : l[k]? = some x) : aftF last (l.take (k + 1)) = aftF last (l.take k) ++ (if x.date ≤ last then [x] else []) := by
  rw [take_next h]; unfold aftF; rw [List.filter_append]; congr 1
  by_cases hx : x.date ≤ last <;> simp [hx]
theorem bef_len (first : Int) (l : List Item) (k : Nat) : (befF first (l.take k)).length ≤ k := Nat.le_trans (List.length_filter_le _ _) (by simp; omega)
theorem aft_len (last : Int) (l : List Item) (k : Nat) : (aftF last (l.take k)).length ≤ k := Nat.le_trans (List.length_filter_le _ _) (by simp; omega)

theorem sum_same0 (F : List (Int × Part)) (acc : Int) (j : Nat) : dD 1 F acc (dD (-1) F acc D0) j = 0 := by
  unfold dD
  by_cases hj : 1 ≤ j ∧ j ≤ 10
  · simp only [if_pos hj, D0_app, ww_add]
    rw [show (0 : Int) + -1 * sumF F acc (fun k => k == (j : Int)) + 1 * sumF F acc (fun k => k == (j : Int)) = 0 by omega]
    rfl
  · simp only [if_neg hj, D0_app]
theorem sumD_same0 (F : List (Int × Part)) (acc : Int) : ww (sumD (dD 1 F acc (dD (-1) F acc D0)) 11) = 0 := by
  simp [sumD, List.range_succ, sum_same0, ww_eq]
theorem split_same (l : List Item) (acc first last : Int) (h : first ≤ last + 1) : itemsO (aftF last l) acc first last = itemsA (befF first l) acc := by
  induction l with
  | nil => rfl
  | cons x l ih =>
    simp only [itemsO, itemsA, aftF, befF] at ih ⊢
    by_cases h1 : x.date < first
    · have h2 : x.date ≤ last := by omega
      have h3 : ¬ (first ≤ x.date ∧ x.date ≤ last) := by omega
      rw [List.filter_cons_of_pos (by simpa using h2), List.filter_cons_of_pos (by simpa using h1)]
      simp only [List.map_cons, List.sum_cons, ih]
      congr 1
      by_cases ha : x.acc = acc
      · rw [if_pos ⟨ha, h3⟩, if_pos ha]
      · rw [if_neg (fun hh => ha hh.1), if_neg ha]
    · rw [List.filter_cons_of_neg (p := fun x : Item => decide (x.date < first)) (by simpa using h1)]
      by_cases h2 : x.date ≤ last
      · rw [List.filter_cons_of_pos (by simpa using h2)]
        simp only [List.map_cons, List.sum_cons, ih]
        rw [if_neg (fun hh => hh.2 ⟨by omega, h2⟩)]
        omega
      · rw [List.filter_cons_of_neg (by simpa using h2)]
        exact ih
theorem days_near (c : Cal) (p : Int) (h1 : (firstS c p).2 = 0) : (firstS c p).1 ≤ (lastS c p).1 + 1 := by
  unfold firstS lastS at *
  by_cases hv : calV c = true
  · rw [if_pos hv] at h1 ⊢
    rw [if_pos hv]
    by_cases hp : p < 0 ∨ c.periods ≤ p
    · rw [if_pos hp] at h1; simp at h1
    · rw [if_neg hp, if_neg hp]
      have := days_le (mon c p / 12) (mon c p % 12 + 1)
      simp only [lastD]; omega
  · rw [if_neg hv] at h1; simp at h1
/-- What the note of a result without later items says. -/
theorem same_first (g : Group) (r : Res) (acc : Int) (hv : validGR g = true) (h1 : (firstS g.cal r.per).2 = 0) (h : (makeP g (befR (firstS g.cal r.per).1 r) (aftR (lastS g.cal r.per).1 r) acc).2 = 0) :
    (makeP g (befR (firstS g.cal r.per).1 r) (aftR (lastS g.cal r.per).1 r) acc).1.c = 0 ∧ ww (sumD (makeP g (befR (firstS g.cal r.per).1 r) (aftR (lastS g.cal r.per).1 r) acc).1.D 11) = 0 := by
  have hd : daysS g (aftR (lastS g.cal r.per).1 r).per = ((firstS g.cal r.per).1, (lastS g.cal r.per).1, 0) := by
    show daysS g r.per = _
    unfold daysS
    rw [group_agree, if_neg (by simp [hv]), if_pos h1]
  unfold makeP at h ⊢
  rw [hd] at h ⊢
  rw [if_neg (by simp)] at h ⊢
  split
  · rename_i h2; rw [if_pos h2] at h; simp at h
  rename_i h2
  rw [if_neg h2] at h
  split
  · rename_i h3; rw [if_pos h3] at h; simp at h
  · refine ⟨?_, sumD_same0 _ _⟩
    simp only [noteP, befR, aftR, split_same _ _ _ _ (days_near g.cal r.per h1)]
    simp only [ww_eq]; omega
theorem same_self (g : Group) (r : Res) (acc : Int) (h : (makeP g r r acc).2 = 0) : (makeP g r r acc).1.d = ww (0 - (makeP g r r acc).1.c) ∧ (∀ j, (makeP g r r acc).1.D j = 0) ∧ (makeP g r r acc).1.o = (makeP g r r acc).1.l := by
  unfold makeP at h ⊢
  split
  · rename_i h1; rw [if_pos h1] at h; exact absurd h h1
  rename_i h1
  rw [if_neg h1] at h
  split
  · rename_i h2; rw [if_pos h2] at h; simp at h
  rename_i h2
  rw [if_neg h2] at h
  split
  · rename_i h3; rw [if_pos h3] at h; simp at h
  · refine ⟨?_, sum_same0 _ _, rfl⟩
    simp only [noteP]
    rw [itemsA_split r.items acc (daysS g r.per).1 (daysS g r.per).2.1]
    simp only [ww_eq]; omega

theorem l_NoteSame (hw : Pure Try.prog 12 [] (vB true)) (g : Group) (r : Res) (acc : Int) (hg : WfG g) :
    Pure Try.prog 6 [g.v, r.v, vI acc] (vB true) := by
  have hf := w_few g r r
  cases hfe : fewAll g r r
  · rw [hfe] at hf
    (refine Pure.of_code mix Try.call6 k_6 (by simp) (fun hB => ?_); (try simp at hB); (try simp -implicitDefEqProofs [c_tallystonelaw52_NoteSame_6]))
    ((try simp at hw); (try simp at hf); (try simp -implicitDefEqProofs); repeat' first | (with_reducible refine gdK_em (fun hc => ?_) (fun hc => ?_) <;> (have hc' := hc; (try simp at hc'); simp -implicitDefEqProofs [hc, hc'])) | (with_reducible refine cdK_em (fun hc => ?_) (fun hc => ?_) <;> (have hc' := hc; (try simp at hc'); simp -implicitDefEqProofs [hc, hc'])) | (with_reducible refine pickK_em (fun hc => ?_) (fun hc => ?_) <;> (have hc' := hc; (try simp at hc'); simp -implicitDefEqProofs [hc, hc'])) | (with_reducible apply callK_pure <;> first | (simp only [eras, era, eras_map]; first | with_reducible exact hw | simpa using hw) | (simp -implicitDefEqProofs)) | (with_reducible apply callK_pure <;> first | (simp only [eras, era, eras_map]; first | with_reducible exact hf | simpa using hf) | (simp -implicitDefEqProofs)))
  rw [hfe] at hf
  simp only [fewAll, Bool.and_eq_true] at hfe
  have ok := okG_of hg hfe.1.1
  have hln := (few52_len hfe.2).1
  have hv := w_rgValid g ok
  cases hve : validGR g
  · rw [hve] at hv
    (refine Pure.of_code mix Try.call6 k_6 (by simp) (fun hB => ?_); (try simp at hB); (try simp -implicitDefEqProofs [c_tallystonelaw52_NoteSame_6]))
    ((try simp at hw); (try simp at hf); (try simp at hv); (try simp -implicitDefEqProofs); repeat' first | (with_reducible refine gdK_em (fun hc => ?_) (fun hc => ?_) <;> (have hc' := hc; (try simp at hc'); simp -implicitDefEqProofs [hc, hc'])) | (with_reducible refine cdK_em (fun hc => ?_) (fun hc => ?_) <;> (have hc' := hc; (try simp at hc'); simp -implicitDefEqProofs [hc, hc'])) | (with_reducible refine pickK_em (fun hc => ?_) (fun hc => ?_) <;> (have hc' := hc; (try simp at hc'); simp -implicitDefEqProofs [hc, hc'])) | (with_reducible apply callK_pure <;> first | (simp only [eras, era, eras_map]; first | with_reducible exact hw | simpa using hw) | (simp -implicitDefEqProofs)) | (with_reducible apply callK_pure <;> first | (simp only [eras, era, eras_map]; first | with_reducible exact hf | simpa using hf) | (simp -implicitDefEqProofs)) | (with_reducible apply callK_pure <;> first | (simp only [eras, era, eras_map]; first | with_reducible exact hv | simpa using hv) | (simp -implicitDefEqProofs)))
  rw [hve] at hv
  have p1 := w_rFirst g.cal r.per
  have p2 := w_rLast g.cal r.per
  have hs1 := same_first g r acc hve
  have hs2 := same_self g r acc
  have m1 := w_nMake g ok (befR (firstS g.cal r.per).1 r) (aftR (lastS g.cal r.per).1 r) acc
  have m2 := w_nMake g ok r r acc
  generalize makeP g (befR (firstS g.cal r.per).1 r) (aftR (lastS g.cal r.per).1 r) acc = M1 at *
  generalize makeP g r r acc = M2 at *
  obtain ⟨n1, e1⟩ := M1
  obtain ⟨n2, e2⟩ := M2
  have s1 := w_nSum n1
  unfold befR aftR at m1
  generalize firstS g.cal r.per = F1 at *
  generalize lastS g.cal r.per = F2 at *
  obtain ⟨first, f1⟩ := F1
  obtain ⟨last, f2⟩ := F2
  by_cases q1 : f1 = 0
  case neg =>
    have q1' : (f1 != 0) = true := by simpa using q1
    (refine Pure.of_code mix Try.call6 k_6 (by simp) (fun hB => ?_); (try simp at hB); (try simp -implicitDefEqProofs [c_tallystonelaw52_NoteSame_6]))
    ((try simp at hw); (try simp at hf); (try simp at hv); (try simp at p1); (try simp at p2); (try simp -implicitDefEqProofs [q1']); repeat' first | (with_reducible refine gdK_em (fun hc => ?_) (fun hc => ?_) <;> (have hc' := hc; (try simp at hc'); simp -implicitDefEqProofs [hc, hc', q1'])) | (with_reducible refine cdK_em (fun hc => ?_) (fun hc => ?_) <;> (have hc' := hc; (try simp at hc'); simp -implicitDefEqProofs [hc, hc', q1'])) | (with_reducible refine pickK_em (fun hc => ?_) (fun hc => ?_) <;> (have hc' := hc; (try simp at hc'); simp -implicitDefEqProofs [hc, hc', q1'])) | (with_reducible apply callK_pure <;> first | (simp only [eras, era, eras_map]; first | with_reducible exact hw | simpa using hw) | (simp -implicitDefEqProofs [q1'])) | (with_reducible apply callK_pure <;> first | (simp only [eras, era, eras_map]; first | with_reducible exact hf | simpa using hf) | (simp -implicitDefEqProofs [q1'])) | (with_reducible apply callK_pure <;> first | (simp only [eras, era, eras_map]; first | with_reducible exact hv | simpa using hv) | (simp -implicitDefEqProofs [q1'])) | (with_reducible apply callK_pure <;> first | (simp only [eras, era, eras_map]; first | with_reducible exact p1 | simpa using p1) | (simp -implicitDefEqProofs [q1'])) | (with_reducible apply callK_pure <;> first | (simp only [eras, era, eras_map]; first | with_reducible exact p2 | simpa using p2) | (simp -implicitDefEqProofs [q1'])))
  by_cases q2 : f2 = 0
  case neg =>
    have q2' : (f2 != 0) = true := by simpa using q2
    subst q1
    (refine Pure.of_code mix Try.call6 k_6 (by simp) (fun hB => ?_); (try simp at hB); (try simp -implicitDefEqProofs [c_tallystonelaw52_NoteSame_6]))
    ((try simp at hw); (try simp at hf); (try simp at hv); (try simp at p1); (try simp at p2); (try simp -implicitDefEqProofs [q2']); repeat' first | (with_reducible refine gdK_em (fun hc => ?_) (fun hc => ?_) <;> (have hc' := hc; (try simp at hc'); simp -implicitDefEqProofs [hc, hc', q2'])) | (with_reducible refine cdK_em (fun hc => ?_) (fun hc => ?_) <;> (have hc' := hc; (try simp at hc'); simp -implicitDefEqProofs [hc, hc', q2'])) | (with_reducible refine pickK_em (fun hc => ?_) (fun hc => ?_) <;> (have hc' := hc; (try simp at hc'); simp -implicitDefEqProofs [hc, hc', q2'])) | (with_reducible apply callK_pure <;> first | (simp only [eras, era, eras_map]; first | with_reducible exact hw | simpa using hw) | (simp -implicitDefEqProofs [q2'])) | (with_reducible apply callK_pure <;> first | (simp only [eras, era, eras_map]; first | with_reducible exact hf | simpa using hf) | (simp -implicitDefEqProofs [q2'])) | (with_reducible apply callK_pure <;> first | (simp only [eras, era, eras_map]; first | with_reducible exact hv | simpa using hv) | (simp -implicitDefEqProofs [q2'])) | (with_reducible apply callK_pure <;> first | (simp only [eras, era, eras_map]; first | with_reducible exact p1 | simpa using p1) | (simp -implicitDefEqProofs [q2'])) | (with_reducible apply callK_pure <;> first | (simp only [eras, era, eras_map]; first | with_reducible exact p2 | simpa using p2) | (simp -implicitDefEqProofs [q2'])))
  subst q1
  subst q2
  (refine Pure.of_code mix Try.call6 k_6 (by simp) (fun hB => ?_); (try simp at hB); (try simp -implicitDefEqProofs [c_tallystonelaw52_NoteSame_6]))
  ((try simp at hw); (try simp at hf); (try simp at hv); (try simp at p1); (try simp at p2); (try simp -implicitDefEqProofs); repeat' first | (with_reducible refine gdK_em (fun hc => ?_) (fun hc => ?_) <;> (have hc' := hc; (try simp at hc'); simp -implicitDefEqProofs [hc, hc'])) | (with_reducible refine cdK_em (fun hc => ?_) (fun hc => ?_) <;> (have hc' := hc; (try simp at hc'); simp -implicitDefEqProofs [hc, hc'])) | (with_reducible refine pickK_em (fun hc => ?_) (fun hc => ?_) <;> (have hc' := hc; (try simp at hc'); simp -implicitDefEqProofs [hc, hc'])) | (with_reducible apply callK_pure <;> first | (simp only [eras, era, eras_map]; first | with_reducible exact hw | simpa using hw) | (simp -implicitDefEqProofs)) | (with_reducible apply callK_pure <;> first | (simp only [eras, era, eras_map]; first | with_reducible exact hf | simpa using hf) | (simp -implicitDefEqProofs)) | (with_reducible apply callK_pure <;> first | (simp only [eras, era, eras_map]; first | with_reducible exact hv | simpa using hv) | (simp -implicitDefEqProofs)) | (with_reducible apply callK_pure <;> first | (simp only [eras, era, eras_map]; first | with_reducible exact p1 | simpa using p1) | (simp -implicitDefEqProofs)) | (with_reducible apply callK_pure <;> first | (simp only [eras, era, eras_map]; first | with_reducible exact p2 | simpa using p2) | (simp -implicitDefEqProofs)))
  repeat' with_reducible apply And.intro
  all_goals
    first
    | (refine loop_grow [(.cell 2 1, 62, 7), (.cell 3 1, 62, 7)] (X := Nat) (fun k => k ≤ r.items.length) (fun k => [(2, vI acc), (3, .ptr 0 0), (4, .ptr 1 0), (7, vI first), (9, vI last), (11, .ptr 2 0), (12, .ptr 3 0), (61, Item.l r.items), (62, vI r.items.length), (63, vI k)]) (fun k => ⟨[.cells (g.c.map .t), .cells (r.c.map .t), .cells [vI r.per, .own 0 62 7 ((befF first (r.items.take k)).map Item.c), .t (.sl (r.posts.map Posting.c)), .t (.sl (r.tots.map Bal.c))], .cells [vI r.per, .own 1 62 7 ((aftF last (r.items.take k)).map Item.c), .t (.sl (r.posts.map Posting.c)), .t (.sl (r.tots.map Bal.c))]], [(befF first (r.items.take k)).length, (aftF last (r.items.take k)).length]⟩) (fun k => r.items.length - k) 0 (by omega) ?hs ?_; (case hs => (simp [befF, aftF]; done)))
    | (refine loop_grow [(.cell 3 1, 62, 7), (.cell 2 1, 62, 7)] (X := Nat) (fun k => k ≤ r.items.length) (fun k => [(2, vI acc), (3, .ptr 0 0), (4, .ptr 1 0), (7, vI first), (9, vI last), (11, .ptr 3 0), (12, .ptr 2 0), (61, Item.l r.items), (62, vI r.items.length), (63, vI k)]) (fun k => ⟨[.cells (g.c.map .t), .cells (r.c.map .t), .cells [vI r.per, .own 1 62 7 ((aftF last (r.items.take k)).map Item.c), .t (.sl (r.posts.map Posting.c)), .t (.sl (r.tots.map Bal.c))], .cells [vI r.per, .own 0 62 7 ((befF first (r.items.take k)).map Item.c), .t (.sl (r.posts.map Posting.c)), .t (.sl (r.tots.map Bal.c))]], [(befF first (r.items.take k)).length, (aftF last (r.items.take k)).length]⟩) (fun k => r.items.length - k) 0 (by omega) ?hs ?_; (case hs => (simp [befF, aftF]; done)))
  all_goals
    rintro k hk hbd
    rcases Nat.lt_or_ge k r.items.length with h | h
    · have hx : r.items[k]? = some r.items[k] := by simp [h]
      have e3 : IntKind.i64.wrap ((k : Int) + 1) = (k : Int) + 1 := wrap64 (by omega) (by omega)
      have hb1 := bef_next (first := first) hx
      have hb2 := aft_next (last := last) hx
      have l1 := bef_len first r.items k
      have l2 := aft_len last r.items k
      generalize befF first (r.items.take k) = Bk at *
      generalize aftF last (r.items.take k) = Ak at *
      by_cases d1 : r.items[k].date < first <;> by_cases d2 : r.items[k].date ≤ last <;> simp only [d1, d2, if_true, if_false, List.append_nil] at hb1 hb2
      · ((try simp -implicitDefEqProofs [h, e3, d1, d2, maxLen]); repeat' first | (with_reducible refine gdK_em (fun hc => ?_) (fun hc => ?_) <;> (have hc' := hc; (try simp at hc'); simp -implicitDefEqProofs [hc, hc', h, e3, d1, d2, maxLen])) | (with_reducible refine cdK_em (fun hc => ?_) (fun hc => ?_) <;> (have hc' := hc; (try simp at hc'); simp -implicitDefEqProofs [hc, hc', h, e3, d1, d2, maxLen])) | (with_reducible refine pickK_em (fun hc => ?_) (fun hc => ?_) <;> (have hc' := hc; (try simp at hc'); simp -implicitDefEqProofs [hc, hc', h, e3, d1, d2, maxLen])))
        exact ⟨⟨by omega, by omega⟩, ⟨by omega, by omega⟩, k + 1, by omega, by omega, ⟨⟨by first | omega | (rw [hb1]; done) | (rw [hb2]; done) | (rw [hb1]; simp; done) | (rw [hb2]; simp; done) | (rw [hb1, List.map_append]; exact .inl rfl) | (rw [hb2, List.map_append]; exact .inl rfl) | (rw [hb1]; exact .inl rfl) | (rw [hb2]; exact .inl rfl), by first | omega | (rw [hb1]; done) | (rw [hb2]; done) | (rw [hb1]; simp; done) | (rw [hb2]; simp; done) | (rw [hb1, List.map_append]; exact .inl rfl) | (rw [hb2, List.map_append]; exact .inl rfl) | (rw [hb1]; exact .inl rfl) | (rw [hb2]; exact .inl rfl)⟩, by first | omega | (rw [hb1]; done) | (rw [hb2]; done) | (rw [hb1]; simp; done) | (rw [hb2]; simp; done) | (rw [hb1, List.map_append]; exact .inl rfl) | (rw [hb2, List.map_append]; exact .inl rfl) | (rw [hb1]; exact .inl rfl) | (rw [hb2]; exact .inl rfl), by first | omega | (rw [hb1]; done) | (rw [hb2]; done) | (rw [hb1]; simp; done) | (rw [hb2]; simp; done) | (rw [hb1, List.map_append]; exact .inl rfl) | (rw [hb2, List.map_append]; exact .inl rfl) | (rw [hb1]; exact .inl rfl) | (rw [hb2]; exact .inl rfl)⟩, by omega⟩
      · ((try simp -implicitDefEqProofs [h, e3, d1, d2, maxLen]); repeat' first | (with_reducible refine gdK_em (fun hc => ?_) (fun hc => ?_) <;> (have hc' := hc; (try simp at hc'); simp -implicitDefEqProofs [hc, hc', h, e3, d1, d2, maxLen])) | (with_reducible refine cdK_em (fun hc => ?_) (fun hc => ?_) <;> (have hc' := hc; (try simp at hc'); simp -implicitDefEqProofs [hc, hc', h, e3, d1, d2, maxLen])) | (with_reducible refine pickK_em (fun hc => ?_) (fun hc => ?_) <;> (have hc' := hc; (try simp at hc'); simp -implicitDefEqProofs [hc, hc', h, e3, d1, d2, maxLen])))
        exact ⟨⟨by omega, by omega⟩, k + 1, by omega, by omega, ⟨⟨by first | omega | (rw [hb1]; done) | (rw [hb2]; done) | (rw [hb1]; simp; done) | (rw [hb2]; simp; done) | (rw [hb1, List.map_append]; exact .inl rfl) | (rw [hb2, List.map_append]; exact .inl rfl) | (rw [hb1]; exact .inl rfl) | (rw [hb2]; exact .inl rfl), by first | omega | (rw [hb1]; done) | (rw [hb2]; done) | (rw [hb1]; simp; done) | (rw [hb2]; simp; done) | (rw [hb1, List.map_append]; exact .inl rfl) | (rw [hb2, List.map_append]; exact .inl rfl) | (rw [hb1]; exact .inl rfl) | (rw [hb2]; exact .inl rfl)⟩, by first | omega | (rw [hb1]; done) | (rw [hb2]; done) | (rw [hb1]; simp; done) | (rw [hb2]; simp; done) | (rw [hb1, List.map_append]; exact .inl rfl) | (rw [hb2, List.map_append]; exact .inl rfl) | (rw [hb1]; exact .inl rfl) | (rw [hb2]; exact .inl rfl), by first | omega | (rw [hb1]; done) | (rw [hb2]; done) | (rw [hb1]; simp; done) | (rw [hb2]; simp; done) | (rw [hb1, List.map_append]; exact .inl rfl) | (rw [hb2, List.map_append]; exact .inl rfl) | (rw [hb1]; exact .inl rfl) | (rw [hb2]; exact .inl rfl)⟩, by omega⟩
      · ((try simp -implicitDefEqProofs [h, e3, d1, d2, maxLen]); repeat' first | (with_reducible refine gdK_em (fun hc => ?_) (fun hc => ?_) <;> (have hc' := hc; (try simp at hc'); simp -implicitDefEqProofs [hc, hc', h, e3, d1, d2, maxLen])) | (with_reducible refine cdK_em (fun hc => ?_) (fun hc => ?_) <;> (have hc' := hc; (try simp at hc'); simp -implicitDefEqProofs [hc, hc', h, e3, d1, d2, maxLen])) | (with_reducible refine pickK_em (fun hc => ?_) (fun hc => ?_) <;> (have hc' := hc; (try simp at hc'); simp -implicitDefEqProofs [hc, hc', h, e3, d1, d2, maxLen])))
        exact ⟨⟨by omega, by omega⟩, k + 1, by omega, by omega, ⟨⟨by first | omega | (rw [hb1]; done) | (rw [hb2]; done) | (rw [hb1]; simp; done) | (rw [hb2]; simp; done) | (rw [hb1, List.map_append]; exact .inl rfl) | (rw [hb2, List.map_append]; exact .inl rfl) | (rw [hb1]; exact .inl rfl) | (rw [hb2]; exact .inl rfl), by first | omega | (rw [hb1]; done) | (rw [hb2]; done) | (rw [hb1]; simp; done) | (rw [hb2]; simp; done) | (rw [hb1, List.map_append]; exact .inl rfl) | (rw [hb2, List.map_append]; exact .inl rfl) | (rw [hb1]; exact .inl rfl) | (rw [hb2]; exact .inl rfl)⟩, by first | omega | (rw [hb1]; done) | (rw [hb2]; done) | (rw [hb1]; simp; done) | (rw [hb2]; simp; done) | (rw [hb1, List.map_append]; exact .inl rfl) | (rw [hb2, List.map_append]; exact .inl rfl) | (rw [hb1]; exact .inl rfl) | (rw [hb2]; exact .inl rfl), by first | omega | (rw [hb1]; done) | (rw [hb2]; done) | (rw [hb1]; simp; done) | (rw [hb2]; simp; done) | (rw [hb1, List.map_append]; exact .inl rfl) | (rw [hb2, List.map_append]; exact .inl rfl) | (rw [hb1]; exact .inl rfl) | (rw [hb2]; exact .inl rfl)⟩, by omega⟩
      · ((try simp -implicitDefEqProofs [h, e3, d1, d2, maxLen]); repeat' first | (with_reducible refine gdK_em (fun hc => ?_) (fun hc => ?_) <;> (have hc' := hc; (try simp at hc'); simp -implicitDefEqProofs [hc, hc', h, e3, d1, d2, maxLen])) | (with_reducible refine cdK_em (fun hc => ?_) (fun hc => ?_) <;> (have hc' := hc; (try simp at hc'); simp -implicitDefEqProofs [hc, hc', h, e3, d1, d2, maxLen])) | (with_reducible refine pickK_em (fun hc => ?_) (fun hc => ?_) <;> (have hc' := hc; (try simp at hc'); simp -implicitDefEqProofs [hc, hc', h, e3, d1, d2, maxLen])))
        exact ⟨k + 1, by omega, by omega, ⟨⟨by first | omega | (rw [hb1]; done) | (rw [hb2]; done) | (rw [hb1]; simp; done) | (rw [hb2]; simp; done) | (rw [hb1, List.map_append]; exact .inl rfl) | (rw [hb2, List.map_append]; exact .inl rfl) | (rw [hb1]; exact .inl rfl) | (rw [hb2]; exact .inl rfl), by first | omega | (rw [hb1]; done) | (rw [hb2]; done) | (rw [hb1]; simp; done) | (rw [hb2]; simp; done) | (rw [hb1, List.map_append]; exact .inl rfl) | (rw [hb2, List.map_append]; exact .inl rfl) | (rw [hb1]; exact .inl rfl) | (rw [hb2]; exact .inl rfl)⟩, by first | omega | (rw [hb1]; done) | (rw [hb2]; done) | (rw [hb1]; simp; done) | (rw [hb2]; simp; done) | (rw [hb1, List.map_append]; exact .inl rfl) | (rw [hb2, List.map_append]; exact .inl rfl) | (rw [hb1]; exact .inl rfl) | (rw [hb2]; exact .inl rfl), by first | omega | (rw [hb1]; done) | (rw [hb2]; done) | (rw [hb1]; simp; done) | (rw [hb2]; simp; done) | (rw [hb1, List.map_append]; exact .inl rfl) | (rw [hb2, List.map_append]; exact .inl rfl) | (rw [hb1]; exact .inl rfl) | (rw [hb2]; exact .inl rfl)⟩, by omega⟩
    · have : k = r.items.length := by omega
      subst this
      rw [List.take_length]
      by_cases he1 : e1 = 0 <;> by_cases he2 : e2 = 0
      · subst he1
        subst he2
        obtain ⟨c1, c2⟩ := hs1 rfl rfl
        obtain ⟨c3, c4, c5⟩ := hs2 rfl
        obtain ⟨na, no, nd, nc, nl, nD⟩ := n1
        obtain ⟨ma, mo, md, mc, ml, mD⟩ := n2
        simp only at c1 c2 c3 c4 c5
        subst c1 c3 c5
        ((try simp at m1); (try simp at m2); (try simp at s1); (try simp -implicitDefEqProofs [c2, c4, wrap_ww]); repeat' first | (with_reducible refine gdK_em (fun hc => ?_) (fun hc => ?_) <;> (have hc' := hc; (try simp at hc'); simp -implicitDefEqProofs [hc, hc', c2, c4, wrap_ww])) | (with_reducible refine cdK_em (fun hc => ?_) (fun hc => ?_) <;> (have hc' := hc; (try simp at hc'); simp -implicitDefEqProofs [hc, hc', c2, c4, wrap_ww])) | (with_reducible refine pickK_em (fun hc => ?_) (fun hc => ?_) <;> (have hc' := hc; (try simp at hc'); simp -implicitDefEqProofs [hc, hc', c2, c4, wrap_ww])) | (with_reducible apply callK_pure <;> first | (simp only [eras, era, eras_map]; first | with_reducible exact m1 | simpa using m1) | (simp -implicitDefEqProofs [c2, c4, wrap_ww])) | (with_reducible apply callK_pure <;> first | (simp only [eras, era, eras_map]; first | with_reducible exact m2 | simpa using m2) | (simp -implicitDefEqProofs [c2, c4, wrap_ww])) | (with_reducible apply callK_pure <;> first | (simp only [eras, era, eras_map]; first | with_reducible exact s1 | simpa using s1) | (simp -implicitDefEqProofs [c2, c4, wrap_ww])))
      · subst he1
        have he2' : (e2 != 0) = true := by simpa using he2
        obtain ⟨c1, c2⟩ := hs1 rfl rfl
        obtain ⟨na, no, nd, nc, nl, nD⟩ := n1
        simp only at c1 c2
        subst c1
        ((try simp at m1); (try simp at m2); (try simp at s1); (try simp -implicitDefEqProofs [c2, he2', wrap_ww]); repeat' first | (with_reducible refine gdK_em (fun hc => ?_) (fun hc => ?_) <;> (have hc' := hc; (try simp at hc'); simp -implicitDefEqProofs [hc, hc', c2, he2', wrap_ww])) | (with_reducible refine cdK_em (fun hc => ?_) (fun hc => ?_) <;> (have hc' := hc; (try simp at hc'); simp -implicitDefEqProofs [hc, hc', c2, he2', wrap_ww])) | (with_reducible refine pickK_em (fun hc => ?_) (fun hc => ?_) <;> (have hc' := hc; (try simp at hc'); simp -implicitDefEqProofs [hc, hc', c2, he2', wrap_ww])) | (with_reducible apply callK_pure <;> first | (simp only [eras, era, eras_map]; first | with_reducible exact m1 | simpa using m1) | (simp -implicitDefEqProofs [c2, he2', wrap_ww])) | (with_reducible apply callK_pure <;> first | (simp only [eras, era, eras_map]; first | with_reducible exact m2 | simpa using m2) | (simp -implicitDefEqProofs [c2, he2', wrap_ww])) | (with_reducible apply callK_pure <;> first | (simp only [eras, era, eras_map]; first | with_reducible exact s1 | simpa using s1) | (simp -implicitDefEqProofs [c2, he2', wrap_ww])))
      · subst he2
        have he1' : (e1 == 0) = false := by simpa using he1
        obtain ⟨c3, c4, c5⟩ := hs2 rfl
        obtain ⟨ma, mo, md, mc, ml, mD⟩ := n2
        simp only at c3 c4 c5
        subst c3 c5
        ((try simp at m1); (try simp at m2); (try simp -implicitDefEqProofs [c4, he1', wrap_ww]); repeat' first | (with_reducible refine gdK_em (fun hc => ?_) (fun hc => ?_) <;> (have hc' := hc; (try simp at hc'); simp -implicitDefEqProofs [hc, hc', c4, he1', wrap_ww])) | (with_reducible refine cdK_em (fun hc => ?_) (fun hc => ?_) <;> (have hc' := hc; (try simp at hc'); simp -implicitDefEqProofs [hc, hc', c4, he1', wrap_ww])) | (with_reducible refine pickK_em (fun hc => ?_) (fun hc => ?_) <;> (have hc' := hc; (try simp at hc'); simp -implicitDefEqProofs [hc, hc', c4, he1', wrap_ww])) | (with_reducible apply callK_pure <;> first | (simp only [eras, era, eras_map]; first | with_reducible exact m1 | simpa using m1) | (simp -implicitDefEqProofs [c4, he1', wrap_ww])) | (with_reducible apply callK_pure <;> first | (simp only [eras, era, eras_map]; first | with_reducible exact m2 | simpa using m2) | (simp -implicitDefEqProofs [c4, he1', wrap_ww])))
      · have he1' : (e1 == 0) = false := by simpa using he1
        have he2' : (e2 != 0) = true := by simpa using he2
        ((try simp at m1); (try simp at m2); (try simp -implicitDefEqProofs [he1', he2']); repeat' first | (with_reducible refine gdK_em (fun hc => ?_) (fun hc => ?_) <;> (have hc' := hc; (try simp at hc'); simp -implicitDefEqProofs [hc, hc', he1', he2'])) | (with_reducible refine cdK_em (fun hc => ?_) (fun hc => ?_) <;> (have hc' := hc; (try simp at hc'); simp -implicitDefEqProofs [hc, hc', he1', he2'])) | (with_reducible refine pickK_em (fun hc => ?_) (fun hc => ?_) <;> (have hc' := hc; (try simp at hc'); simp -implicitDefEqProofs [hc, hc', he1', he2'])) | (with_reducible apply callK_pure <;> first | (simp only [eras, era, eras_map]; first | with_reducible exact m1 | simpa using m1) | (simp -implicitDefEqProofs [he1', he2'])) | (with_reducible apply callK_pure <;> first | (simp only [eras, era, eras_map]; first | with_reducible exact m2 | simpa using m2) | (simp -implicitDefEqProofs [he1', he2'])))
end Go.Proofs.Ythfnaaeddlnckaa
