/- The law NoteOrder. -/
import Derived.Test.YthfnaaeddlnckaaNoE
set_option linter.unusedSimpArgs false
set_option linter.unusedVariables false
set_option maxHeartbeats 4000000
set_option maxRecDepth 8000
namespace Go.Proofs.Ythfnaaeddlnckaa
open E

def backR (r : Res) : Res := ⟨r.per, r.items.reverse, r.posts.reverse, []⟩
theorem rev_next {α : Type} {l : List α} (c : α → List T) {k : Nat} (h : k < l.length) (h2 : l.length - 1 - k < l.length) : (l.map c).reverse.take (k + 1) = (l.map c).reverse.take k ++ [c l[l.length - 1 - k]] := by
  rw [take_next (x := c l[l.length - 1 - k]) (by simp [h])]
theorem w_back (r : Res) (h1 : r.items.length ≤ 150) (h2 : r.posts.length ≤ 60) : Pure Try.prog 27 [r.v] (backR r).v := by
  (refine Pure.of_code mix Try.call27 k_27 (by simp) (fun hB => ?_); (try simp at hB); (try simp -implicitDefEqProofs [c_tallystonelaw52_NoteOrderS1_27]))
  refine loop_grow [(.cell 2 1, 62, 7)] (X := Nat) (fun k => k ≤ r.items.length) (fun k => [(1, .ptr 0 0), (2, .ptr 1 0), (3, .ptr 2 0), (11, vI r.items.length), (12, vI k)])
    (fun k => ⟨[.cells (r.c.map .t), .cells [vI 0, .snil, .snil, .snil], .cells [vI r.per, .own 0 62 7 ((r.items.reverse.take k).map Item.c), .snil, .snil]], [k]⟩) (fun k => r.items.length - k) 0 (by omega) (by simp) ?_
  rintro k hk hbd
  rcases Nat.lt_or_ge k r.items.length with h | h
  · have h' : r.items.length - 1 - k < r.items.length := by omega
    have e3 : IntKind.i64.wrap ((k : Int) + 1) = (k : Int) + 1 := wrap64 (by omega) (by omega)
    have e4 : IntKind.i64.wrap ((r.items.length : Int) - 1) = (r.items.length : Int) - 1 := wrap64 (by omega) (by omega)
    have e5 : IntKind.i64.wrap ((r.items.length : Int) - 1 - k) = ((r.items.length - 1 - k : Nat) : Int) := by rw [wrap64 (by omega) (by omega)]; omega
    have hrv := rev_next Item.c h h'
    have hmin : min k r.items.length = k := by omega
    generalize hj : r.items.length - 1 - k = j at *
    ((try simp -implicitDefEqProofs [h, h', e3, e4, e5, maxLen, hmin]); repeat' first | (with_reducible refine gdK_em (fun hc => ?_) (fun hc => ?_) <;> (have hc' := hc; (try simp at hc'); simp -implicitDefEqProofs [hc, hc', h, h', e3, e4, e5, maxLen, hmin])) | (with_reducible refine cdK_em (fun hc => ?_) (fun hc => ?_) <;> (have hc' := hc; (try simp at hc'); simp -implicitDefEqProofs [hc, hc', h, h', e3, e4, e5, maxLen, hmin])) | (with_reducible refine pickK_em (fun hc => ?_) (fun hc => ?_) <;> (have hc' := hc; (try simp at hc'); simp -implicitDefEqProofs [hc, hc', h, h', e3, e4, e5, maxLen, hmin])))
    exact ⟨⟨by omega, by omega⟩, k + 1, by omega, by omega, ⟨by rw [hrv]; exact .inl rfl, rfl⟩, by omega⟩
  have : k = r.items.length := by omega
  subst this
  have ht : (r.items.map Item.c).reverse.take r.items.length = (r.items.map Item.c).reverse := List.take_of_length_le (by simp)
  ((try simp -implicitDefEqProofs [ht]); repeat' first | (with_reducible refine gdK_em (fun hc => ?_) (fun hc => ?_) <;> (have hc' := hc; (try simp at hc'); simp -implicitDefEqProofs [hc, hc', ht])) | (with_reducible refine cdK_em (fun hc => ?_) (fun hc => ?_) <;> (have hc' := hc; (try simp at hc'); simp -implicitDefEqProofs [hc, hc', ht])) | (with_reducible refine pickK_em (fun hc => ?_) (fun hc => ?_) <;> (have hc' := hc; (try simp at hc'); simp -implicitDefEqProofs [hc, hc', ht])))
  refine loop_grow [(.cell 2 2, 55, 5)] (X := Nat) (fun k => k ≤ r.posts.length) (fun k => [(1, .ptr 0 0), (2, .ptr 1 0), (3, .ptr 2 0), (33, vI r.posts.length), (34, vI k)])
    (fun k => ⟨[.cells (r.c.map .t), .cells [vI 0, .snil, .snil, .snil], .cells [vI r.per, .own 0 62 7 (r.items.reverse.map Item.c), .own 1 55 5 ((r.posts.reverse.take k).map Posting.c), .snil]], [r.items.length, k]⟩) (fun k => r.posts.length - k) 0 (by omega) (by simp) ?_
  rintro k hk hbd
  rcases Nat.lt_or_ge k r.posts.length with h | h
  · have h' : r.posts.length - 1 - k < r.posts.length := by omega
    have e3 : IntKind.i64.wrap ((k : Int) + 1) = (k : Int) + 1 := wrap64 (by omega) (by omega)
    have e4 : IntKind.i64.wrap ((r.posts.length : Int) - 1) = (r.posts.length : Int) - 1 := wrap64 (by omega) (by omega)
    have e5 : IntKind.i64.wrap ((r.posts.length : Int) - 1 - k) = ((r.posts.length - 1 - k : Nat) : Int) := by rw [wrap64 (by omega) (by omega)]; omega
    have hrv := rev_next Posting.c h h'
    have hmin : min k r.posts.length = k := by omega
    generalize hj : r.posts.length - 1 - k = j at *
    ((try simp -implicitDefEqProofs [h, h', e3, e4, e5, maxLen, hmin]); repeat' first | (with_reducible refine gdK_em (fun hc => ?_) (fun hc => ?_) <;> (have hc' := hc; (try simp at hc'); simp -implicitDefEqProofs [hc, hc', h, h', e3, e4, e5, maxLen, hmin])) | (with_reducible refine cdK_em (fun hc => ?_) (fun hc => ?_) <;> (have hc' := hc; (try simp at hc'); simp -implicitDefEqProofs [hc, hc', h, h', e3, e4, e5, maxLen, hmin])) | (with_reducible refine pickK_em (fun hc => ?_) (fun hc => ?_) <;> (have hc' := hc; (try simp at hc'); simp -implicitDefEqProofs [hc, hc', h, h', e3, e4, e5, maxLen, hmin])))
    exact ⟨⟨by omega, by omega⟩, k + 1, by omega, by omega, ⟨by rw [hrv]; exact .inl rfl, rfl⟩, by omega⟩
  have : k = r.posts.length := by omega
  subst this
  have ht : (r.posts.map Posting.c).reverse.take r.posts.length = (r.posts.map Posting.c).reverse := List.take_of_length_le (by simp)
  ((try simp -implicitDefEqProofs [backR, ht]); repeat' first | (with_reducible refine gdK_em (fun hc => ?_) (fun hc => ?_) <;> (have hc' := hc; (try simp at hc'); simp -implicitDefEqProofs [hc, hc', backR, ht])) | (with_reducible refine cdK_em (fun hc => ?_) (fun hc => ?_) <;> (have hc' := hc; (try simp at hc'); simp -implicitDefEqProofs [hc, hc', backR, ht])) | (with_reducible refine pickK_em (fun hc => ?_) (fun hc => ?_) <;> (have hc' := hc; (try simp at hc'); simp -implicitDefEqProofs [hc, hc', backR, ht])))

theorem sum_rev (l : List Int) : l.reverse.sum = l.sum := by
  induction l with
  | nil => rfl
  | cons a l ih => rw [List.reverse_cons, List.sum_append, ih]; simp; omega
theorem sumF_rev (l : List Posting) (acc : Int) (q : Int → Bool) : sumF (flat l.reverse) acc q = sumF (flat l) acc q := by
  induction l with
  | nil => rfl
  | cons p l ih =>
    rw [List.reverse_cons, flat_snoc, sumF_append, ih]
    have : flat (p :: l) = flat1 p ++ flat l := by simp [flat]
    rw [this, sumF_append]; omega
theorem itemsA_rev (l : List Item) (acc : Int) : itemsA l.reverse acc = itemsA l acc := by
  unfold itemsA; rw [← sum_rev, List.map_reverse]; simp [sum_rev]
theorem itemsI_rev (l : List Item) (acc f t : Int) : itemsI l.reverse acc f t = itemsI l acc f t := by
  unfold itemsI; rw [← sum_rev, List.map_reverse]; simp [sum_rev]
theorem itemsO_rev (l : List Item) (acc f t : Int) : itemsO l.reverse acc f t = itemsO l acc f t := by
  unfold itemsO; rw [← sum_rev, List.map_reverse]; simp [sum_rev]
theorem dD_rev (s : Int) (l : List Posting) (acc : Int) (D : Nat → Int) : dD s (flat l.reverse) acc D = dD s (flat l) acc D := by
  funext j; unfold dD; rw [sumF_rev]
theorem make_back (g : Group) (b a : Res) (acc : Int) : makeP g (backR b) (backR a) acc = makeP g b a acc := by
  unfold makeP noteP
  simp only [backR, itemsA_rev, itemsI_rev, itemsO_rev, sumF_rev, dD_rev]
theorem all_back (g : Group) (b a : Res) : allP g (backR b) (backR a) = allP g b a := by
  unfold allP
  rw [show makeP g (backR b) (backR a) = makeP g b a from funext fun c => make_back g b a c]
  rfl

theorem l_NoteOrder (hw : Pure Try.prog 12 [] (vB true)) (g : Group) (b a : Res) (hg : WfG g) :
    Pure Try.prog 9 [g.v, twoV b a] (vB true) := by
  have hf := w_few g b a
  cases hfe : fewAll g b a
  · rw [hfe] at hf
    (refine Pure.of_code mix Try.call9 k_9 (by simp) (fun hB => ?_); (try simp at hB); (try simp -implicitDefEqProofs [c_tallystonelaw52_NoteOrder_9]))
    ((try simp at hw); (try simp at hf); (try simp -implicitDefEqProofs); repeat' first | (with_reducible refine gdK_em (fun hc => ?_) (fun hc => ?_) <;> (have hc' := hc; (try simp at hc'); simp -implicitDefEqProofs [hc, hc'])) | (with_reducible refine cdK_em (fun hc => ?_) (fun hc => ?_) <;> (have hc' := hc; (try simp at hc'); simp -implicitDefEqProofs [hc, hc'])) | (with_reducible refine pickK_em (fun hc => ?_) (fun hc => ?_) <;> (have hc' := hc; (try simp at hc'); simp -implicitDefEqProofs [hc, hc'])) | (with_reducible apply callK_pure <;> first | (simp only [eras, era, eras_map]; first | with_reducible exact hw | simpa using hw) | (simp -implicitDefEqProofs)) | (with_reducible apply callK_pure <;> first | (simp only [eras, era, eras_map]; first | with_reducible exact hf | simpa using hf) | (simp -implicitDefEqProofs)))
  rw [hfe] at hf
  simp only [fewAll, Bool.and_eq_true] at hfe
  have ok := okG_of hg hfe.1.1
  have hbl := few52_len hfe.1.2
  have hal := few52_len hfe.2
  have h1 := w_nAll g ok b a
  have h2 := w_nAll g ok (backR b) (backR a)
  have k1 := w_back b hbl.1 hbl.2
  have k2 := w_back a hal.1 hal.2
  have hl := allP_len g b a
  have hcl := ok.chart
  rw [all_back] at h2
  generalize allP g b a = M at *
  obtain ⟨L, e⟩ := M
  have h3 := w_from L (by simp at hl; omega)
  have h4 := w_Same L
  (refine Pure.of_code mix Try.call9 k_9 (by simp) (fun hB => ?_); (try simp at hB); (try simp -implicitDefEqProofs [c_tallystonelaw52_NoteOrder_9]))
  ((try simp at hw); (try simp at hf); (try simp at h1); (try simp at k1); (try simp at k2); (try simp at h2); (try simp at h3); (try simp at h4); (try simp -implicitDefEqProofs); repeat' first | (with_reducible refine gdK_em (fun hc => ?_) (fun hc => ?_) <;> (have hc' := hc; (try simp at hc'); simp -implicitDefEqProofs [hc, hc'])) | (with_reducible refine cdK_em (fun hc => ?_) (fun hc => ?_) <;> (have hc' := hc; (try simp at hc'); simp -implicitDefEqProofs [hc, hc'])) | (with_reducible refine pickK_em (fun hc => ?_) (fun hc => ?_) <;> (have hc' := hc; (try simp at hc'); simp -implicitDefEqProofs [hc, hc'])) | (with_reducible apply callK_pure <;> first | (simp only [eras, era, eras_map]; first | with_reducible exact hw | simpa using hw) | (simp -implicitDefEqProofs)) | (with_reducible apply callK_pure <;> first | (simp only [eras, era, eras_map]; first | with_reducible exact hf | simpa using hf) | (simp -implicitDefEqProofs)) | (with_reducible apply callK_pure <;> first | (simp only [eras, era, eras_map]; first | with_reducible exact h1 | simpa using h1) | (simp -implicitDefEqProofs)) | (with_reducible apply callK_pure <;> first | (simp only [eras, era, eras_map]; first | with_reducible exact k1 | simpa using k1) | (simp -implicitDefEqProofs)) | (with_reducible apply callK_pure <;> first | (simp only [eras, era, eras_map]; first | with_reducible exact k2 | simpa using k2) | (simp -implicitDefEqProofs)) | (with_reducible apply callK_pure <;> first | (simp only [eras, era, eras_map]; first | with_reducible exact h2 | simpa using h2) | (simp -implicitDefEqProofs)) | (with_reducible apply callK_pure <;> first | (simp only [eras, era, eras_map]; first | with_reducible exact h3 | simpa using h3) | (simp -implicitDefEqProofs)) | (with_reducible apply callK_pure <;> first | (simp only [eras, era, eras_map]; first | with_reducible exact h4 | simpa using h4) | (simp -implicitDefEqProofs)))
end Go.Proofs.Ythfnaaeddlnckaa
