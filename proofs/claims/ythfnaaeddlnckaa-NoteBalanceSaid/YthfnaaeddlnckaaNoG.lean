/- The law NoteBalance. -/
import Derived.Test.YthfnaaeddlnckaaNoE
set_option linter.unusedSimpArgs false
set_option linter.unusedVariables false
set_option maxHeartbeats 4000000
set_option maxRecDepth 8000
namespace Go.Proofs.Ythfnaaeddlnckaa
open E

def itemP (x : Item) : Part := ⟨x.acc, x.amt⟩
def partsOf (items : List Item) (posts : List Posting) : List Part := items.map itemP ++ posts.flatMap Posting.parts
theorem flat_len {l : List Posting} (h : ∀ p ∈ l, p.parts.length ≤ 10) : (l.flatMap Posting.parts).length ≤ 10 * l.length := by
  induction l with
  | nil => simp
  | cons p l ih =>
    have := ih fun x hx => h x (by simp [hx])
    have := h p (by simp)
    simp only [List.flatMap_cons, List.length_append, List.length_cons]; omega
def ipC (l : List Item) : List (List T) := l.map fun x => [.int .i64 x.acc, .int .i64 x.amt]
theorem ipC_len (l : List Item) : (ipC l).length = l.length := by simp [ipC]
theorem ipC_two (l : List Item) : ∀ y ∈ ipC l, y.length = 2 := by simp [ipC]
theorem ipC_next {l : List Item} {k : Nat} {x : Item} (h : l[k]? = some x) : ipC (l.take (k + 1)) = ipC (l.take k) ++ [[.int .i64 x.acc, .int .i64 x.amt]] := by rw [take_next h]; simp [ipC]
theorem ipC_all (l : List Item) : (partsOf l []).map Part.c = ipC l := by simp [partsOf, ipC, itemP]
theorem w_Parts (items : List Item) (posts : List Posting) (h1 : items.length ≤ 150) (h2 : posts.length ≤ 60) (h3 : ∀ p ∈ posts, p.parts.length ≤ 10) :
    Pure Try.prog 25 [Item.l items, Posting.l posts] (Part.l (partsOf items posts)) := by
  (refine Pure.of_code mix Try.call25 k_25 (by simp) (fun hB => ?_); (try simp at hB); (try simp -implicitDefEqProofs [c_tallystoneref36_Parts_25]))
  refine loop_grow [(.slot 5, 76, 2)] (X := Nat) (fun k => k ≤ items.length) (fun k => [(0, Item.l items), (1, Posting.l posts), (5, .own 0 76 2 (ipC (items.take k))), (6, vI k)])
    (fun k => ⟨[], [k]⟩) (fun k => items.length - k) 0 (by omega) (by simp [ipC]) ?_
  rintro k hk hbd
  rcases Nat.lt_or_ge k items.length with h | h
  · have hx : items[k]? = some items[k] := by simp [h]
    have e3 : IntKind.i64.wrap ((k : Int) + 1) = (k : Int) + 1 := wrap64 (by omega) (by omega)
    have hmin : min k items.length = k := by omega
    have hs := ipC_next hx
    have hGl : (ipC (items.take k)).length = k := by rw [ipC_len]; simp; omega
    have hGm := ipC_two (items.take k)
    generalize ipC (items.take k) = G at *
    ((try simp -implicitDefEqProofs [h, e3, maxLen, hmin, hGl]); repeat' first | (with_reducible refine gdK_em (fun hc => ?_) (fun hc => ?_) <;> (have hc' := hc; (try simp at hc'); simp -implicitDefEqProofs [hc, hc', h, e3, maxLen, hmin, hGl])) | (with_reducible refine cdK_em (fun hc => ?_) (fun hc => ?_) <;> (have hc' := hc; (try simp at hc'); simp -implicitDefEqProofs [hc, hc', h, e3, maxLen, hmin, hGl])) | (with_reducible refine pickK_em (fun hc => ?_) (fun hc => ?_) <;> (have hc' := hc; (try simp at hc'); simp -implicitDefEqProofs [hc, hc', h, e3, maxLen, hmin, hGl])))
    exact ⟨⟨by omega, by omega⟩, k + 1, by omega, by omega, rfl, by rw [hs]; exact leA.refl _, by omega⟩
  have : k = items.length := by omega
  subst this
  have hall := ipC_all items
  have hal : (partsOf items []).length = items.length := by simp [partsOf]
  ((try simp -implicitDefEqProofs); repeat' first | (with_reducible refine gdK_em (fun hc => ?_) (fun hc => ?_) <;> (have hc' := hc; (try simp at hc'); simp -implicitDefEqProofs [hc, hc'])) | (with_reducible refine cdK_em (fun hc => ?_) (fun hc => ?_) <;> (have hc' := hc; (try simp at hc'); simp -implicitDefEqProofs [hc, hc'])) | (with_reducible refine pickK_em (fun hc => ?_) (fun hc => ?_) <;> (have hc' := hc; (try simp at hc'); simp -implicitDefEqProofs [hc, hc'])))
  refine loop_rule (X := Nat) (fun k => k ≤ posts.length) (fun k => [(1, Posting.l posts), (5, .own 0 76 2 ((partsOf items (posts.take k)).map Part.c)), (7, vI k)])
    (fun k => ⟨[], [(partsOf items (posts.take k)).length]⟩) (fun k => posts.length - k) 0 (by omega) (by simp [hall, hal]) ?_
  rintro k hk hbd
  rcases Nat.lt_or_ge k posts.length with h | h
  · have hx : posts[k]? = some posts[k] := by simp [h]
    have e3 : IntKind.i64.wrap ((k : Int) + 1) = (k : Int) + 1 := wrap64 (by omega) (by omega)
    have hs : partsOf items (posts.take (k + 1)) = partsOf items (posts.take k) ++ posts[k].parts := by rw [take_next hx]; simp only [partsOf, List.flatMap_append, List.flatMap_cons, List.flatMap_nil, List.append_nil, List.append_assoc]
    have hl : (partsOf items (posts.take k)).length ≤ 150 + 10 * k := by
      have := flat_len (l := posts.take k) (fun p hp => h3 p (List.mem_of_mem_take hp))
      simp only [partsOf, List.length_append, List.length_map]
      simp only [List.length_take] at this
      omega
    have hp := h3 _ (List.getElem_mem h)
    generalize partsOf items (posts.take k) = G at *
    ((try simp -implicitDefEqProofs [h, e3, maxLen]); repeat' first | (with_reducible refine gdK_em (fun hc => ?_) (fun hc => ?_) <;> (have hc' := hc; (try simp at hc'); simp -implicitDefEqProofs [hc, hc', h, e3, maxLen])) | (with_reducible refine cdK_em (fun hc => ?_) (fun hc => ?_) <;> (have hc' := hc; (try simp at hc'); simp -implicitDefEqProofs [hc, hc', h, e3, maxLen])) | (with_reducible refine pickK_em (fun hc => ?_) (fun hc => ?_) <;> (have hc' := hc; (try simp at hc'); simp -implicitDefEqProofs [hc, hc', h, e3, maxLen])))
    exact ⟨⟨by omega, by omega⟩, k + 1, by omega, by omega, by rw [hs]; simp, by rw [hs]; simp, by omega⟩
  have : k = posts.length := by omega
  subst this
  ((try simp -implicitDefEqProofs); repeat' first | (with_reducible refine gdK_em (fun hc => ?_) (fun hc => ?_) <;> (have hc' := hc; (try simp at hc'); simp -implicitDefEqProofs [hc, hc'])) | (with_reducible refine cdK_em (fun hc => ?_) (fun hc => ?_) <;> (have hc' := hc; (try simp at hc'); simp -implicitDefEqProofs [hc, hc'])) | (with_reducible refine pickK_em (fun hc => ?_) (fun hc => ?_) <;> (have hc' := hc; (try simp at hc'); simp -implicitDefEqProofs [hc, hc'])))

theorem few52_parts {r : Res} (h : few52 r = true) : ∀ p ∈ r.posts, p.parts.length ≤ 10 := by
  simp only [few52, Bool.and_eq_true] at h
  intro p hp
  obtain ⟨j, hj, rfl⟩ := List.getElem_of_mem hp
  have h1 := allB_iff.1 h.1.2 j hj
  have hg : r.posts.getD j post0 = r.posts[j] := by simp [List.getD_eq_getElem?_getD, hj]
  simp only [poAt, hg] at h1
  rcases Nat.lt_or_ge 10 r.posts[j].parts.length with h2 | h2
  · have h3 := allB_iff.1 h1 10 h2
    simp [paAt] at h3
  · exact h2

/-! ### Sums over the chart -/
theorem sum_map_add {α : Type} (l : List α) (u v : α → Int) : (l.map fun a => u a + v a).sum = (l.map u).sum + (l.map v).sum := by
  induction l with
  | nil => rfl
  | cons a l ih => simp only [List.map_cons, List.sum_cons, ih]; omega
theorem sum_map_zero {α : Type} (l : List α) : (l.map fun _ => (0 : Int)).sum = 0 := by
  induction l with
  | nil => rfl
  | cons a l ih => simp only [List.map_cons, List.sum_cons, ih]; rfl
def sel (c : Int) (p : Part) : Int := if p.acc = c then p.amt else 0
theorem sum_swap (l : List Account) (P : List Part) : (l.map fun a => (P.map (sel a.code)).sum).sum = (P.map fun p => (l.map fun a => sel a.code p).sum).sum := by
  induction P with
  | nil => simp [sum_map_zero]
  | cons p P ih => simp only [List.map_cons, List.sum_cons, sum_map_add, ih]
theorem sum_pick (l : List Account) (p : Part) (hn : (l.map Account.code).Nodup) : (l.map fun a => sel a.code p).sum = if p.acc ∈ l.map Account.code then p.amt else 0 := by
  induction l with
  | nil => simp
  | cons a l ih =>
    simp only [List.map_cons, List.nodup_cons] at hn
    have ih := ih hn.2
    rw [List.map_cons, List.sum_cons, ih, show sel a.code p = if p.acc = a.code then p.amt else 0 from rfl]
    simp only [List.map_cons]
    by_cases h1 : p.acc = a.code
    · have h2 : p.acc ∉ l.map Account.code := by rw [h1]; exact hn.1
      rw [if_neg h2, if_pos h1, if_pos (by simp [h1])]; omega
    · rw [if_neg h1]
      by_cases h2 : p.acc ∈ l.map Account.code
      · rw [if_pos h2, if_pos (List.mem_cons_of_mem _ h2)]; omega
      · rw [if_neg h2, if_neg (by simp only [List.mem_cons, not_or]; exact ⟨h1, h2⟩)]; rfl
theorem tot_eq (r : Res) (c : Int) : itemsA r.items c + sumF (flat r.posts) c allK = ((partsOf r.items r.posts).map (sel c)).sum := by
  simp only [partsOf, List.map_append, List.sum_append]
  congr 1
  · unfold itemsA
    rw [List.map_map]
    rfl
  · generalize r.posts = l
    induction l with
    | nil => rfl
    | cons p l ih =>
      have : flat (p :: l) = flat1 p ++ flat l := by simp [flat]
      rw [this, sumF_append, ih]
      simp only [List.flatMap_cons, List.map_append, List.sum_append]
      congr 1
      simp only [sumF, flat1, List.map_map]
      congr 1
      apply List.map_congr_left
      intro x _
      simp [one, allK, sel]
theorem codes_nodup {l : List Account} {b : Bool} (h : validP l b = true) : (l.map Account.code).Nodup := by
  simp only [validP, Bool.and_eq_true] at h
  have hs := h.2
  simp only [stepsB, List.all_eq_true, List.mem_range, Bool.and_eq_true] at hs
  have hstep : ∀ k (hk : k + 1 < l.length), l[k].code < l[k + 1].code := by
    intro k hk
    have h1 := (hs (k + 1) hk).1
    have e1 : l.getD (k + 1) acc0 = l[k + 1] := by simp [List.getD_eq_getElem?_getD, hk]
    have e2 : l.getD k acc0 = l[k] := by simp [List.getD_eq_getElem?_getD, show k < l.length by omega]
    simp only [incB, Nat.add_sub_cancel, e1, e2, Bool.or_eq_true, beq_iff_eq, decide_eq_true_eq] at h1
    rcases h1 with h1 | h1
    · omega
    · exact h1
  have hlt : ∀ d k (hk : k + d + 1 < l.length), l[k].code < l[k + d + 1].code := by
    intro d
    induction d with
    | zero => intro k hk; exact hstep k hk
    | succ d ih =>
      intro k hk
      have h1 := ih k (by omega)
      have h2 := hstep (k + d + 1) hk
      have : k + d + 1 + 1 = k + (d + 1) + 1 := by omega
      simp only [this] at h2
      omega
  rw [List.nodup_iff_pairwise_ne, List.pairwise_iff_getElem]
  intro i j hi hj hij
  simp only [List.length_map] at hi hj
  simp only [List.getElem_map]
  have h3 := hlt (j - i - 1) i (by omega)
  have : i + (j - i - 1) + 1 = j := by omega
  simp only [this] at h3
  omega
theorem validGR_chart {g : Group} (h : validGR g = true) : validP g.chart true = true := by
  rw [← group_agree] at h
  have ha : accB g = true := by
    unfold validGP at h
    simp only [Bool.and_eq_true] at h
    first | exact h.1.2 | exact h.2.1 | exact h.1.1.2 | simp_all
  simp only [accB, Bool.and_eq_true] at ha
  exact ha.1.1

def goodB (g : Group) (x : Res) : Prop := (∀ p ∈ partsOf x.items x.posts, (findS g.chart p.acc).isSome = true) ∧ ww ((partsOf x.items x.posts).map Part.amt).sum = 0
theorem chart_sum {g : Group} (hv : validGR g = true) {r : Res} (h : goodB g r) : ww ((g.chart.map fun a => itemsA r.items a.code + sumF (flat r.posts) a.code allK).sum) = 0 := by
  have hn := codes_nodup (validGR_chart hv)
  rw [← h.2]
  congr 1
  simp only [tot_eq]
  rw [sum_swap]
  congr 1
  apply List.map_congr_left
  intro p hp
  rw [sum_pick _ _ hn, if_pos]
  have := h.1 p hp
  simp only [findS, List.find?_isSome] at this
  obtain ⟨a, ha, he⟩ := this
  exact List.mem_map.2 ⟨a, ha, by simpa using he⟩
theorem sum_filter (l : List NoteS) (q : NoteS → Int) (h : ∀ n, nzN n = false → q n = 0) : ((l.filter nzN).map q).sum = (l.map q).sum := by
  induction l with
  | nil => rfl
  | cons n l ih =>
    cases hz : nzN n
    · rw [List.filter_cons_of_neg (by simp [hz]), ih, List.map_cons, List.sum_cons, h n hz]; omega
    · rw [List.filter_cons_of_pos hz, List.map_cons, List.map_cons, List.sum_cons, List.sum_cons, ih]
theorem nzN_o (n : NoteS) (h : nzN n = false) : n.o = 0 := by simp [nzN, NoteS.figs, figsL] at h; exact h.1
theorem nzN_l (n : NoteS) (h : nzN n = false) : n.l = 0 := by simp [nzN, NoteS.figs, figsL] at h; exact h.2.2.2.1
theorem balance {g : Group} (hv : validGR g = true) {b a : Res} (hb : goodB g b) (ha : goodB g a) (he : (allP g b a).2 = 0) :
    ww (((allP g b a).1.map NoteS.o).sum) = 0 ∧ ww (((allP g b a).1.map NoteS.l).sum) = 0 := by
  unfold allP at he ⊢
  by_cases hd : (daysS g a.per).2.2 ≠ 0
  · rw [if_pos hd] at he; exact absurd he hd
  rw [if_neg hd] at he ⊢
  have hr : errF (makeP g b a) g.chart = 0 := by
    unfold runF at he
    split at he
    · assumption
    · exact he
  have hall : ∀ x ∈ g.chart, (makeP g b a x.code).2 = 0 := by
    intro x hx
    obtain ⟨k, hk, rfl⟩ := List.getElem_of_mem hx
    suffices hs : ∀ k, k ≤ g.chart.length → allB (okF (makeP g b a) g.chart) k = true by
      have := allB_iff.1 (hs g.chart.length (Nat.le_refl _)) k hk
      rw [okF_eq hk] at this
      simpa using this
    intro k
    induction k with
    | zero => intro _; rfl
    | succ k ih =>
      intro hk
      have h1 := ih (by omega)
      rw [allB_succ, h1, okF_eq (by omega), Bool.true_and, beq_iff_eq]
      rcases Int.decEq (makeP g b a g.chart[k].code).2 0 with h2 | h2
      · have := errF_hit (by omega) h1 h2
        rw [hr] at this
        exact this.symm
      · exact h2
  have hm : ∀ x ∈ g.chart, (makeP g b a x.code).1.o = ww (itemsA b.items x.code + sumF (flat b.posts) x.code allK) ∧ (makeP g b a x.code).1.l = ww (itemsA a.items x.code + sumF (flat a.posts) x.code allK) := by
    intro x hx
    have h1 := hall x hx
    unfold makeP at h1 ⊢
    rw [if_neg hd] at h1 ⊢
    split
    · rename_i h2; rw [if_pos h2] at h1; simp at h1
    rename_i h2
    rw [if_neg h2] at h1
    split
    · rename_i h3; rw [if_pos h3] at h1; simp at h1
    · exact ⟨rfl, rfl⟩
  have hrun : runF (makeP g b a) g.chart = (outF (makeP g b a) g.chart, 0) := by unfold runF; rw [if_pos hr]
  rw [hrun]
  simp only [outF]
  rw [sum_filter _ _ nzN_o, sum_filter _ _ nzN_l, List.map_map, List.map_map]
  constructor
  · have : g.chart.map (NoteS.o ∘ fun x => (makeP g b a x.code).1) = (g.chart.map fun x => itemsA b.items x.code + sumF (flat b.posts) x.code allK).map ww := by
      rw [List.map_map]
      exact List.map_congr_left fun x hx => (hm x hx).1
    rw [this, ww_sum, chart_sum hv hb]
  · have : g.chart.map (NoteS.l ∘ fun x => (makeP g b a x.code).1) = (g.chart.map fun x => itemsA a.items x.code + sumF (flat a.posts) x.code allK).map ww := by
      rw [List.map_map]
      exact List.map_congr_left fun x hx => (hm x hx).2
    rw [this, ww_sum, chart_sum hv ha]

def amtS (P : List Part) : Int := (P.map Part.amt).sum
theorem amtS_next {P : List Part} {k : Nat} {x : Part} (h : P[k]? = some x) : amtS (P.take (k + 1)) = amtS (P.take k) + x.amt := by rw [take_next h]; simp [amtS]
theorem sumq_next {L : List NoteS} {q : NoteS → Int} {k : Nat} {x : NoteS} (h : L[k]? = some x) : ((L.take (k + 1)).map q).sum = ((L.take k).map q).sum + q x := by rw [take_next h]; simp
theorem l_NoteBalance (hw : Pure Try.prog 12 [] (vB true)) (g : Group) (b a : Res) (hg : WfG g) :
    Pure Try.prog 8 [g.v, twoV b a] (vB true) := by
  have hf := w_few g b a
  cases hfe : fewAll g b a
  · rw [hfe] at hf
    (refine Pure.of_code mix Try.call8 k_8 (by simp) (fun hB => ?_); (try simp at hB); (try simp -implicitDefEqProofs [c_tallystonelaw52_NoteBalance_8]))
    ((try simp at hw); (try simp at hf); (try simp -implicitDefEqProofs); repeat' first | (with_reducible refine gdK_em (fun hc => ?_) (fun hc => ?_) <;> (have hc' := hc; (try simp at hc'); simp -implicitDefEqProofs [hc, hc'])) | (with_reducible refine cdK_em (fun hc => ?_) (fun hc => ?_) <;> (have hc' := hc; (try simp at hc'); simp -implicitDefEqProofs [hc, hc'])) | (with_reducible refine pickK_em (fun hc => ?_) (fun hc => ?_) <;> (have hc' := hc; (try simp at hc'); simp -implicitDefEqProofs [hc, hc'])) | (with_reducible apply callK_pure <;> first | (simp only [eras, era, eras_map]; first | with_reducible exact hw | simpa using hw) | (simp -implicitDefEqProofs)) | (with_reducible apply callK_pure <;> first | (simp only [eras, era, eras_map]; first | with_reducible exact hf | simpa using hf) | (simp -implicitDefEqProofs)))
  rw [hfe] at hf
  simp only [fewAll, Bool.and_eq_true] at hfe
  have ok := okG_of hg hfe.1.1
  have hv := w_rgValid g ok
  cases hve : validGR g
  · rw [hve] at hv
    (refine Pure.of_code mix Try.call8 k_8 (by simp) (fun hB => ?_); (try simp at hB); (try simp -implicitDefEqProofs [c_tallystonelaw52_NoteBalance_8]))
    ((try simp at hw); (try simp at hf); (try simp at hv); (try simp -implicitDefEqProofs); repeat' first | (with_reducible refine gdK_em (fun hc => ?_) (fun hc => ?_) <;> (have hc' := hc; (try simp at hc'); simp -implicitDefEqProofs [hc, hc'])) | (with_reducible refine cdK_em (fun hc => ?_) (fun hc => ?_) <;> (have hc' := hc; (try simp at hc'); simp -implicitDefEqProofs [hc, hc'])) | (with_reducible refine pickK_em (fun hc => ?_) (fun hc => ?_) <;> (have hc' := hc; (try simp at hc'); simp -implicitDefEqProofs [hc, hc'])) | (with_reducible apply callK_pure <;> first | (simp only [eras, era, eras_map]; first | with_reducible exact hw | simpa using hw) | (simp -implicitDefEqProofs)) | (with_reducible apply callK_pure <;> first | (simp only [eras, era, eras_map]; first | with_reducible exact hf | simpa using hf) | (simp -implicitDefEqProofs)) | (with_reducible apply callK_pure <;> first | (simp only [eras, era, eras_map]; first | with_reducible exact hv | simpa using hv) | (simp -implicitDefEqProofs)))
  rw [hve] at hv
  have h1 := w_nAll g ok b a
  have hl := allP_len g b a
  have hcl := ok.chart
  have hbal := balance hve (b := b) (a := a)
  generalize allP g b a = M at *
  obtain ⟨L, e⟩ := M
  have hRf : ∀ x ∈ [b, a], few52 x = true := by
    intro x hx
    simp at hx
    rcases hx with rfl | rfl
    · exact hfe.1.2
    · exact hfe.2
  have hRg : (∀ x ∈ [b, a], goodB g x) → goodB g b ∧ goodB g a := fun h => ⟨h b (by simp), h a (by simp)⟩
  generalize hR : [b, a] = R at *
  have hRl : R.length = 2 := by rw [← hR]; rfl
  (refine Pure.of_code mix Try.call8 k_8 (by simp) (fun hB => ?_); (try simp at hB); (try simp -implicitDefEqProofs [c_tallystonelaw52_NoteBalance_8]))
  ((try simp at hw); (try simp at hf); (try simp at hv); (try simp -implicitDefEqProofs); repeat' first | (with_reducible refine gdK_em (fun hc => ?_) (fun hc => ?_) <;> (have hc' := hc; (try simp at hc'); simp -implicitDefEqProofs [hc, hc'])) | (with_reducible refine cdK_em (fun hc => ?_) (fun hc => ?_) <;> (have hc' := hc; (try simp at hc'); simp -implicitDefEqProofs [hc, hc'])) | (with_reducible refine pickK_em (fun hc => ?_) (fun hc => ?_) <;> (have hc' := hc; (try simp at hc'); simp -implicitDefEqProofs [hc, hc'])) | (with_reducible apply callK_pure <;> first | (simp only [eras, era, eras_map]; first | with_reducible exact hw | simpa using hw) | (simp -implicitDefEqProofs)) | (with_reducible apply callK_pure <;> first | (simp only [eras, era, eras_map]; first | with_reducible exact hf | simpa using hf) | (simp -implicitDefEqProofs)) | (with_reducible apply callK_pure <;> first | (simp only [eras, era, eras_map]; first | with_reducible exact hv | simpa using hv) | (simp -implicitDefEqProofs)))
  refine loop_rule (X := Nat) (fun i => i ≤ R.length ∧ ∀ x ∈ R.take i, goodB g x) (fun i => [(2, .ptr 0 0), (3, .ptr 1 0), (39, Res.l R), (40, vI R.length), (41, vI i)])
    (fun i => ⟨[.cells (g.c.map .t), .cells ((b.c ++ a.c).map .t)], []⟩) (fun i => R.length - i) 0 ⟨by omega, by simp⟩ (by simp [← hR]) ?_
  rintro i ⟨hi, hin⟩ hbd
  rcases Nat.lt_or_ge i R.length with h | h
  · have hx : R[i]? = some R[i] := by simp [h]
    have e3 : IntKind.i64.wrap ((i : Int) + 1) = (i : Int) + 1 := wrap64 (by omega) (by omega)
    have hfx := hRf _ (List.getElem_mem h)
    have hln := few52_len hfx
    have hpt := w_Parts R[i].items R[i].posts hln.1 hln.2 (few52_parts hfx)
    have hgx : goodB g R[i] → ∀ x ∈ R.take (i + 1), goodB g x := fun hh x hxx => by
      rw [take_next hx] at hxx
      rcases List.mem_append.1 hxx with hxx | hxx
      · exact hin x hxx
      · simp at hxx; subst hxx; exact hh
    have hPl : (partsOf R[i].items R[i].posts).length ≤ 1000 := by
      have := flat_len (few52_parts hfx)
      simp only [partsOf, List.length_append, List.length_map]; omega
    unfold goodB at hgx
    generalize partsOf R[i].items R[i].posts = P at *
    ((try simp at hpt); (try simp -implicitDefEqProofs [h]); repeat' first | (with_reducible refine gdK_em (fun hc => ?_) (fun hc => ?_) <;> (have hc' := hc; (try simp at hc'); simp -implicitDefEqProofs [hc, hc', h])) | (with_reducible refine cdK_em (fun hc => ?_) (fun hc => ?_) <;> (have hc' := hc; (try simp at hc'); simp -implicitDefEqProofs [hc, hc', h])) | (with_reducible refine pickK_em (fun hc => ?_) (fun hc => ?_) <;> (have hc' := hc; (try simp at hc'); simp -implicitDefEqProofs [hc, hc', h])) | (with_reducible apply callK_pure <;> first | (simp only [eras, era, eras_map]; first | with_reducible exact hpt | simpa using hpt) | (simp -implicitDefEqProofs [h])))
    refine loop_rule (X := Nat) (fun j => j ≤ P.length ∧ ∀ p ∈ P.take j, (findS g.chart p.acc).isSome = true) (fun j => [(2, .ptr 0 0), (3, .ptr 1 0), (7, vI (ww (amtS (P.take j)))), (39, Res.l R), (40, vI R.length), (41, vI i), (49, Part.l P), (50, vI P.length), (51, vI j)])
      (fun j => ⟨[.cells (g.c.map .t), .cells ((b.c ++ a.c).map .t)], []⟩) (fun j => P.length - j) 0 ⟨by omega, by simp⟩ (by simp [amtS, ww_eq]) ?_
    rintro j ⟨hj, hjn⟩ hbd2
    rcases Nat.lt_or_ge j P.length with h2 | h2
    · have hy : P[j]? = some P[j] := by simp [h2]
      have e5 : IntKind.i64.wrap ((j : Int) + 1) = (j : Int) + 1 := wrap64 (by omega) (by omega)
      have hac := w_rAccount g P[j].acc
      have hs := amtS_next hy
      cases hfd : (findS g.chart P[j].acc).isSome
      · rw [hfd] at hac
        ((try simp at hac); (try simp -implicitDefEqProofs [h2]); repeat' first | (with_reducible refine gdK_em (fun hc => ?_) (fun hc => ?_) <;> (have hc' := hc; (try simp at hc'); simp -implicitDefEqProofs [hc, hc', h2])) | (with_reducible refine cdK_em (fun hc => ?_) (fun hc => ?_) <;> (have hc' := hc; (try simp at hc'); simp -implicitDefEqProofs [hc, hc', h2])) | (with_reducible refine pickK_em (fun hc => ?_) (fun hc => ?_) <;> (have hc' := hc; (try simp at hc'); simp -implicitDefEqProofs [hc, hc', h2])) | (with_reducible apply callK_pure <;> first | (simp only [eras, era, eras_map]; first | with_reducible exact hac | simpa using hac) | (simp -implicitDefEqProofs [h2])))
      · rw [hfd] at hac
        have step : ∀ p ∈ P.take (j + 1), (findS g.chart p.acc).isSome = true := fun p hp => by
          rw [take_next hy] at hp
          rcases List.mem_append.1 hp with hp | hp
          · exact hjn p hp
          · simp at hp; subst hp; exact hfd
        ((try simp at hac); (try simp -implicitDefEqProofs [h2, e5, wrap_ww, ww_add]); repeat' first | (with_reducible refine gdK_em (fun hc => ?_) (fun hc => ?_) <;> (have hc' := hc; (try simp at hc'); simp -implicitDefEqProofs [hc, hc', h2, e5, wrap_ww, ww_add])) | (with_reducible refine cdK_em (fun hc => ?_) (fun hc => ?_) <;> (have hc' := hc; (try simp at hc'); simp -implicitDefEqProofs [hc, hc', h2, e5, wrap_ww, ww_add])) | (with_reducible refine pickK_em (fun hc => ?_) (fun hc => ?_) <;> (have hc' := hc; (try simp at hc'); simp -implicitDefEqProofs [hc, hc', h2, e5, wrap_ww, ww_add])) | (with_reducible apply callK_pure <;> first | (simp only [eras, era, eras_map]; first | with_reducible exact hac | simpa using hac) | (simp -implicitDefEqProofs [h2, e5, wrap_ww, ww_add])))
        exact ⟨j + 1, ⟨by omega, step⟩, by omega, by rw [hs], by omega⟩
    · have : j = P.length := by omega
      subst this
      rw [List.take_length] at hjn ⊢
      by_cases hz : ww (amtS P) = 0
      · have hgx' := hgx ⟨hjn, hz⟩
        ((try simp -implicitDefEqProofs [hz, e3]); repeat' first | (with_reducible refine gdK_em (fun hc => ?_) (fun hc => ?_) <;> (have hc' := hc; (try simp at hc'); simp -implicitDefEqProofs [hc, hc', hz, e3])) | (with_reducible refine cdK_em (fun hc => ?_) (fun hc => ?_) <;> (have hc' := hc; (try simp at hc'); simp -implicitDefEqProofs [hc, hc', hz, e3])) | (with_reducible refine pickK_em (fun hc => ?_) (fun hc => ?_) <;> (have hc' := hc; (try simp at hc'); simp -implicitDefEqProofs [hc, hc', hz, e3])))
        exact ⟨i + 1, ⟨by omega, hgx'⟩, by omega, by omega⟩
      · have hz' : (ww (amtS P) != 0) = true := by simpa using hz
        ((try simp -implicitDefEqProofs [hz']); repeat' first | (with_reducible refine gdK_em (fun hc => ?_) (fun hc => ?_) <;> (have hc' := hc; (try simp at hc'); simp -implicitDefEqProofs [hc, hc', hz'])) | (with_reducible refine cdK_em (fun hc => ?_) (fun hc => ?_) <;> (have hc' := hc; (try simp at hc'); simp -implicitDefEqProofs [hc, hc', hz'])) | (with_reducible refine pickK_em (fun hc => ?_) (fun hc => ?_) <;> (have hc' := hc; (try simp at hc'); simp -implicitDefEqProofs [hc, hc', hz'])))
  · have : i = R.length := by omega
    subst this
    rw [List.take_length] at hin
    obtain ⟨gb, ga⟩ := hRg hin
    have hbal := hbal gb ga
    have hLl : L.length ≤ 1000000 := by simp at hl; omega
    ((try simp at h1); (try simp -implicitDefEqProofs); repeat' first | (with_reducible refine gdK_em (fun hc => ?_) (fun hc => ?_) <;> (have hc' := hc; (try simp at hc'); simp -implicitDefEqProofs [hc, hc'])) | (with_reducible refine cdK_em (fun hc => ?_) (fun hc => ?_) <;> (have hc' := hc; (try simp at hc'); simp -implicitDefEqProofs [hc, hc'])) | (with_reducible refine pickK_em (fun hc => ?_) (fun hc => ?_) <;> (have hc' := hc; (try simp at hc'); simp -implicitDefEqProofs [hc, hc'])) | (with_reducible apply callK_pure <;> first | (simp only [eras, era, eras_map]; first | with_reducible exact h1 | simpa using h1) | (simp -implicitDefEqProofs)))
    refine loop_rule (X := Nat) (fun k => k ≤ L.length) (fun k => [(13, vI e), (14, vI (ww ((L.take k).map NoteS.o).sum)), (15, vI (ww ((L.take k).map NoteS.l).sum)), (81, noteL L), (82, vI L.length), (83, vI k)])
      (fun k => ⟨[], []⟩) (fun k => L.length - k) 0 (by omega) (by simp [ww_eq]) ?_
    rintro k hk hbd2
    rcases Nat.lt_or_ge k L.length with h2 | h2
    · have hy : L[k]? = some L[k] := by simp [h2]
      have e5 : IntKind.i64.wrap ((k : Int) + 1) = (k : Int) + 1 := wrap64 (by omega) (by omega)
      have s1 := sumq_next (q := NoteS.o) hy
      have s2 := sumq_next (q := NoteS.l) hy
      ((try simp -implicitDefEqProofs [h2, e5, NoteS.c', noteC, wrap_ww, ww_add]); repeat' first | (with_reducible refine gdK_em (fun hc => ?_) (fun hc => ?_) <;> (have hc' := hc; (try simp at hc'); simp -implicitDefEqProofs [hc, hc', h2, e5, NoteS.c', noteC, wrap_ww, ww_add])) | (with_reducible refine cdK_em (fun hc => ?_) (fun hc => ?_) <;> (have hc' := hc; (try simp at hc'); simp -implicitDefEqProofs [hc, hc', h2, e5, NoteS.c', noteC, wrap_ww, ww_add])) | (with_reducible refine pickK_em (fun hc => ?_) (fun hc => ?_) <;> (have hc' := hc; (try simp at hc'); simp -implicitDefEqProofs [hc, hc', h2, e5, NoteS.c', noteC, wrap_ww, ww_add])))
      exact ⟨k + 1, by omega, by omega, by rw [List.map_take, List.map_take] at s1; rw [s1], by rw [List.map_take, List.map_take] at s2; rw [s2], by omega⟩
    · have : k = L.length := by omega
      subst this
      rw [List.take_length]
      by_cases he : e = 0
      · simp only at hbal
        obtain ⟨b1, b2⟩ := hbal he
        subst he
        ((try simp -implicitDefEqProofs [b1, b2]); repeat' first | (with_reducible refine gdK_em (fun hc => ?_) (fun hc => ?_) <;> (have hc' := hc; (try simp at hc'); simp -implicitDefEqProofs [hc, hc', b1, b2])) | (with_reducible refine cdK_em (fun hc => ?_) (fun hc => ?_) <;> (have hc' := hc; (try simp at hc'); simp -implicitDefEqProofs [hc, hc', b1, b2])) | (with_reducible refine pickK_em (fun hc => ?_) (fun hc => ?_) <;> (have hc' := hc; (try simp at hc'); simp -implicitDefEqProofs [hc, hc', b1, b2])))
      · have he' : (e != 0) = true := by simpa using he
        ((try simp -implicitDefEqProofs [he']); repeat' first | (with_reducible refine gdK_em (fun hc => ?_) (fun hc => ?_) <;> (have hc' := hc; (try simp at hc'); simp -implicitDefEqProofs [hc, hc', he'])) | (with_reducible refine cdK_em (fun hc => ?_) (fun hc => ?_) <;> (have hc' := hc; (try simp at hc'); simp -implicitDefEqProofs [hc, hc', he'])) | (with_reducible refine pickK_em (fun hc => ?_) (fun hc => ?_) <;> (have hc' := hc; (try simp at hc'); simp -implicitDefEqProofs [hc, hc', he'])))
end Go.Proofs.Ythfnaaeddlnckaa
