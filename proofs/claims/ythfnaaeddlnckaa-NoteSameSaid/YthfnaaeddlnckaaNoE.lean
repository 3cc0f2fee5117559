/- The laws NoteAll and NoteExplains. -/
import Derived.Test.YthfnaaeddlnckaaNoD
set_option linter.unusedSimpArgs false
set_option linter.unusedVariables false
set_option maxHeartbeats 4000000
set_option maxRecDepth 8000
namespace Go.Proofs.Ythfnaaeddlnckaa
open E

theorem chart_ne {g : Group} (h : validGR g = true) : 0 < g.chart.length := by
  rw [← group_agree] at h
  have ha : accB g = true := by
    unfold validGP at h
    simp only [Bool.and_eq_true] at h
    first | exact h.1.2 | exact h.2.1 | exact h.1.1.2 | simp_all
  simp only [accB, Bool.and_eq_true] at ha
  have h0 := allB_iff.1 ha.2 0 (by rw [rolesOf_length]; omega)
  simp only [rolP, Bool.and_eq_true, roleOk] at h0
  obtain ⟨h1, _⟩ := h0
  rcases Nat.eq_zero_or_pos g.chart.length with hz | hz
  · have : g.chart = [] := List.eq_nil_of_length_eq_zero hz
    rw [this] at h1
    simp [findS] at h1
  · exact hz
theorem makeR_acc (g : Group) (b a : Res) (c : Int) (h : (makeR g b a c).2 = 0) : (makeR g b a c).1.acc = c := by
  unfold makeR at h ⊢
  split
  · rename_i h1; rw [if_pos h1] at h; simp at h
  rename_i h1
  rw [if_neg h1] at h
  split
  · rename_i h2; rw [if_pos h2] at h; simp at h
  rename_i h2
  rw [if_neg h2] at h
  split
  · rename_i h3; rw [if_pos h3] at h; simp at h
  rename_i h3
  rw [if_neg h3] at h
  split
  · rename_i h4; rw [if_pos h4] at h; simp at h
  · rfl
theorem all_agree (g : Group) {b a : Res} (hb : OkI b.items) (ha : OkI a.items) : allP g b a = allR g b a := by
  have hm : makeP g b a = makeR g b a := funext fun c => make_agree g hb ha c
  unfold allP allR
  rw [hm]
  unfold daysS
  rw [group_agree]
  cases hv : validGR g
  · simp
  · simp only [Bool.true_eq_false, if_false, reduceCtorEq]
    by_cases he : (firstS g.cal a.per).2 = 0
    · simp [he]
    · simp only [he, if_false, ne_eq, not_false_eq_true, if_true, show ¬ (2 : Int) = 0 by omega]
      have hk := chart_ne hv
      have h2 : ∀ c, makeR g b a c = (note0, 2) := fun c => by
        unfold makeR
        rw [if_neg (by simp [hv]), if_pos he]
      rw [runF_hit (k := 0) hk rfl (by rw [h2]; simp), h2]
theorem allP_len (g : Group) (b a : Res) : (allP g b a).1.length ≤ g.chart.length := by
  unfold allP
  split
  · simp
  · unfold runF
    split
    · have := outF_len (makeP g b a) g.chart g.chart.length
      simpa using this
    · simp

theorem l_NoteAll (hw : Pure Try.prog 12 [] (vB true)) (g : Group) (b a : Res) (hg : WfG g) (hb : OkI b.items) (ha : OkI a.items) :
    Pure Try.prog 7 [g.v, twoV b a] (vB true) := by
  have hf := w_few g b a
  cases hfe : fewAll g b a
  · rw [hfe] at hf
    (refine Pure.of_code mix Try.call7 k_7 (by simp) (fun hB => ?_); (try simp at hB); (try simp -implicitDefEqProofs [c_tallystonelaw52_NoteAll_7]))
    ((try simp at hw); (try simp at hf); (try simp -implicitDefEqProofs); repeat' first | (with_reducible refine gdK_em (fun hc => ?_) (fun hc => ?_) <;> (have hc' := hc; (try simp at hc'); simp -implicitDefEqProofs [hc, hc'])) | (with_reducible refine cdK_em (fun hc => ?_) (fun hc => ?_) <;> (have hc' := hc; (try simp at hc'); simp -implicitDefEqProofs [hc, hc'])) | (with_reducible refine pickK_em (fun hc => ?_) (fun hc => ?_) <;> (have hc' := hc; (try simp at hc'); simp -implicitDefEqProofs [hc, hc'])) | (with_reducible apply callK_pure <;> first | (simp only [eras, era, eras_map]; first | with_reducible exact hw | simpa using hw) | (simp -implicitDefEqProofs)) | (with_reducible apply callK_pure <;> first | (simp only [eras, era, eras_map]; first | with_reducible exact hf | simpa using hf) | (simp -implicitDefEqProofs)))
  · rw [hfe] at hf
    simp only [fewAll, Bool.and_eq_true] at hfe
    have ok := okG_of hg hfe.1.1
    have h1 := w_nAll g ok b a
    have h2 := w_rAll g ok b a (makeR_acc g b a)
    have hl := allP_len g b a
    have hcl := ok.chart
    rw [← all_agree g hb ha] at h2
    generalize allP g b a = M at *
    obtain ⟨L, e⟩ := M
    have h3 := w_from L (by simp at hl; omega)
    have h4 := w_Same L
    (refine Pure.of_code mix Try.call7 k_7 (by simp) (fun hB => ?_); (try simp at hB); (try simp -implicitDefEqProofs [c_tallystonelaw52_NoteAll_7]))
    ((try simp at hw); (try simp at hf); (try simp at h1); (try simp at h2); (try simp at h3); (try simp at h4); (try simp -implicitDefEqProofs); repeat' first | (with_reducible refine gdK_em (fun hc => ?_) (fun hc => ?_) <;> (have hc' := hc; (try simp at hc'); simp -implicitDefEqProofs [hc, hc'])) | (with_reducible refine cdK_em (fun hc => ?_) (fun hc => ?_) <;> (have hc' := hc; (try simp at hc'); simp -implicitDefEqProofs [hc, hc'])) | (with_reducible refine pickK_em (fun hc => ?_) (fun hc => ?_) <;> (have hc' := hc; (try simp at hc'); simp -implicitDefEqProofs [hc, hc'])) | (with_reducible apply callK_pure <;> first | (simp only [eras, era, eras_map]; first | with_reducible exact hw | simpa using hw) | (simp -implicitDefEqProofs)) | (with_reducible apply callK_pure <;> first | (simp only [eras, era, eras_map]; first | with_reducible exact hf | simpa using hf) | (simp -implicitDefEqProofs)) | (with_reducible apply callK_pure <;> first | (simp only [eras, era, eras_map]; first | with_reducible exact h1 | simpa using h1) | (simp -implicitDefEqProofs)) | (with_reducible apply callK_pure <;> first | (simp only [eras, era, eras_map]; first | with_reducible exact h2 | simpa using h2) | (simp -implicitDefEqProofs)) | (with_reducible apply callK_pure <;> first | (simp only [eras, era, eras_map]; first | with_reducible exact h3 | simpa using h3) | (simp -implicitDefEqProofs)) | (with_reducible apply callK_pure <;> first | (simp only [eras, era, eras_map]; first | with_reducible exact h4 | simpa using h4) | (simp -implicitDefEqProofs)))

theorem ww_sum (l : List Int) : ww (l.map ww).sum = ww l.sum := by
  induction l with
  | nil => rfl
  | cons a l ih => rw [List.map_cons, List.sum_cons, List.sum_cons, ww_add, ← ww_addr, ih, ww_addr]
theorem sum_kinds (F : List (Int × Part)) (acc : Int) (h : ∀ e ∈ F, 1 ≤ e.1 ∧ e.1 ≤ 10) : ((List.range 11).map fun (j : Nat) => if 1 ≤ j ∧ j ≤ 10 then sumF F acc (fun k => k == (j : Int)) else 0).sum = sumF F acc allK := by
  induction F with
  | nil => simp [sumF, List.range_succ]
  | cons e F ih =>
    have ih := ih fun x hx => h x (by simp [hx])
    have he := h e (by simp)
    have hone : ((List.range 11).map fun (j : Nat) => if 1 ≤ j ∧ j ≤ 10 then one acc (fun k => k == (j : Int)) e else 0).sum = one acc allK e := by
      obtain ⟨k, p⟩ := e
      simp only at he
      rcases (by omega : k = 1 ∨ k = 2 ∨ k = 3 ∨ k = 4 ∨ k = 5 ∨ k = 6 ∨ k = 7 ∨ k = 8 ∨ k = 9 ∨ k = 10) with rfl | rfl | rfl | rfl | rfl | rfl | rfl | rfl | rfl | rfl <;>
        simp [List.range_succ, one, allK]
    have hs : ∀ q, sumF (e :: F) acc q = one acc q e + sumF F acc q := fun q => by simp [sumF]
    rw [hs, ← hone, ← ih]
    simp only [hs]
    simp only [List.range_succ, List.range_zero, List.map_append, List.map_cons, List.map_nil, List.sum_append, List.sum_cons, List.sum_nil, List.nil_append]
    simp
    omega
theorem sum_derived (b a : List (Int × Part)) (acc : Int) (hb : ∀ e ∈ b, 1 ≤ e.1 ∧ e.1 ≤ 10) (ha : ∀ e ∈ a, 1 ≤ e.1 ∧ e.1 ≤ 10) : ww (sumD (dD 1 a acc (dD (-1) b acc D0)) 11) = ww (sumF a acc allK - sumF b acc allK) := by
  have hd : (List.range 11).map (dD 1 a acc (dD (-1) b acc D0)) = ((List.range 11).map fun (j : Nat) => (if 1 ≤ j ∧ j ≤ 10 then sumF a acc (fun k => k == (j : Int)) else 0) - (if 1 ≤ j ∧ j ≤ 10 then sumF b acc (fun k => k == (j : Int)) else 0)).map ww := by
    rw [List.map_map]
    apply List.map_congr_left
    intro j _
    simp only [Function.comp, dD]
    by_cases hj : 1 ≤ j ∧ j ≤ 10
    · simp only [if_pos hj, D0_app, ww_add]
      congr 1
      omega
    · simp only [if_neg hj, D0_app]; rfl
  unfold sumD
  rw [hd, ww_sum]
  have e1 := sum_kinds a acc ha
  have e2 := sum_kinds b acc hb
  rw [← e1, ← e2]
  congr 1
  simp only [List.range_succ, List.range_zero, List.map_append, List.map_cons, List.map_nil, List.sum_append, List.sum_cons, List.sum_nil, List.nil_append]
  omega
def kindsOk (l : List Posting) : Bool := l.all fun p => decide (1 ≤ p.kind) && decide (p.kind ≤ 10)
theorem kinds_flat {l : List Posting} (h : ∀ p ∈ l, 1 ≤ p.kind ∧ p.kind ≤ 10) : ∀ e ∈ flat l, 1 ≤ e.1 ∧ e.1 ≤ 10 := by
  intro e he
  simp only [flat, List.mem_flatMap, flat1, List.mem_map] at he
  obtain ⟨p, hp, x, _, rfl⟩ := he
  exact h p hp
theorem explains (b a : Res) (first last acc : Int) (hb : ∀ p ∈ b.posts, 1 ≤ p.kind ∧ p.kind ≤ 10) (ha : ∀ p ∈ a.posts, 1 ≤ p.kind ∧ p.kind ≤ 10) :
    ww (ww (ww ((noteP b a first last acc).o + (noteP b a first last acc).d) + ww (sumD (noteP b a first last acc).D 11)) + (noteP b a first last acc).c) = (noteP b a first last acc).l := by
  unfold noteP
  simp only
  rw [sum_derived _ _ _ (kinds_flat hb) (kinds_flat ha), itemsA_split a.items acc first last]
  simp only [ww_add, ww_addr]
  simp only [ww_eq]
  omega
theorem makeP_zero (g : Group) (b a : Res) (acc : Int) (hk1 : ∀ p ∈ b.posts, 1 ≤ p.kind ∧ p.kind ≤ 10) (hk2 : ∀ p ∈ a.posts, 1 ≤ p.kind ∧ p.kind ≤ 10) :
    ((makeP g b a acc).2 ≠ 0 ∧ (makeP g b a acc).1 = note0) ∨ ((makeP g b a acc).2 = 0 ∧ ww (ww (ww ((makeP g b a acc).1.o + (makeP g b a acc).1.d) + ww (sumD (makeP g b a acc).1.D 11)) + (makeP g b a acc).1.c) = (makeP g b a acc).1.l) := by
  unfold makeP
  split
  · rename_i h; exact .inl ⟨h, rfl⟩
  split
  · exact .inl ⟨by simp, rfl⟩
  split
  · exact .inl ⟨by simp, rfl⟩
  · exact .inr ⟨rfl, explains b a _ _ acc hk1 hk2⟩
theorem few52_len {r : Res} (h : few52 r = true) : r.items.length ≤ 150 ∧ r.posts.length ≤ 60 := by
  simp only [few52, Bool.and_eq_true, decide_eq_true_eq] at h
  exact h.2
theorem l_NoteExplains (hw : Pure Try.prog 12 [] (vB true)) (g : Group) (b a : Res) (acc : Int) (hg : WfG g) :
    Pure Try.prog 5 [g.v, twoV b a, vI acc] (vB true) := by
  have hf := w_few g b a
  cases hfe : fewAll g b a
  · rw [hfe] at hf
    (refine Pure.of_code mix Try.call5 k_5 (by simp) (fun hB => ?_); (try simp at hB); (try simp -implicitDefEqProofs [c_tallystonelaw52_NoteExplains_5]))
    ((try simp at hw); (try simp at hf); (try simp -implicitDefEqProofs); repeat' first | (with_reducible refine gdK_em (fun hc => ?_) (fun hc => ?_) <;> (have hc' := hc; (try simp at hc'); simp -implicitDefEqProofs [hc, hc'])) | (with_reducible refine cdK_em (fun hc => ?_) (fun hc => ?_) <;> (have hc' := hc; (try simp at hc'); simp -implicitDefEqProofs [hc, hc'])) | (with_reducible refine pickK_em (fun hc => ?_) (fun hc => ?_) <;> (have hc' := hc; (try simp at hc'); simp -implicitDefEqProofs [hc, hc'])) | (with_reducible apply callK_pure <;> first | (simp only [eras, era, eras_map]; first | with_reducible exact hw | simpa using hw) | (simp -implicitDefEqProofs)) | (with_reducible apply callK_pure <;> first | (simp only [eras, era, eras_map]; first | with_reducible exact hf | simpa using hf) | (simp -implicitDefEqProofs)))
  rw [hfe] at hf
  simp only [fewAll, Bool.and_eq_true] at hfe
  have ok := okG_of hg hfe.1.1
  have hbl := (few52_len hfe.1.2).2
  have hal := (few52_len hfe.2).2
  have h1 := w_nMake g ok b a acc
  have hmz := makeP_zero g b a acc
  generalize makeP g b a acc = M at *
  obtain ⟨n, e⟩ := M
  have s1 := w_nSum n
  generalize hP : b.posts ++ a.posts = P
  have hPl : P.length ≤ 120 := by rw [← hP]; simp; omega
  (refine Pure.of_code mix Try.call5 k_5 (by simp) (fun hB => ?_); (try simp at hB); (try simp -implicitDefEqProofs [c_tallystonelaw52_NoteExplains_5]))
  ((try simp at hw); (try simp at hf); (try simp -implicitDefEqProofs); repeat' first | (with_reducible refine gdK_em (fun hc => ?_) (fun hc => ?_) <;> (have hc' := hc; (try simp at hc'); simp -implicitDefEqProofs [hc, hc'])) | (with_reducible refine cdK_em (fun hc => ?_) (fun hc => ?_) <;> (have hc' := hc; (try simp at hc'); simp -implicitDefEqProofs [hc, hc'])) | (with_reducible refine pickK_em (fun hc => ?_) (fun hc => ?_) <;> (have hc' := hc; (try simp at hc'); simp -implicitDefEqProofs [hc, hc'])) | (with_reducible apply callK_pure <;> first | (simp only [eras, era, eras_map]; first | with_reducible exact hw | simpa using hw) | (simp -implicitDefEqProofs)) | (with_reducible apply callK_pure <;> first | (simp only [eras, era, eras_map]; first | with_reducible exact hf | simpa using hf) | (simp -implicitDefEqProofs)))
  by_cases p1 : b.posts = [] <;> by_cases p2 : a.posts = []
  all_goals
    simp -implicitDefEqProofs [p1, p2, maxLen]
  all_goals try refine ⟨⟨by omega, by omega⟩, ?_⟩
  all_goals try refine ⟨⟨by omega, by omega⟩, ?_⟩
  all_goals
    refine loop_rule (X := Nat) (fun k => k ≤ P.length ∧ ∀ p ∈ P.take k, 1 ≤ p.kind ∧ p.kind ≤ 10) (fun k => [(2, vI acc), (3, .ptr 0 0), (4, .ptr 1 0), (31, Posting.l P), (32, vI P.length), (33, vI k)])
      (fun k => ⟨[.cells (g.c.map .t), .cells ((b.c ++ a.c).map .t)], []⟩) (fun k => P.length - k) 0 ⟨by omega, by simp⟩ ?_ ?_
    · simp [← hP, p1, p2]
    rintro k ⟨hk, hn⟩ hbd
    rcases Nat.lt_or_ge k P.length with h | h
    · have hx : P[k]? = some P[k] := by simp [h]
      have e3 : IntKind.i64.wrap ((k : Int) + 1) = (k : Int) + 1 := wrap64 (by omega) (by omega)
      by_cases k1 : P[k].kind < 1
      · ((try simp -implicitDefEqProofs [h, k1]); repeat' first | (with_reducible refine gdK_em (fun hc => ?_) (fun hc => ?_) <;> (have hc' := hc; (try simp at hc'); simp -implicitDefEqProofs [hc, hc', h, k1])) | (with_reducible refine cdK_em (fun hc => ?_) (fun hc => ?_) <;> (have hc' := hc; (try simp at hc'); simp -implicitDefEqProofs [hc, hc', h, k1])) | (with_reducible refine pickK_em (fun hc => ?_) (fun hc => ?_) <;> (have hc' := hc; (try simp at hc'); simp -implicitDefEqProofs [hc, hc', h, k1])))
      by_cases k2 : 10 < P[k].kind
      · ((try simp -implicitDefEqProofs [h, k1, k2]); repeat' first | (with_reducible refine gdK_em (fun hc => ?_) (fun hc => ?_) <;> (have hc' := hc; (try simp at hc'); simp -implicitDefEqProofs [hc, hc', h, k1, k2])) | (with_reducible refine cdK_em (fun hc => ?_) (fun hc => ?_) <;> (have hc' := hc; (try simp at hc'); simp -implicitDefEqProofs [hc, hc', h, k1, k2])) | (with_reducible refine pickK_em (fun hc => ?_) (fun hc => ?_) <;> (have hc' := hc; (try simp at hc'); simp -implicitDefEqProofs [hc, hc', h, k1, k2])))
      have step : ∀ p ∈ P.take (k + 1), 1 ≤ p.kind ∧ p.kind ≤ 10 := fun p hp => by
        rw [take_next hx] at hp
        rcases List.mem_append.1 hp with hp | hp
        · exact hn p hp
        · simp at hp; subst hp; omega
      ((try simp -implicitDefEqProofs [h, e3, k1, k2]); repeat' first | (with_reducible refine gdK_em (fun hc => ?_) (fun hc => ?_) <;> (have hc' := hc; (try simp at hc'); simp -implicitDefEqProofs [hc, hc', h, e3, k1, k2])) | (with_reducible refine cdK_em (fun hc => ?_) (fun hc => ?_) <;> (have hc' := hc; (try simp at hc'); simp -implicitDefEqProofs [hc, hc', h, e3, k1, k2])) | (with_reducible refine pickK_em (fun hc => ?_) (fun hc => ?_) <;> (have hc' := hc; (try simp at hc'); simp -implicitDefEqProofs [hc, hc', h, e3, k1, k2])))
      exact ⟨k + 1, ⟨by omega, step⟩, by omega, by omega⟩
    · have : k = P.length := by omega
      subst this
      rw [List.take_length] at hn
      have hmz' := hmz (fun p hp => hn p (by rw [← hP]; simp [hp])) (fun p hp => hn p (by rw [← hP]; simp [hp]))
      rcases hmz' with ⟨he, h0⟩ | ⟨he, hs⟩
      · have he' : (e != 0) = true := by simpa using he
        simp only at h0
        subst h0
        ((try simp at h1); (try simp -implicitDefEqProofs [he', note0]); repeat' first | (with_reducible refine gdK_em (fun hc => ?_) (fun hc => ?_) <;> (have hc' := hc; (try simp at hc'); simp -implicitDefEqProofs [hc, hc', he', note0])) | (with_reducible refine cdK_em (fun hc => ?_) (fun hc => ?_) <;> (have hc' := hc; (try simp at hc'); simp -implicitDefEqProofs [hc, hc', he', note0])) | (with_reducible refine pickK_em (fun hc => ?_) (fun hc => ?_) <;> (have hc' := hc; (try simp at hc'); simp -implicitDefEqProofs [hc, hc', he', note0])) | (with_reducible apply callK_pure <;> first | (simp only [eras, era, eras_map]; first | with_reducible exact h1 | simpa using h1) | (simp -implicitDefEqProofs [he', note0])))
      · simp only at he
        subst he
        ((try simp at h1); (try simp at s1); (try simp -implicitDefEqProofs [wrap_ww, hs]); repeat' first | (with_reducible refine gdK_em (fun hc => ?_) (fun hc => ?_) <;> (have hc' := hc; (try simp at hc'); simp -implicitDefEqProofs [hc, hc', wrap_ww, hs])) | (with_reducible refine cdK_em (fun hc => ?_) (fun hc => ?_) <;> (have hc' := hc; (try simp at hc'); simp -implicitDefEqProofs [hc, hc', wrap_ww, hs])) | (with_reducible refine pickK_em (fun hc => ?_) (fun hc => ?_) <;> (have hc' := hc; (try simp at hc'); simp -implicitDefEqProofs [hc, hc', wrap_ww, hs])) | (with_reducible apply callK_pure <;> first | (simp only [eras, era, eras_map]; first | with_reducible exact h1 | simpa using h1) | (simp -implicitDefEqProofs [wrap_ww, hs])) | (with_reducible apply callK_pure <;> first | (simp only [eras, era, eras_map]; first | with_reducible exact s1 | simpa using s1) | (simp -implicitDefEqProofs [wrap_ww, hs])))
end Go.Proofs.Ythfnaaeddlnckaa
