/- Chapter 32: the law SyntaxRejects. -/
import Derived.Test.YtoepkeppgfbplaaDoorPaw
import Derived.Test.YtoepkeppgfbplaaDoorRt2
set_option linter.unusedSimpArgs false
set_option linter.unusedVariables false
set_option maxHeartbeats 4000000
set_option maxRecDepth 8000
namespace Go.Proofs.YtoepkeppgfbplaaDoor
open E

theorem parse_cases {s : List UInt8} (h : (tokensR s).2.2 = 0) : s.length ≤ 8000 ∧ LexR 0 s (tokensR s).1 ∧
    ((∃ p, parseR s = (p, 0, 0)) ∨ parseR s = ([], 0, 6) ∨ ∃ r, prgT (tokensR s).1 = .er r ∧ parseR s = ([], placeT s.length r, 3)) := by
  obtain ⟨h1, h2⟩ := tokens_lex h
  refine ⟨h1, h2, ?_⟩
  unfold parseR
  rw [if_pos h]
  unfold parsT
  cases hq : prgT (tokensR s).1 with
  | er r => exact .inr (.inr ⟨r, rfl, rfl⟩)
  | ok p r =>
    simp only []
    split
    · exact .inl ⟨p, rfl⟩
    · exact .inr (.inl rfl)
theorem parse_zero {s : List UInt8} (h : (parseR s).2.2 = 0) : (parseR s).2.1 = 0 := by
  by_cases h0 : (tokensR s).2.2 = 0
  · obtain ⟨_, _, ⟨p, e⟩ | e | ⟨r, _, e⟩⟩ := parse_cases h0
    · rw [e]
    · rw [e] at h; cases h
    · rw [e] at h; cases h
  · unfold parseR at h
    rw [if_neg h0] at h
    exact absurd h h0
theorem reject_plain {s more : List UInt8} {l r' : List Tok} {t : Tok} (h : LexR 0 s l) (hf : prgT l = .er (t :: r')) (hs : s.length ≤ 4000) (hm : more.length ≤ 3000) (hmt : (tokensR more).2.2 = 0) :
    ∃ m : Nat, t.frm = (m : Int) ∧ m + t.text.length ≤ s.length ∧ parseR (s.take (m + t.text.length) ++ 32 :: more) = ([], (m : Int), 3) := by
  obtain ⟨_, hml⟩ := tokens_lex hmt
  obtain ⟨pre, e, hpre⟩ := prgT_fault hf
  obtain ⟨m, m1, m2, m3⟩ := lex_cut h hml pre t r' e
  rw [Nat.zero_add] at m1
  refine ⟨m, m1, m2, ?_⟩
  have h8 : (s.take (m + t.text.length) ++ 32 :: more).length ≤ 8000 := by simp; omega
  unfold parseR
  rw [lex_tokens h8 m3, if_pos rfl]
  unfold parsT
  simp only [hpre, placeT, m1]
theorem uniq_at {l : List Tok} (h : l.Pairwise fun a b => a.frm < b.frm) {i j : Nat} (hi : i < l.length) (hj : j < l.length) (e : l[i].frm = l[j].frm) : i = j := by
  rcases Nat.lt_trichotomy i j with hlt | rfl | hlt
  · have := List.pairwise_iff_getElem.1 h i j hi hj hlt; omega
  · rfl
  · have := List.pairwise_iff_getElem.1 h j i hj hi hlt; omega
theorem l_rejects (s more : List UInt8) : Pure Tryd.prog 4 [vS s, vS more] (vB true) := by
  have ha := w_awake32
  by_cases hl : 4000 < s.length
  · have h1 : decide ((4000 : Int) < s.length) = true := by simp; omega
    (refine Pure.of_code mix Tryd.call4 k_4 (by simp) (fun hB => ?_); (try simp at hB); (try simp -implicitDefEqProofs [c_tallystonelaw32_SyntaxRejects_4]))
    ((try simp at ha); (try simp -implicitDefEqProofs [h1]); repeat' first | ((with_reducible first | apply gdK_em | apply cdK_em | apply pickK_em) <;> (intro hc; have hc' := hc; (try simp at hc'); simp -implicitDefEqProofs [hc, hc', h1])) | (with_reducible apply callK_pure <;> first | (simp only [eras, era, eras_map]; first | with_reducible exact ha | simpa using ha) | (simp -implicitDefEqProofs [h1])))
  have h1 : decide ((4000 : Int) < s.length) = false := by simp; omega
  by_cases hl2 : 3000 < more.length
  · have h2 : decide ((3000 : Int) < more.length) = true := by simp; omega
    (refine Pure.of_code mix Tryd.call4 k_4 (by simp) (fun hB => ?_); (try simp at hB); (try simp -implicitDefEqProofs [c_tallystonelaw32_SyntaxRejects_4]))
    ((try simp at ha); (try simp -implicitDefEqProofs [h1, h2]); repeat' first | ((with_reducible first | apply gdK_em | apply cdK_em | apply pickK_em) <;> (intro hc; have hc' := hc; (try simp at hc'); simp -implicitDefEqProofs [hc, hc', h1, h2])) | (with_reducible apply callK_pure <;> first | (simp only [eras, era, eras_map]; first | with_reducible exact ha | simpa using ha) | (simp -implicitDefEqProofs [h1, h2])))
  have h2 : decide ((3000 : Int) < more.length) = false := by simp; omega
  have p1 := w_rTokens s
  have p2 := w_Parse s
  by_cases hz : (parseR s).2.2 = 0
  · have hz2 : (parseR s).2.1 = 0 := parse_zero hz
    generalize parseR s = A at *
    generalize tokensR s = B at *
    obtain ⟨p, i, f⟩ := A
    obtain ⟨l, j, e⟩ := B
    simp only [] at p1 p2 hz hz2
    subst hz hz2
    by_cases he : e = 0
    · subst he
      (refine Pure.of_code mix Tryd.call4 k_4 (by simp) (fun hB => ?_); (try simp at hB); (try simp -implicitDefEqProofs [c_tallystonelaw32_SyntaxRejects_4]))
      ((try simp at ha); (try simp at p1); (try simp at p2); (try simp -implicitDefEqProofs [h1, h2]); repeat' first | ((with_reducible first | apply gdK_em | apply cdK_em | apply pickK_em) <;> (intro hc; have hc' := hc; (try simp at hc'); simp -implicitDefEqProofs [hc, hc', h1, h2])) | (with_reducible apply callK_pure <;> first | (simp only [eras, era, eras_map]; first | with_reducible exact ha | with_reducible exact p1 | with_reducible exact p2 | simpa using ha | simpa using p1 | simpa using p2) | (simp -implicitDefEqProofs [h1, h2])))
    · have he' : (e != 0) = true := by simpa using he
      (refine Pure.of_code mix Tryd.call4 k_4 (by simp) (fun hB => ?_); (try simp at hB); (try simp -implicitDefEqProofs [c_tallystonelaw32_SyntaxRejects_4]))
      ((try simp at ha); (try simp at p1); (try simp at p2); (try simp -implicitDefEqProofs [h1, h2, he, he']); repeat' first | ((with_reducible first | apply gdK_em | apply cdK_em | apply pickK_em) <;> (intro hc; have hc' := hc; (try simp at hc'); simp -implicitDefEqProofs [hc, hc', h1, h2, he, he'])) | (with_reducible apply callK_pure <;> first | (simp only [eras, era, eras_map]; first | with_reducible exact ha | with_reducible exact p1 | with_reducible exact p2 | simpa using ha | simpa using p1 | simpa using p2) | (simp -implicitDefEqProofs [h1, h2, he, he'])))
  by_cases he : (tokensR s).2.2 = 0
  · obtain ⟨h8, hlex, hc⟩ := parse_cases he
    rcases hc with ⟨p, e⟩ | e | ⟨r, hr, e⟩
    · rw [e] at hz; exact absurd rfl hz
    · rw [e] at p2
      generalize tokensR s = B at *
      obtain ⟨l, j, e⟩ := B
      simp only [] at p1 p2 he
      subst he
      (refine Pure.of_code mix Tryd.call4 k_4 (by simp) (fun hB => ?_); (try simp at hB); (try simp -implicitDefEqProofs [c_tallystonelaw32_SyntaxRejects_4]))
      ((try simp at ha); (try simp at p1); (try simp at p2); (try simp -implicitDefEqProofs [h1, h2]); repeat' first | ((with_reducible first | apply gdK_em | apply cdK_em | apply pickK_em) <;> (intro hc; have hc' := hc; (try simp at hc'); simp -implicitDefEqProofs [hc, hc', h1, h2])) | (with_reducible apply callK_pure <;> first | (simp only [eras, era, eras_map]; first | with_reducible exact ha | with_reducible exact p1 | with_reducible exact p2 | simpa using ha | simpa using p1 | simpa using p2) | (simp -implicitDefEqProofs [h1, h2])))
    · rw [e] at p2
      clear hz e
      have hfr := lex_frm hlex
      have hun := lex_uniq hlex
      have hll : (tokensR s).1.length ≤ 1000000 := by have := lex_len hlex; omega
      have hpl : ∀ t r', r = t :: r' → (tokensR more).2.2 = 0 → ∃ m : Nat, t.frm = (m : Int) ∧ m + t.text.length ≤ s.length ∧ parseR (s.take (m + t.text.length) ++ 32 :: more) = ([], (m : Int), 3) := by
        rintro t r' rfl hm
        exact reject_plain hlex hr (by omega) (by omega) hm
      have hmem : ∀ t r', r = t :: r' → t ∈ (tokensR s).1 := by
        rintro t r' rfl
        obtain ⟨pre, e, _⟩ := prgT_fault hr
        rw [e]; simp
      generalize tokensR s = B at *
      obtain ⟨l, j, e⟩ := B
      simp only [] at p1 p2 he hfr hun hll hmem hr hlex
      subst he
      have w1 := w_rTokens more
      cases r with
      | nil =>
        simp only [placeT] at p2
        (refine Pure.of_code mix Tryd.call4 k_4 (by simp) (fun hB => ?_); (try simp at hB); (try simp -implicitDefEqProofs [c_tallystonelaw32_SyntaxRejects_4]))
        ((try simp at ha); (try simp at p1); (try simp at p2); (try simp -implicitDefEqProofs [h1, h2]); repeat' first | ((with_reducible first | apply gdK_em | apply cdK_em | apply pickK_em) <;> (intro hc; have hc' := hc; (try simp at hc'); simp -implicitDefEqProofs [hc, hc', h1, h2])) | (with_reducible apply callK_pure <;> first | (simp only [eras, era, eras_map]; first | with_reducible exact ha | with_reducible exact p1 | with_reducible exact p2 | simpa using ha | simpa using p1 | simpa using p2) | (simp -implicitDefEqProofs [h1, h2])))
        refine loop_rule (X := Nat) (fun k => k ≤ l.length) (fun k => [(0, vS s), (1, vS more), (8, Rul.l []), (9, vI s.length), (53, Tok.l l), (54, vI l.length), (55, vI k)]) (fun _ => St0) (fun k => l.length - k) 0 (by simp) (by simp) ?_
        rintro k hk hbd
        clear hbd
        rcases Nat.lt_or_ge k l.length with g | g
        · have hx : l[k]? = some l[k] := by simp [g]
          have e3 : IntKind.i64.wrap ((k : Int) + 1) = (k : Int) + 1 := wrap64 (by omega) (by omega)
          obtain ⟨m, m1, m2, _⟩ := hfr l[k] (List.getElem_mem g)
          have hne : (l[k].frm == (s.length : Int)) = false := by rw [m1]; simp; omega
          have hne' : ¬ l[k].frm = (s.length : Int) := by rw [m1]; omega
          ((try simp -implicitDefEqProofs [g, e3, hne, hne', Tok.c]); repeat' first | ((with_reducible first | apply gdK_em | apply cdK_em | apply pickK_em) <;> (intro hc; have hc' := hc; (try simp at hc'); simp -implicitDefEqProofs [hc, hc', g, e3, hne, hne', Tok.c])))
          exact ⟨k + 1, by omega, by omega, by push_cast; rfl⟩
        · have : k = l.length := by omega
          subst this
          ((try simp -implicitDefEqProofs); repeat' first | ((with_reducible first | apply gdK_em | apply cdK_em | apply pickK_em) <;> (intro hc; have hc' := hc; (try simp at hc'); simp -implicitDefEqProofs [hc, hc'])))
      | cons t r' =>
        obtain ⟨i0, hi0, ht0⟩ := List.getElem_of_mem (hmem t r' rfl)
        simp only [placeT] at p2
        obtain ⟨mt, mt1, mt2, _⟩ := hfr t (hmem t r' rfl)
        rw [Nat.zero_add] at mt1
        (refine Pure.of_code mix Tryd.call4 k_4 (by simp) (fun hB => ?_); (try simp at hB); (try simp -implicitDefEqProofs [c_tallystonelaw32_SyntaxRejects_4]))
        ((try simp at ha); (try simp at p1); (try simp at p2); (try simp -implicitDefEqProofs [h1, h2]); repeat' first | ((with_reducible first | apply gdK_em | apply cdK_em | apply pickK_em) <;> (intro hc; have hc' := hc; (try simp at hc'); simp -implicitDefEqProofs [hc, hc', h1, h2])) | (with_reducible apply callK_pure <;> first | (simp only [eras, era, eras_map]; first | with_reducible exact ha | with_reducible exact p1 | with_reducible exact p2 | simpa using ha | simpa using p1 | simpa using p2) | (simp -implicitDefEqProofs [h1, h2])))
        refine loop_rule (X := Nat) (fun k => k ≤ i0) (fun k => [(0, vS s), (1, vS more), (8, Rul.l []), (9, vI t.frm), (53, Tok.l l), (54, vI l.length), (55, vI k)]) (fun _ => St0) (fun k => l.length - k) 0 (by simp) (by simp) ?_
        rintro k hk hbd
        clear hbd
        have g : k < l.length := by omega
        have hx : l[k]? = some l[k] := by simp [g]
        have e3 : IntKind.i64.wrap ((k : Int) + 1) = (k : Int) + 1 := wrap64 (by omega) (by omega)
        by_cases hki : k = i0
        · subst hki
          by_cases hm : (tokensR more).2.2 = 0
          · obtain ⟨m, m1, m2, m3⟩ := hpl t r' rfl hm
            have p3 := w_Parse (s.take (m + t.text.length) ++ 32 :: more)
            rw [m3] at p3
            generalize tokensR more = C at *
            obtain ⟨lm, jm, em⟩ := C
            simp only [] at w1 hm
            subst hm
            have e4 : IntKind.i64.wrap ((m : Int) + t.text.length) = ((m + t.text.length : Nat) : Int) := by rw [wrap64 (by omega) (by omega)]; push_cast; rfl
            have tN : ((m : Int) + t.text.length).toNat = m + t.text.length := by omega
            have g1 : (0 : Int) ≤ (m : Int) + t.text.length := by omega
            have g2 : (m : Int) + t.text.length ≤ s.length := by omega
            have hap : s.take (m + t.text.length) ++ 32 :: more = (s.take (m + t.text.length) ++ [32]) ++ more := by simp
            have hmn : min (m + t.text.length) s.length = m + t.text.length := by omega
            have y1 : m + t.text.length + 1 ≤ maxLen := by unfold maxLen; omega
            have y2 : m + t.text.length + 1 + more.length ≤ maxLen := by unfold maxLen; omega
            ((try simp at w1); (try simp at p3); (try simp -implicitDefEqProofs [g, ht0, e3, e4, m1, m2, Tok.c, tN, g1, g2, hmn, y1, y2]); repeat' first | ((with_reducible first | apply gdK_em | apply cdK_em | apply pickK_em) <;> (intro hc; have hc' := hc; (try simp at hc'); simp -implicitDefEqProofs [hc, hc', g, ht0, e3, e4, m1, m2, Tok.c, tN, g1, g2, hmn, y1, y2])) | (with_reducible apply callK_pure <;> first | (simp only [eras, era, eras_map]; first | with_reducible exact w1 | with_reducible exact p3 | simpa using w1 | simpa using p3) | (simp -implicitDefEqProofs [g, ht0, e3, e4, m1, m2, Tok.c, tN, g1, g2, hmn, y1, y2])))
          · generalize tokensR more = C at *
            obtain ⟨lm, jm, em⟩ := C
            simp only [] at w1 hm
            have hm' : (em != 0) = true := by simpa using hm
            ((try simp at w1); (try simp -implicitDefEqProofs [g, ht0, e3, hm, hm', Tok.c]); repeat' first | ((with_reducible first | apply gdK_em | apply cdK_em | apply pickK_em) <;> (intro hc; have hc' := hc; (try simp at hc'); simp -implicitDefEqProofs [hc, hc', g, ht0, e3, hm, hm', Tok.c])) | (with_reducible apply callK_pure <;> first | (simp only [eras, era, eras_map]; first | with_reducible exact w1 | simpa using w1) | (simp -implicitDefEqProofs [g, ht0, e3, hm, hm', Tok.c])))
        · have hne : (l[k].frm == t.frm) = false := by
            rw [beq_eq_false_iff_ne]
            intro q
            exact hki (uniq_at hun g hi0 (by rw [q, ht0]))
          have hne' : ¬ l[k].frm = t.frm := by simpa using hne
          ((try simp -implicitDefEqProofs [g, e3, hne, hne', Tok.c]); repeat' first | ((with_reducible first | apply gdK_em | apply cdK_em | apply pickK_em) <;> (intro hc; have hc' := hc; (try simp at hc'); simp -implicitDefEqProofs [hc, hc', g, e3, hne, hne', Tok.c])))
          exact ⟨k + 1, by omega, by omega, by push_cast; rfl⟩
  · generalize parseR s = A at *
    generalize tokensR s = B at *
    obtain ⟨p, i, f⟩ := A
    obtain ⟨l, j, e⟩ := B
    simp only [] at p1 p2 hz he
    have he' : (e != 0) = true := by simpa using he
    have hz' : (f != 0) = true := by simpa using hz
    (refine Pure.of_code mix Tryd.call4 k_4 (by simp) (fun hB => ?_); (try simp at hB); (try simp -implicitDefEqProofs [c_tallystonelaw32_SyntaxRejects_4]))
    ((try simp at ha); (try simp at p1); (try simp at p2); (try simp -implicitDefEqProofs [h1, h2, he, he', hz, hz']); repeat' first | ((with_reducible first | apply gdK_em | apply cdK_em | apply pickK_em) <;> (intro hc; have hc' := hc; (try simp at hc'); simp -implicitDefEqProofs [hc, hc', h1, h2, he, he', hz, hz'])) | (with_reducible apply callK_pure <;> first | (simp only [eras, era, eras_map]; first | with_reducible exact ha | with_reducible exact p1 | with_reducible exact p2 | simpa using ha | simpa using p1 | simpa using p2) | (simp -implicitDefEqProofs [h1, h2, he, he', hz, hz'])))
end Go.Proofs.YtoepkeppgfbplaaDoor
