/- Chapter 32: the law SyntaxParts. -/
import Derived.Test.YtoepkeppgfbplaaDoorPaw
import Derived.Test.YtoepkeppgfbplaaDoorPsq
set_option linter.unusedSimpArgs false
set_option linter.unusedVariables false
set_option maxHeartbeats 4000000
set_option maxRecDepth 8000
namespace Go.Proofs.YtoepkeppgfbplaaDoor
open E

theorem parse_ok {s : List UInt8} (h : (parseR s).2.2 = 0) : ∃ l p, s.length ≤ 8000 ∧ LexR 0 s l ∧ prgT l = .ok p [] ∧ prgB p = true ∧ parseR s = (p, 0, 0) := by
  unfold parseR at h ⊢
  split at h
  · rename_i h0
    obtain ⟨h1, h2⟩ := tokens_lex h0
    rw [if_pos h0]
    generalize (tokensR s).1 = l at *
    unfold parsT at h ⊢
    cases hq : prgT l with
    | er r => rw [hq] at h; cases h
    | ok p r =>
      rw [hq] at h
      simp only [] at h ⊢
      split at h
      · rename_i hb
        have hs := prgT_spec l
        rw [hq] at hs
        have := prg_end hs
        subst this
        exact ⟨l, p, h1, h2, hq, hb, by rw [if_pos hb]⟩
      · cases h
  · rename_i h0
    exact absurd h h0
theorem parse_of {s : List UInt8} {l : List Tok} {p : List Rul} (h8 : s.length ≤ 8000) (h : LexR 0 s l) (hp : prgT l = .ok p []) (hb : prgB p = true) : parseR s = (p, 0, 0) := by
  unfold parseR
  rw [lex_tokens h8 h]
  rw [if_pos rfl]
  unfold parsT
  simp only [hp]
  rw [if_pos hb]
theorem parts_plain {a b : List UInt8} (hl : a.length + b.length ≤ 7000) (ha : (parseR a).2.2 = 0) (hb : (parseR b).2.2 = 0) (h4 : (parseR a).1.length + (parseR b).1.length ≤ 40) :
    parseR (a ++ 10 :: b) = ((parseR a).1 ++ (parseR b).1, 0, 0) := by
  obtain ⟨la, p, a1, a2, a3, a4, a5⟩ := parse_ok ha
  obtain ⟨lb, q, b1, b2, b3, b4, b5⟩ := parse_ok hb
  rw [a5, b5] at h4 ⊢
  simp only [] at h4 ⊢
  have hm := prgT_map (plc_shift (0 + a.length + 1)) lb
  rw [b3] at hm
  refine parse_of (by simp; omega) (lex_parts a2 b2) (prgT_parts a3 hm) ?_
  unfold prgB at a4 b4 ⊢
  simp only [Bool.and_eq_true, decide_eq_true_eq, List.all_append, List.length_append] at a4 b4 ⊢
  exact ⟨⟨a4.1, b4.1⟩, h4⟩
theorem l_parts (a b : List UInt8) (hab : a.length + b.length ≤ 1000000000000000) : Pure Tryd.prog 9 [vS a, vS b] (vB true) := by
  have ha := w_awake32
  by_cases hl : 7000 < a.length + b.length
  · (refine Pure.of_code mix Tryd.call9 k_9 (by simp) (fun hB => ?_); (try simp at hB); (try simp -implicitDefEqProofs [c_tallystonelaw32_SyntaxParts_9]))
    have e1 : IntKind.i64.wrap ((a.length : Int) + b.length) = (a.length : Int) + b.length := wrap64 (by omega) (by omega)
    have h1 : decide ((7000 : Int) < (a.length : Int) + b.length) = true := by simp; omega
    ((try simp at ha); (try simp -implicitDefEqProofs [e1, h1]); repeat' first | ((with_reducible first | apply gdK_em | apply cdK_em | apply pickK_em) <;> (intro hc; have hc' := hc; (try simp at hc'); simp -implicitDefEqProofs [hc, hc', e1, h1])) | (with_reducible apply callK_pure <;> first | (simp only [eras, era, eras_map]; first | with_reducible exact ha | simpa using ha) | (simp -implicitDefEqProofs [e1, h1])))
  have p1 := w_Parse a
  have p2 := w_Parse b
  have p3 := w_Parse (a ++ 10 :: b)
  have e1 : IntKind.i64.wrap ((a.length : Int) + b.length) = (a.length : Int) + b.length := wrap64 (by omega) (by omega)
  have h1 : decide ((7000 : Int) < (a.length : Int) + b.length) = false := by simp; omega
  have h2 : a ++ (10 :: b) = (a ++ [10]) ++ b := by simp
  have hm : a.length + 1 ≤ maxLen := by simp [maxLen]; omega
  have hm' : a.length + 1 + b.length ≤ maxLen := by simp [maxLen]; omega
  have hp := @parts_plain a b (by omega)
  have hok1 : (parseR a).2.2 = 0 → (parseR a).1.length ≤ 40 := fun h => by
    obtain ⟨_, p, _, _, _, h4, h5⟩ := parse_ok h
    rw [h5]
    unfold prgB at h4
    simp only [Bool.and_eq_true, decide_eq_true_eq] at h4
    exact h4.2
  have hok2 : (parseR b).2.2 = 0 → (parseR b).1.length ≤ 40 := fun h => by
    obtain ⟨_, p, _, _, _, h4, h5⟩ := parse_ok h
    rw [h5]
    unfold prgB at h4
    simp only [Bool.and_eq_true, decide_eq_true_eq] at h4
    exact h4.2
  generalize parseR a = A at *
  generalize parseR b = B at *
  generalize parseR (a ++ 10 :: b) = C at *
  obtain ⟨p, i, e⟩ := A
  obtain ⟨q, j, f⟩ := B
  obtain ⟨r, k, g⟩ := C
  simp only [] at p1 p2 p3 hp hok1 hok2
  by_cases c1 : e = 0
  · by_cases c2 : f = 0
    · have o1 := hok1 c1
      have o2 := hok2 c2
      subst c1 c2
      have e2 : IntKind.i64.wrap ((p.length : Int) + q.length) = (p.length : Int) + q.length := wrap64 (by omega) (by omega)
      by_cases c3 : p.length + q.length ≤ 40
      · have hp' := hp rfl rfl c3
        have z1 : r = p ++ q := congrArg (·.1) hp'
        have z2 : k = 0 := congrArg (·.2.1) hp'
        have z3 : g = 0 := congrArg (·.2.2) hp'
        subst z1 z2 z3
        have hs := w_Same (p ++ q) (p ++ q)
        rw [eqv_self] at hs
        have h4 : decide ((40 : Int) < (p.length : Int) + q.length) = false := by simp; omega
        (refine Pure.of_code mix Tryd.call9 k_9 (by simp) (fun hB => ?_); (try simp at hB); (try simp -implicitDefEqProofs [c_tallystonelaw32_SyntaxParts_9]))
        ((try simp at ha); (try simp at p1); (try simp at p2); (try simp at p3); (try simp at hs); (try simp -implicitDefEqProofs [e1, h1, e2, h4, hm, hm']); repeat' first | ((with_reducible first | apply gdK_em | apply cdK_em | apply pickK_em) <;> (intro hc; have hc' := hc; (try simp at hc'); simp -implicitDefEqProofs [hc, hc', e1, h1, e2, h4, hm, hm'])) | (with_reducible apply callK_pure <;> first | (simp only [eras, era, eras_map]; first | with_reducible exact ha | with_reducible exact p1 | with_reducible exact p2 | with_reducible exact p3 | with_reducible exact hs | simpa using ha | simpa using p1 | simpa using p2 | simpa using p3 | simpa using hs) | (simp -implicitDefEqProofs [e1, h1, e2, h4, hm, hm'])))
        refine ⟨fun y _ => len_rc y, ?_⟩
        have hlr : ∀ y : Rul, y ∈ q → y.c.length = 4 := fun y _ => len_rc y
        have hlp : ∀ y : Rul, y ∈ p → y.c.length = 4 := fun y _ => len_rc y
        by_cases zp : p = []
        · subst zp
          rw [if_pos rfl]
          refine ⟨hlr, ?_⟩
          by_cases zq : q = []
          · subst zq
            rw [if_pos rfl]
            have hs0 : Pure Tryd.prog 19 [.t (.sl []), .t (.sl [])] (vB true) := hs
            ((try simp at hs0); (try simp -implicitDefEqProofs); repeat' first | ((with_reducible first | apply gdK_em | apply cdK_em | apply pickK_em) <;> (intro hc; have hc' := hc; (try simp at hc'); simp -implicitDefEqProofs [hc, hc'])) | (with_reducible apply callK_pure <;> first | (simp only [eras, era, eras_map]; first | with_reducible exact hs0 | simpa using hs0) | (simp -implicitDefEqProofs)))
          · rw [if_neg zq]
            refine ⟨by simp [maxLen]; omega, ?_⟩
            simp only [List.nil_append] at hs
            ((try simp at hs); (try simp -implicitDefEqProofs); repeat' first | ((with_reducible first | apply gdK_em | apply cdK_em | apply pickK_em) <;> (intro hc; have hc' := hc; (try simp at hc'); simp -implicitDefEqProofs [hc, hc'])) | (with_reducible apply callK_pure <;> first | (simp only [eras, era, eras_map]; first | with_reducible exact hs | simpa using hs) | (simp -implicitDefEqProofs)))
        · rw [if_neg zp]
          refine ⟨⟨by simp [maxLen]; omega, by omega⟩, hlr, ⟨by simp [maxLen]; omega, by omega⟩, ?_⟩
          simp only [Rul.l, List.map_append] at hs
          ((try simp at hs); (try simp -implicitDefEqProofs); repeat' first | ((with_reducible first | apply gdK_em | apply cdK_em | apply pickK_em) <;> (intro hc; have hc' := hc; (try simp at hc'); simp -implicitDefEqProofs [hc, hc'])) | (with_reducible apply callK_pure <;> first | (simp only [eras, era, eras_map]; first | with_reducible exact hs | simpa using hs) | (simp -implicitDefEqProofs)))
      · have h4 : decide ((40 : Int) < (p.length : Int) + q.length) = true := by simp; omega
        (refine Pure.of_code mix Tryd.call9 k_9 (by simp) (fun hB => ?_); (try simp at hB); (try simp -implicitDefEqProofs [c_tallystonelaw32_SyntaxParts_9]))
        ((try simp at ha); (try simp at p1); (try simp at p2); (try simp at p3); (try simp -implicitDefEqProofs [e1, h1, e2, h4, hm, hm']); repeat' first | ((with_reducible first | apply gdK_em | apply cdK_em | apply pickK_em) <;> (intro hc; have hc' := hc; (try simp at hc'); simp -implicitDefEqProofs [hc, hc', e1, h1, e2, h4, hm, hm'])) | (with_reducible apply callK_pure <;> first | (simp only [eras, era, eras_map]; first | with_reducible exact ha | with_reducible exact p1 | with_reducible exact p2 | with_reducible exact p3 | simpa using ha | simpa using p1 | simpa using p2 | simpa using p3) | (simp -implicitDefEqProofs [e1, h1, e2, h4, hm, hm'])))
    · have c2' : (f == 0) = false := by simpa using c2
      have c2'' : (f != 0) = true := by simpa using c2
      subst c1
      (refine Pure.of_code mix Tryd.call9 k_9 (by simp) (fun hB => ?_); (try simp at hB); (try simp -implicitDefEqProofs [c_tallystonelaw32_SyntaxParts_9]))
      ((try simp at ha); (try simp at p1); (try simp at p2); (try simp at p3); (try simp -implicitDefEqProofs [e1, h1, c2, c2', c2'', hm, hm']); repeat' first | ((with_reducible first | apply gdK_em | apply cdK_em | apply pickK_em) <;> (intro hc; have hc' := hc; (try simp at hc'); simp -implicitDefEqProofs [hc, hc', e1, h1, c2, c2', c2'', hm, hm'])) | (with_reducible apply callK_pure <;> first | (simp only [eras, era, eras_map]; first | with_reducible exact ha | with_reducible exact p1 | with_reducible exact p2 | with_reducible exact p3 | simpa using ha | simpa using p1 | simpa using p2 | simpa using p3) | (simp -implicitDefEqProofs [e1, h1, c2, c2', c2'', hm, hm'])))
  · have c1' : (e == 0) = false := by simpa using c1
    have c1'' : (e != 0) = true := by simpa using c1
    (refine Pure.of_code mix Tryd.call9 k_9 (by simp) (fun hB => ?_); (try simp at hB); (try simp -implicitDefEqProofs [c_tallystonelaw32_SyntaxParts_9]))
    ((try simp at ha); (try simp at p1); (try simp at p2); (try simp at p3); (try simp -implicitDefEqProofs [e1, h1, c1, c1', c1'', hm, hm']); repeat' first | ((with_reducible first | apply gdK_em | apply cdK_em | apply pickK_em) <;> (intro hc; have hc' := hc; (try simp at hc'); simp -implicitDefEqProofs [hc, hc', e1, h1, c1, c1', c1'', hm, hm'])) | (with_reducible apply callK_pure <;> first | (simp only [eras, era, eras_map]; first | with_reducible exact ha | with_reducible exact p1 | with_reducible exact p2 | with_reducible exact p3 | simpa using ha | simpa using p1 | simpa using p2 | simpa using p3) | (simp -implicitDefEqProofs [e1, h1, c1, c1', c1'', hm, hm'])))
end Go.Proofs.YtoepkeppgfbplaaDoor
