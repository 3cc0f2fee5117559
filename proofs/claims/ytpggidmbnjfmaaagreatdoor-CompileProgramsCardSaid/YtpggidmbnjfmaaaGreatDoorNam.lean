/- Names: syntax.named, and the reference's. -/
import Derived.Test.YtpggidmbnjfmaaaGreatDoorTks
set_option linter.unusedSimpArgs false
set_option linter.unusedVariables false
set_option maxHeartbeats 2000000
set_option maxRecDepth 8000
namespace Go.Proofs.YtpggidmbnjfmaaaGreatDoor
open E

def nfB (s : List UInt8) : Bool := decide (1 ≤ s.length) && decide (s.length ≤ 16) && ltrI (headI s) && decide (runR nmcI s = s.length)
def nameB (s : List UInt8) : Bool := nfB s && !kwB s

theorem toksR_pre : ∀ (f : Nat) (s : List UInt8) (p : Nat) (acc : List Tok), (toksR f s p acc).2.2 = 0 → s.length - p < f → p ≤ s.length → ∃ l, (toksR f s p acc).1 = acc ++ l
 | 0, s, p, acc, h, hf, hp => by omega
 | f + 1, s, p, acc, h, hf, hp => by
  have hsk := skR_le (s.drop p) false
  rw [List.length_drop] at hsk
  rw [toksR] at h ⊢
  generalize hq : skR (s.drop p) false = q at *
  by_cases h1 : p + q = s.length
  ·rw [if_pos h1]; exact ⟨[], by simp⟩
  rw [if_neg h1] at h ⊢
  have hle := nextR_le (s.drop (p + q)) (by simp; omega)
  have hpos := nextR_pos (s.drop (p + q)) (by simp; omega)
  rw [List.length_drop] at hle
  generalize hkn : nextR (s.drop (p + q)) = kn at *
  simp only [] at h ⊢
  by_cases h2 : kn.1 = 0
  ·rw [if_pos h2] at h; simp at h
  rw [if_neg h2] at h ⊢
  split at h
  ·simp at h
  ·rename_i h3
   rw [if_neg h3]
   obtain ⟨l, hl⟩ := toksR_pre f s (p + q + kn.2) _ h (by have := hpos h2; omega) (by omega)
   exact ⟨_ :: l, by rw [hl, List.append_assoc]; rfl⟩

theorem drop_take_full {s : List UInt8} {p n : Nat} (h : (s.take (p + n)).drop p = s) (hs : s ≠ []) : p = 0 ∧ n ≥ s.length := by
 have hl := congrArg List.length h
 simp at hl
 have : 0 < s.length := by rcases s with _ | ⟨c, s⟩; exact absurd rfl hs; simp
 omega
theorem nextR_name {s : List UInt8} (h : (nextR s).1 = 1) : ltrI (headI s) = true ∧ (nextR s).2 = runR nmcI s := by
 unfold nextR at *
 split at h
 ·rename_i h1; rw [if_pos h1]; exact ⟨h1, rfl⟩
 rename_i h1
 split at h
 ·simp at h
 split at h
 ·simp at h
 split at h <;> simp at h
theorem sk_ltr {s : List UInt8} (h : ltrI (headI s) = true) : skR s false = 0 := by
 rcases s with _ | ⟨c, s⟩
 ·rfl
 have h' : 97 ≤ c.toNat := by
  have h1 : 97 ≤ (c.toNat : Int) := by
   unfold ltrI at h
   rw [Bool.and_eq_true] at h
   exact of_decide_eq_true h.1
  omega
 clear h
 rw [skR, if_neg (by omega), if_neg (by rintro (h | h | h | h) <;> first | (cases h; done) | omega), if_neg (by omega)]

theorem tok_name (s : List UInt8) : ((tokensR s).2.2 = 0 ∧ ∃ t, (tokensR s).1 = [t] ∧ t.kind = 1 ∧ t.text = s) ↔ nfB s = true := by
 unfold nfB
 simp only [Bool.and_eq_true, decide_eq_true_eq]
 constructor
 ·rintro ⟨h, t, ht, hk, hx⟩
  unfold tokensR at h ht
  split at h
  ·simp at h
  rename_i h8
  rw [if_neg h8] at ht
  have hsk := skR_le s false
  rw [toksR] at h ht
  simp only [List.drop_zero, Nat.zero_add] at h ht
  generalize hq : skR s false = q at *
  by_cases h1 : q = s.length
  ·rw [if_pos h1] at ht; simp at ht
  rw [if_neg h1] at h ht
  have hle := nextR_le (s.drop q) (by simp; omega)
  have hpos := nextR_pos (s.drop q) (by simp; omega)
  rw [List.length_drop] at hle
  have hname := nextR_name (s := s.drop q)
  generalize hkn : nextR (s.drop q) = kn at *
  (try simp only [] at h ht)
  by_cases h2 : kn.1 = 0
  ·rw [if_pos h2] at h; simp at h
  rw [if_neg h2] at h ht
  split at h
  ·simp at h
  ·rename_i h3
   rw [if_neg h3] at ht
   obtain ⟨l, hl⟩ := toksR_pre s.length s (q + kn.2) _ h (by have := hpos h2; omega) (by omega)
   rw [hl] at ht
   simp only [List.nil_append, List.cons_append, List.cons.injEq] at ht
   obtain ⟨rfl, _⟩ := ht
   simp only [] at hk hx
   have hs : s ≠ [] := by
    rintro rfl
    simp only [List.length_nil] at h1 hsk
    omega
   obtain ⟨rfl, hn⟩ := drop_take_full hx hs
   simp only [List.drop_zero] at hname
   obtain ⟨n1, n2⟩ := hname hk
   have hr := runR_le nmcI s
   have := hpos h2
   refine ⟨⟨⟨by omega, ?_⟩, n1⟩, by omega⟩
   ·rcases Nat.lt_or_ge 16 kn.2 with hb | hb
    ·exact absurd (.inl ⟨hk, hb⟩) h3
    ·omega
 ·rintro ⟨⟨⟨h1, h2⟩, h3⟩, h4⟩
  have hsk := sk_ltr h3
  have hnx : nextR s = (1, s.length) := by unfold nextR; rw [if_pos h3, h4]
  have hR : tokensR s = ([⟨1, s, 0⟩], 0, 0) := by
   unfold tokensR
   rw [if_neg (by omega), toksR]
   simp only [List.drop_zero, hsk, Nat.add_zero, hnx]
   rw [if_neg (by omega), if_neg (by simp), if_neg (by rintro (⟨_, h⟩ | ⟨h, _⟩) <;> first | omega | simp at h)]
   simp only [Nat.zero_add, List.take_length, List.nil_append]
   obtain ⟨m, hm⟩ : ∃ m, s.length = m + 1 := ⟨s.length - 1, by omega⟩
   rw [hm, toksR, ← hm]
   simp [skR]
  rw [hR]
  exact ⟨rfl, _, rfl, rfl, rfl⟩
theorem w_named (s : List UInt8) : Pure Tryz.prog 61 [vS s] (vB (nameB s)) := by
 have ht := w_Tokens s
 have hk := w_kw s
 have key := tok_name s
 unfold nameB
 generalize kwB s = kw at *
 generalize hR : tokensR s = R at *
 obtain ⟨L, pl, e⟩ := R
 simp only [] at ht key
 by_cases he : e = 0
 ·subst he
  rcases L with _ | ⟨t, _ | ⟨t2, L⟩⟩
  ·have hf : nfB s = false := by
    cases hn : nfB s
    ·rfl
    ·obtain ⟨_, t, h1, _⟩ := key.2 hn; cases h1
   rw [hf]
   (refine Pure.of_code mix Tryz.call61 k_61 (by simp) (fun hB => ?_); (try simp at hB); (try simp -implicitDefEqProofs [qc_61]))
   ((try simp at ht); (try simp at hk); (try simp -implicitDefEqProofs); repeat' first | (with_reducible apply callK_pure <;> first | (simp only [eras, era, eras_map]; first | with_reducible exact ht | with_reducible exact hk | simpa using ht | simpa using hk) | (simp -implicitDefEqProofs)))
  ·obtain ⟨tk, tx, tf⟩ := t
   by_cases h1 : tk = 1
   ·by_cases h2 : tx = s
    ·have hf : nfB s = true := key.1 ⟨rfl, _, rfl, h1, h2⟩
     rw [hf]
     subst h1 h2
     (refine Pure.of_code mix Tryz.call61 k_61 (by simp) (fun hB => ?_); (try simp at hB); (try simp -implicitDefEqProofs [qc_61]))
     ((try simp at ht); (try simp at hk); (try simp -implicitDefEqProofs); repeat' first | (with_reducible apply callK_pure <;> first | (simp only [eras, era, eras_map]; first | with_reducible exact ht | with_reducible exact hk | simpa using ht | simpa using hk) | (simp -implicitDefEqProofs)))
    ·have hf : nfB s = false := by
      cases hn : nfB s
      ·rfl
      ·obtain ⟨_, t, e1, _, e2⟩ := key.2 hn
       simp at e1; subst e1; exact absurd e2 h2
     rw [hf]
     have h2' : (tx == s) = false := by simpa using h2
     subst h1
     (refine Pure.of_code mix Tryz.call61 k_61 (by simp) (fun hB => ?_); (try simp at hB); (try simp -implicitDefEqProofs [qc_61]))
     ((try simp at ht); (try simp at hk); (try simp -implicitDefEqProofs [h2']); repeat' first | (with_reducible apply callK_pure <;> first | (simp only [eras, era, eras_map]; first | with_reducible exact ht | with_reducible exact hk | simpa using ht | simpa using hk) | (simp -implicitDefEqProofs [h2'])))
   ·have hf : nfB s = false := by
     cases hn : nfB s
     ·rfl
     ·obtain ⟨_, t, e1, e2, _⟩ := key.2 hn
      simp at e1; subst e1; exact absurd e2 h1
    rw [hf]
    have h1' : (tk == 1) = false := by simpa using h1
    (refine Pure.of_code mix Tryz.call61 k_61 (by simp) (fun hB => ?_); (try simp at hB); (try simp -implicitDefEqProofs [qc_61]))
    ((try simp at ht); (try simp at hk); (try simp -implicitDefEqProofs [h1']); repeat' first | (with_reducible apply callK_pure <;> first | (simp only [eras, era, eras_map]; first | with_reducible exact ht | with_reducible exact hk | simpa using ht | simpa using hk) | (simp -implicitDefEqProofs [h1'])))
  ·have hf : nfB s = false := by
    cases hn : nfB s
    ·rfl
    ·obtain ⟨_, t, h1, _⟩ := key.2 hn; cases h1
   rw [hf]
   have hl : ((L.length : Int) + 1 + 1 == 1) = false := by simp; omega
   (refine Pure.of_code mix Tryz.call61 k_61 (by simp) (fun hB => ?_); (try simp at hB); (try simp -implicitDefEqProofs [qc_61]))
   ((try simp at ht); (try simp at hk); (try simp -implicitDefEqProofs [hl]); repeat' first | (with_reducible apply callK_pure <;> first | (simp only [eras, era, eras_map]; first | with_reducible exact ht | with_reducible exact hk | simpa using ht | simpa using hk) | (simp -implicitDefEqProofs [hl])))
 ·have hf : nfB s = false := by
   cases hn : nfB s
   ·rfl
   ·exact absurd (key.2 hn).1 he
  rw [hf]
  have he' : (e == 0) = false := by simpa using he
  (refine Pure.of_code mix Tryz.call61 k_61 (by simp) (fun hB => ?_); (try simp at hB); (try simp -implicitDefEqProofs [qc_61]))
  ((try simp at ht); (try simp at hk); (try simp -implicitDefEqProofs [he']); repeat' first | (with_reducible apply callK_pure <;> first | (simp only [eras, era, eras_map]; first | with_reducible exact ht | with_reducible exact hk | simpa using ht | simpa using hk) | (simp -implicitDefEqProofs [he'])))
end Go.Proofs.YtpggidmbnjfmaaaGreatDoor
