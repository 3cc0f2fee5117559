/- Chapter 31: the tokens of a text, as a relation; of two texts, one behind the other; of a text that is cut behind a token; of pieces. -/
import Derived.Test.YtoepkeppgfbplaaDoorPpx
import Derived.Test.YtoepkeppgfbplaaDoorTks
set_option linter.unusedSimpArgs false
set_option linter.unusedVariables false
set_option maxHeartbeats 1000000
namespace Go.Proofs.YtoepkeppgfbplaaDoor
open E

def tokC (k : Int) (tx : List UInt8) (c : Int) : Prop :=
 (k = 1 ∧ ltrI (headI tx) = true ∧ runR nmcI tx = tx.length ∧ nmcI c = false) ∨
 (k = 2 ∧ digI (headI tx) = true ∧ runR digI tx = tx.length ∧ digI c = false) ∨
 (k = 3 ∧ ltrI (headI tx) = false ∧ digI (headI tx) = false ∧ tx.length = 2 ∧ dblL.any (fun y => decide (tx = y)) = true) ∨
 (k = 3 ∧ ltrI (headI tx) = false ∧ digI (headI tx) = false ∧ tx.length = 1 ∧ decide (0 ≤ Lib.indexByte sglL (headI tx).toNat.toUInt8) = true ∧ ∀ d : UInt8, (d.toNat : Int) = c → dblL.any (fun y => decide (tx ++ [d] = y)) = false)
theorem runR_append {p : Int → Bool} : ∀ {s : List UInt8} {z : List UInt8}, runR p s = s.length → (z = [] ∨ p (headI z) = false) → runR p (s ++ z) = s.length
 | [], z, _, hz => by
  cases z with
  | nil => rfl
  | cons c z =>
   rcases hz with h | h
   ·cases h
   ·show runR p (c :: z) = 0
    rw [runR, if_neg]
    simp only [headI] at h
    rw [h]; simp
 | c :: s, z, h, hz => by
  rw [runR] at h
  split at h
  ·rename_i hc
   have h' : runR p s = s.length := by rw [List.length_cons] at h; omega
   rw [List.cons_append, runR, if_pos hc, runR_append h' hz, List.length_cons]; omega
  ·simp at h
theorem runR_take {p : Int → Bool} : ∀ (s : List UInt8), runR p (s.take (runR p s)) = runR p s ∧ (s.drop (runR p s) = [] ∨ p (headI (s.drop (runR p s))) = false)
 | [] => ⟨rfl, .inl rfl⟩
 | c :: s => by
  rw [runR]
  split
  ·rename_i hc
   obtain ⟨h1, h2⟩ := runR_take (p := p) s
   rw [Nat.add_comm, List.take_succ_cons, List.drop_succ_cons]
   refine ⟨?_, h2⟩
   rw [runR, if_pos hc, h1]; omega
  ·rename_i hc
   refine ⟨rfl, .inr ?_⟩
   simp only [List.drop_zero, headI]
   simpa using hc
theorem headI_app {tx : List UInt8} (h : tx ≠ []) (z : List UInt8) : headI (tx ++ z) = headI tx := by
 cases tx with
 | nil => exact absurd rfl h
 | cons c tx => rfl
theorem tokC_ne {k : Int} {tx : List UInt8} {c : Int} (h : tokC k tx c) : tx ≠ [] := by
 rintro rfl
 rcases h with ⟨_, h, _⟩ | ⟨_, h, _⟩ | ⟨_, _, _, h, _⟩ | ⟨_, _, _, h, _⟩
 ·exact absurd h (by decide)
 ·exact absurd h (by decide)
 ·cases h
 ·cases h
theorem tokC_nz {k : Int} {tx : List UInt8} {c : Int} (h : tokC k tx c) : k ≠ 0 := by
 rcases h with ⟨h, _⟩ | ⟨h, _⟩ | ⟨h, _⟩ | ⟨h, _⟩ <;> omega
theorem next_of {k : Int} {tx z : List UInt8} (h : tokC k tx (headI z)) : nextR (tx ++ z) = (k, tx.length) := by
 have hne := tokC_ne h
 have hh := headI_app hne z
 unfold nextR
 rw [hh]
 rcases h with ⟨rfl, h1, h2, h3⟩ | ⟨rfl, h1, h2, h3⟩ | ⟨rfl, h1, h2, h3, h4⟩ | ⟨rfl, h1, h2, h3, h4, h5⟩
 ·rw [if_pos h1, runR_append h2 (.inr h3)]
 ·have : ltrI (headI tx) = false := by
   unfold digI at h1; unfold ltrI
   simp only [Bool.and_eq_true, decide_eq_true_eq] at h1
   simp only [Bool.and_eq_false_iff, decide_eq_false_iff_not]; omega
  rw [if_neg (by rw [this]; simp), if_pos h1, runR_append h2 (.inr h3)]
 ·rw [if_neg (by rw [h1]; simp), if_neg (by rw [h2]; simp)]
  have e1 : decide (1 < (tx ++ z).length) = true := by simp; omega
  have e2 : (tx ++ z).take 2 = tx := by rw [← h3]; simp
  rw [e1, e2, h4, h3]; rfl
 ·rw [if_neg (by rw [h1]; simp), if_neg (by rw [h2]; simp), if_neg, if_pos h4, h3]
  cases z with
  | nil => simp [h3]
  | cons d z =>
   have := h5 d rfl
   have e2 : (tx ++ d :: z).take 2 = tx ++ [d] := by
    obtain ⟨c, rfl⟩ := len1 h3
    rfl
   rw [e2, this]; simp
theorem next_tokC {t : List UInt8} (hne : t ≠ []) {k : Int} {n : Nat} (h : nextR t = (k, n)) (hk : k ≠ 0) : tokC k (t.take n) (headI (t.drop n)) ∧ n ≤ t.length := by
 have hle := nextR_le t hne
 rw [h] at hle
 refine ⟨?_, hle⟩
 have hpos := nextR_pos t hne (by rw [h]; exact hk)
 rw [h] at hpos
 have hht : headI (t.take n) = headI t := by
  cases t with
  | nil => exact absurd rfl hne
  | cons c t => obtain ⟨m, rfl⟩ : ∃ m, n = m + 1 := ⟨n - 1, by simp at hpos; omega⟩; rfl
 have hlen : (t.take n).length = n := List.length_take_of_le hle
 have hz : ∀ p : Int → Bool, p 0 = false → (t.drop n = [] ∨ p (headI (t.drop n)) = false) → p (headI (t.drop n)) = false := fun p h0 h => by
  rcases h with h | h
  ·rw [h]; exact h0
  ·exact h
 unfold nextR at h
 unfold tokC
 rw [hht, hlen]
 split at h
 ·rename_i h1
  cases h
  obtain ⟨a, b⟩ := runR_take (p := nmcI) t
  exact .inl ⟨rfl, h1, a, hz nmcI (by decide) b⟩
 rename_i h1
 split at h
 ·rename_i h2
  cases h
  obtain ⟨a, b⟩ := runR_take (p := digI) t
  exact .inr (.inl ⟨rfl, h2, a, hz digI (by decide) b⟩)
 rename_i h2
 split at h
 ·rename_i h3
  cases h
  simp only [Bool.and_eq_true] at h3
  exact .inr (.inr (.inl ⟨rfl, by simpa using h1, by simpa using h2, rfl, h3.2⟩))
 rename_i h3
 split at h
 ·rename_i h4
  cases h
  refine .inr (.inr (.inr ⟨rfl, by simpa using h1, by simpa using h2, rfl, h4, fun d hd => ?_⟩))
  cases t with
  | nil => exact absurd rfl hne
  | cons c t =>
   cases t with
   | nil =>
    have hd0 : d = 0 := by
     have : d.toNat = 0 := by simp only [List.drop_succ_cons, List.drop_nil, headI] at hd; omega
     exact UInt8.toNat_inj.1 (by rw [this]; rfl)
    subst hd0
    rw [List.any_eq_false]
    intro y hy
    have : ∀ y ∈ dblL, ∀ c : UInt8, ¬ [c] ++ [(0 : UInt8)] = y := by
     intro y hy c he
     simp only [dblL, List.mem_cons, List.not_mem_nil, or_false] at hy
     rcases hy with rfl | rfl | rfl | rfl <;> simp at he
    simpa using this y hy c
   | cons d' t =>
    have : d = d' := by
     simp only [List.drop_succ_cons, List.drop_zero, headI] at hd
     exact UInt8.toNat_inj.1 (by omega)
    subst this
    simp only [Bool.and_eq_true, not_and, Bool.not_eq_true] at h3
    exact h3 (by simp)
 ·simp only [Prod.mk.injEq] at h
  exact absurd h.1.symm hk
theorem tokC_blank {k : Int} {tx : List UInt8} {c c' : Int} (h : tokC k tx c) (hc : c' = 10 ∨ c' = 32 ∨ c' = 9) : tokC k tx c' := by
 rcases h with ⟨h0, h1, h2, h3⟩ | ⟨h0, h1, h2, h3⟩ | h | ⟨h0, h1, h2, h3, h4, h5⟩
 ·exact .inl ⟨h0, h1, h2, by rcases hc with rfl | rfl | rfl <;> decide⟩
 ·exact .inr (.inl ⟨h0, h1, h2, by rcases hc with rfl | rfl | rfl <;> decide⟩)
 ·exact .inr (.inr (.inl h))
 ·refine .inr (.inr (.inr ⟨h0, h1, h2, h3, h4, fun d hd => ?_⟩))
  obtain ⟨x, rfl⟩ := len1 h3
  rw [List.any_eq_false]
  intro y hy
  have hd' : d.toNat = 10 ∨ d.toNat = 32 ∨ d.toNat = 9 := by omega
  have : ¬ [x] ++ [d] = y := by
   intro he
   simp only [dblL, List.mem_cons, List.not_mem_nil, or_false] at hy
   rcases hy with rfl | rfl | rfl | rfl <;> (simp at he; obtain ⟨_, rfl⟩ := he; revert hd'; decide)
  simpa using this
def badT (k : Int) (tx : List UInt8) : Prop := (k = 1 ∧ 16 < tx.length) ∨ (k = 2 ∧ (valR k tx).2 = false)
inductive LexR : Nat → List UInt8 → List Tok → Prop where
 | nil (p : Nat) (s : List UInt8) (h : skR s false = s.length) : LexR p s []
 | cons (p : Nat) (s : List UInt8) (q : Nat) (k : Int) (tx z : List UInt8) (l : List Tok) (h1 : skR s false = q) (h2 : s.drop q = tx ++ z) (h3 : tokC k tx (headI z)) (h4 : ¬ badT k tx) (h5 : LexR (p + q + tx.length) z l) : LexR p s (⟨k, tx, ((p + q : Nat) : Int)⟩ :: l)
theorem toks_lex : ∀ (f : Nat) (s : List UInt8) (p : Nat) (acc : List Tok), p ≤ s.length → s.length - p < f → ∀ l, (∃ L, toksR f s p acc = (L, l) ∧ l.2 = 0) → ∃ t, LexR p (s.drop p) t ∧ toksR f s p acc = (acc ++ t, 0, 0)
 | 0, s, p, acc, hp, hf, l, h => by omega
 | f + 1, s, p, acc, hp, hf, l, h => by
  obtain ⟨L, hL, h0⟩ := h
  have hsk := skR_le (s.drop p) false
  rw [List.length_drop] at hsk
  rw [toksR] at hL ⊢
  generalize hq : skR (s.drop p) false = q at *
  simp only [] at hL ⊢
  by_cases h1 : p + q = s.length
  ·rw [if_pos h1]
   exact ⟨[], .nil _ _ (by rw [hq, List.length_drop]; omega), by simp⟩
  rw [if_neg h1] at hL ⊢
  have hne : s.drop (p + q) ≠ [] := by intro e; have := congrArg List.length e; simp at this; omega
  generalize hkn : nextR (s.drop (p + q)) = kn at *
  obtain ⟨k, n⟩ := kn
  simp only [] at hL ⊢
  by_cases h2 : k = 0
  ·rw [if_pos h2] at hL
   simp only [Prod.mk.injEq] at hL
   rw [← hL.2] at h0
   exact absurd (show (3 : Int) = 0 from h0) (by decide)
  rw [if_neg h2] at hL ⊢
  obtain ⟨hc, hn⟩ := next_tokC hne hkn h2
  have htx : (s.take (p + q + n)).drop (p + q) = (s.drop (p + q)).take n := by rw [List.drop_take]; congr 1; omega
  rw [htx] at hL ⊢
  have hnl : ((s.drop (p + q)).take n).length = n := List.length_take_of_le hn
  by_cases h3 : (k = 1 ∧ 16 < n) ∨ (k = 2 ∧ (valR k ((s.drop (p + q)).take n)).2 = false)
  ·rw [if_pos h3] at hL
   simp only [Prod.mk.injEq] at hL
   rw [← hL.2] at h0
   exact absurd (show (6 : Int) = 0 from h0) (by decide)
  rw [if_neg h3] at hL ⊢
  have hpos := nextR_pos _ hne (by rw [hkn]; exact h2)
  rw [hkn] at hpos
  simp only [List.length_drop] at hn hpos
  obtain ⟨t, ht, he⟩ := toks_lex f s (p + q + n) (acc ++ [⟨k, (s.drop (p + q)).take n, ((p + q : Nat) : Int)⟩]) (by omega) (by omega) l ⟨L, hL, h0⟩
  refine ⟨⟨k, (s.drop (p + q)).take n, ((p + q : Nat) : Int)⟩ :: t, ?_, by rw [he]; simp⟩
  refine LexR.cons p (s.drop p) q k _ ((s.drop (p + q)).drop n) t hq (by rw [List.drop_drop, List.take_append_drop]) hc (by unfold badT; rw [hnl]; exact h3) ?_
  rw [hnl, List.drop_drop]
  exact ht
theorem lex_toks : ∀ (f : Nat) (s : List UInt8) (p : Nat) (acc t : List Tok), p ≤ s.length → s.length - p < f → LexR p (s.drop p) t → toksR f s p acc = (acc ++ t, 0, 0)
 | 0, s, p, acc, t, hp, hf, h => by omega
 | f + 1, s, p, acc, t, hp, hf, h => by
  have hsk := skR_le (s.drop p) false
  rw [toksR]
  simp only []
  generalize hs' : s.drop p = s' at *
  have hl' : s'.length = s.length - p := by rw [← hs']; simp
  cases h with
  | nil _ _ h1 =>
   rw [if_pos (by omega)]; simp
  | cons _ _ q k tx z l h1 h2 h3 h4 h5 =>
   have hne := tokC_ne h3
   have hpos : 0 < tx.length := List.length_pos_iff.2 hne
   have hlen := congrArg List.length h2
   rw [List.length_append, List.length_drop] at hlen
   have hdr : s.drop (p + q) = tx ++ z := by rw [← h2, ← hs', List.drop_drop]
   rw [h1, if_neg (by omega), hdr, next_of h3]
   simp only []
   rw [if_neg (tokC_nz h3)]
   have htx : (s.take (p + q + tx.length)).drop (p + q) = tx := by rw [List.drop_take, hdr, show p + q + tx.length - (p + q) = tx.length by omega]; simp
   rw [htx, if_neg (show ¬ ((k = 1 ∧ 16 < tx.length) ∨ (k = 2 ∧ (valR k tx).2 = false)) from h4)]
   have hz : s.drop (p + q + tx.length) = z := by rw [← List.drop_drop, hdr]; simp
   rw [lex_toks f s (p + q + tx.length) _ l (by omega) (by omega) (by rw [hz]; exact h5)]
   simp
theorem tokens_lex {s : List UInt8} (h : (tokensR s).2.2 = 0) : s.length ≤ 8000 ∧ LexR 0 s (tokensR s).1 := by
 unfold tokensR at h ⊢
 split at h
 ·exact absurd h (by decide)
 rename_i h8
 rw [if_neg h8]
 obtain ⟨t, h1, h2⟩ := toks_lex (s.length + 1) s 0 [] (by omega) (by omega) (toksR (s.length + 1) s 0 []).2 ⟨_, rfl, h⟩
 rw [h2]
 exact ⟨by omega, by simpa using h1⟩
theorem lex_tokens {s : List UInt8} {t : List Tok} (h8 : s.length ≤ 8000) (h : LexR 0 s t) : tokensR s = (t, 0, 0) := by
 unfold tokensR
 rw [if_neg (by omega), lex_toks (s.length + 1) s 0 [] t (by omega) (by omega) (by simpa using h)]
 simp

def shift (n : Nat) (t : Tok) : Tok := { t with frm := t.frm + n }
theorem plc_shift (n : Nat) : Plc (shift n) := fun t => ⟨rfl, rfl⟩
theorem lex_shift {p : Nat} {s : List UInt8} {l : List Tok} (h : LexR p s l) (d : Nat) : LexR (p + d) s (l.map (shift d)) := by
 induction h with
 | nil p s h => exact .nil _ _ h
 | cons p s q k tx z l h1 h2 h3 h4 h5 ih =>
  have e : shift d ⟨k, tx, ((p + q : Nat) : Int)⟩ = ⟨k, tx, ((p + d + q : Nat) : Int)⟩ := by unfold shift; simp only [Tok.mk.injEq, true_and]; push_cast; omega
  rw [List.map_cons, e]
  exact LexR.cons (p + d) s q k tx z (l.map (shift d)) h1 h2 h3 h4 (by rw [show p + d + q + tx.length = p + q + tx.length + d by omega]; exact ih)
theorem lex_blank {p : Nat} {w z : List UInt8} {l : List Tok} (hw : skR (w ++ z) false = w.length + skR z false) (h : LexR (p + w.length) z l) : LexR p (w ++ z) l := by
 cases h with
 | nil _ _ h => exact .nil _ _ (by rw [hw, h, List.length_append])
 | cons _ _ q k tx z' l h1 h2 h3 h4 h5 =>
  have hx := LexR.cons p (w ++ z) (w.length + q) k tx z' l (by rw [hw, h1]) (by rw [List.drop_append, List.drop_of_length_le (by omega), List.nil_append, show w.length + q - w.length = q by omega, h2]) h3 h4 (by rw [show p + (w.length + q) + tx.length = p + w.length + q + tx.length by omega]; exact h5)
  rw [show p + (w.length + q) = p + w.length + q by omega] at hx
  exact hx
theorem sk_full : ∀ (s : List UInt8) (com : Bool) (b : List UInt8), skR s com = s.length → skR (s ++ 10 :: b) com = s.length + (1 + skR b false)
 | [], com, b, _ => by simp [skR]
 | c :: s, com, b, h => by
  rw [skR] at h
  rw [List.cons_append, skR, List.length_cons]
  split at h
  ·rename_i h1; rw [if_pos h1, sk_full s false b (by rw [List.length_cons] at h; omega)]; omega
  rename_i h1; rw [if_neg h1]
  split at h
  ·rename_i h2; rw [if_pos h2, sk_full s com b (by rw [List.length_cons] at h; omega)]; omega
  rename_i h2; rw [if_neg h2]
  split at h
  ·rename_i h3; rw [if_pos h3, sk_full s true b (by rw [List.length_cons] at h; omega)]; omega
  ·simp at h
theorem sk_stop : ∀ (w : List UInt8) (c : UInt8) (z z' : List UInt8) (com : Bool), skR (w ++ c :: z) com = w.length → skR (w ++ c :: z') com = w.length
 | [], c, z, z', com, h => by
  rw [List.nil_append, skR] at h ⊢
  split at h
  ·simp at h
  rename_i h1; rw [if_neg h1]
  split at h
  ·simp at h
  rename_i h2; rw [if_neg h2]
  split at h
  ·simp at h
  rename_i h3; rw [if_neg h3]; rfl
 | d :: w, c, z, z', com, h => by
  rw [List.cons_append, skR] at h ⊢
  rw [List.length_cons] at h ⊢
  split at h
  ·rename_i h1; rw [if_pos h1, sk_stop w c z z' false (by omega)]; omega
  rename_i h1; rw [if_neg h1]
  split at h
  ·rename_i h2; rw [if_pos h2, sk_stop w c z z' com (by omega)]; omega
  rename_i h2; rw [if_neg h2]
  split at h
  ·rename_i h3; rw [if_pos h3, sk_stop w c z z' true (by omega)]; omega
  ·simp at h
theorem sk_tok {s tx z : List UInt8} {q : Nat} (h1 : skR s false = q) (h2 : s.drop q = tx ++ z) (hne : tx ≠ []) (z' : List UInt8) : skR (s.take q ++ (tx ++ z')) false = q ∧ (s.take q).length = q := by
 have hq : q ≤ s.length := by rw [← h1]; exact skR_le _ _
 have hl : (s.take q).length = q := List.length_take_of_le hq
 refine ⟨?_, hl⟩
 cases tx with
 | nil => exact absurd rfl hne
 | cons c tx =>
  have e : s = s.take q ++ c :: (tx ++ z) := by rw [← List.cons_append, ← h2, List.take_append_drop]
  have := sk_stop (s.take q) c (tx ++ z) (tx ++ z') false (by rw [← e, h1, hl])
  rw [hl] at this
  exact this
theorem lex_parts {p : Nat} {a : List UInt8} {la : List Tok} (h : LexR p a la) {b : List UInt8} {lb : List Tok} (hb : LexR 0 b lb) : LexR p (a ++ 10 :: b) (la ++ lb.map (shift (p + a.length + 1))) := by
 induction h with
 | nil p s h =>
  have h1 : LexR (0 + (p + s.length + 1)) b (lb.map (shift (p + s.length + 1))) := lex_shift hb _
  have e : s ++ 10 :: b = (s ++ [10]) ++ b := by simp
  rw [List.nil_append, e]
  refine lex_blank ?_ ?_
  ·rw [List.append_assoc, List.singleton_append, sk_full s false b h]; simp; omega
  ·have e3 : p + (s ++ [(10 : UInt8)]).length = 0 + (p + s.length + 1) := by rw [List.length_append, List.length_singleton]; omega
   rw [e3]; exact h1
 | cons p s q k tx z l h1 h2 h3 h4 h5 ih =>
  obtain ⟨e1, e2⟩ := sk_tok h1 h2 (tokC_ne h3) (z ++ 10 :: b)
  have hs : s ++ 10 :: b = s.take q ++ (tx ++ (z ++ 10 :: b)) := by
   conv => lhs; rw [← List.take_append_drop q s, h2]
   simp
  have hlen : p + q + tx.length + z.length + 1 = p + s.length + 1 := by
   have := congrArg List.length h2
   rw [List.length_append, List.length_drop] at this
   have hq : q ≤ s.length := by rw [← h1]; exact skR_le _ _
   omega
  rw [hlen] at ih
  rw [List.cons_append, hs]
  refine LexR.cons p _ q k tx (z ++ 10 :: b) _ e1 ?_ ?_ h4 ih
  ·rw [List.drop_append, List.drop_of_length_le (by omega), List.nil_append, e2, Nat.sub_self, List.drop_zero]
  ·cases z with
   | nil => exact tokC_blank h3 (.inl rfl)
   | cons c z => exact h3
theorem lex_cut {p : Nat} {s : List UInt8} {l : List Tok} (h : LexR p s l) {more : List UInt8} {lm : List Tok} (hm : LexR 0 more lm) : ∀ l1 t l2, l = l1 ++ t :: l2 → ∃ m : Nat, t.frm = ((p + m : Nat) : Int) ∧ m + t.text.length ≤ s.length ∧ LexR p (s.take (m + t.text.length) ++ 32 :: more) (l1 ++ t :: lm.map (shift (p + m + t.text.length + 1))) := by
 induction h with
 | nil p s h => intro l1 t l2 e; cases l1 <;> cases e
 | cons p s q k tx z l h1 h2 h3 h4 h5 ih =>
  intro l1 t l2 e
  have hq : q ≤ s.length := by rw [← h1]; exact skR_le _ _
  have hlen := congrArg List.length h2
  rw [List.length_append, List.length_drop] at hlen
  have hs : s = s.take q ++ (tx ++ z) := by rw [← h2, List.take_append_drop]
  have hl : (s.take q).length = q := List.length_take_of_le hq
  cases l1 with
  | nil =>
   rw [List.nil_append] at e
   cases e
   refine ⟨q, by first | rfl | (push_cast; rfl), by show q + tx.length ≤ _; omega, ?_⟩
   obtain ⟨e1, e2⟩ := sk_tok h1 h2 (tokC_ne h3) (32 :: more)
   have ht : s.take (q + tx.length) = s.take q ++ tx := by
    conv => lhs; rw [hs]
    rw [List.take_append, List.take_of_length_le (by omega), hl, show q + tx.length - q = tx.length by omega]; simp
   show LexR p (s.take (q + tx.length) ++ 32 :: more) _
   rw [ht, List.append_assoc, List.nil_append]
   refine LexR.cons p _ q k tx (32 :: more) _ e1 ?_ (tokC_blank h3 (.inr (.inl rfl))) h4 ?_
   ·rw [List.drop_append, List.drop_of_length_le (by omega), List.nil_append, e2, Nat.sub_self, List.drop_zero]
   ·have h6 : LexR (0 + (p + q + tx.length + 1)) more (lm.map (shift (p + q + tx.length + 1))) := lex_shift hm _
    rw [show 0 + (p + q + tx.length + 1) = p + q + tx.length + ([32] : List UInt8).length by rw [List.length_singleton]; omega] at h6
    exact lex_blank (w := [32]) (by simp [skR]) h6
  | cons t0 l1 =>
   rw [List.cons_append] at e
   obtain ⟨rfl, rfl⟩ := List.cons.inj e
   obtain ⟨m, f1, f2, f3⟩ := ih l1 t l2 rfl
   refine ⟨q + tx.length + m, by rw [f1]; push_cast; omega, by omega, ?_⟩
   have ht : s.take (q + tx.length + m + t.text.length) = s.take q ++ (tx ++ z.take (m + t.text.length)) := by
    conv => lhs; rw [hs]
    rw [List.take_append, List.take_of_length_le (l := s.take q) (by omega), hl, List.take_append, List.take_of_length_le (l := tx) (by omega)]
    congr 3; omega
   obtain ⟨e1, e2⟩ := sk_tok h1 h2 (tokC_ne h3) (z.take (m + t.text.length) ++ 32 :: more)
   rw [ht, List.append_assoc, List.append_assoc, List.cons_append]
   refine LexR.cons p _ q k tx (z.take (m + t.text.length) ++ 32 :: more) _ e1 ?_ ?_ h4 ?_
   ·rw [List.drop_append, List.drop_of_length_le (by omega), List.nil_append, e2, Nat.sub_self, List.drop_zero]
   ·cases hz : z.take (m + t.text.length) with
    | nil => exact tokC_blank h3 (.inr (.inl rfl))
    | cons c z' =>
     cases z with
     | nil => simp at hz
     | cons c' z'' =>
      have : c = c' := by
       have h0 := congrArg (·[0]?) hz
       simp only [List.getElem?_take, List.getElem?_cons_zero] at h0
       split at h0
       ·exact (Option.some.inj h0).symm
       ·cases h0
      subst this
      exact h3
   ·rw [show p + (q + tx.length + m) + t.text.length + 1 = p + q + tx.length + m + t.text.length + 1 by omega]
    exact f3
theorem lex_frm {p : Nat} {s : List UInt8} {l : List Tok} (h : LexR p s l) : ∀ t ∈ l, ∃ m : Nat, t.frm = ((p + m : Nat) : Int) ∧ m < s.length ∧ t.text ≠ [] := by
 induction h with
 | nil p s h => intro t ht; cases ht
 | cons p s q k tx z l h1 h2 h3 h4 h5 ih =>
  intro t ht
  have hq : q ≤ s.length := by rw [← h1]; exact skR_le _ _
  have hlen := congrArg List.length h2
  rw [List.length_append, List.length_drop] at hlen
  have hpos : 0 < tx.length := List.length_pos_iff.2 (tokC_ne h3)
  rcases List.mem_cons.1 ht with rfl | ht
  ·exact ⟨q, by first | rfl | (push_cast; rfl), by omega, tokC_ne h3⟩
  ·obtain ⟨m, a, b, c⟩ := ih t ht
   exact ⟨q + tx.length + m, by rw [a]; congr 1; omega, by omega, c⟩
theorem lex_uniq {p : Nat} {s : List UInt8} {l : List Tok} (h : LexR p s l) : l.Pairwise fun a b => a.frm < b.frm := by
 induction h with
 | nil p s h => exact List.Pairwise.nil
 | cons p s q k tx z l h1 h2 h3 h4 h5 ih =>
  refine List.Pairwise.cons (fun t ht => ?_) ih
  obtain ⟨m, a, _, _⟩ := lex_frm h5 t ht
  have hpos : 0 < tx.length := List.length_pos_iff.2 (tokC_ne h3)
  rw [a]
  show ((p + q : Nat) : Int) < _
  omega

def txt (ps : List Pc) : List UInt8 := ps.flatMap (·.2)
def pcOK (p : Pc) (c : Int) : Prop := (p.1 = 0 ∧ (p.2 = [32] ∨ p.2 = [9] ∨ p.2 = [10])) ∨ (tokC p.1 p.2 c ∧ ¬ badT p.1 p.2)
def lexOK : List Pc → Prop
 | [] => True
 | p :: ps => pcOK p (headI (txt ps)) ∧ lexOK ps
theorem sk_tok0 {k : Int} {tx z : List UInt8} (h : tokC k tx (headI z)) : skR (tx ++ z) false = 0 := by
 have hne := tokC_ne h
 cases tx with
 | nil => exact absurd rfl hne
 | cons c tx =>
  have hc : ¬ (c.toNat = 10 ∨ c.toNat = 32 ∨ c.toNat = 9 ∨ c.toNat = 13 ∨ c.toNat = 35) := by
   intro q
   have hi : ltrI (headI (c :: tx)) = false ∧ digI (headI (c :: tx)) = false ∧ decide (0 ≤ Lib.indexByte sglL (headI (c :: tx)).toNat.toUInt8) = false ∧ ∀ d, ¬ [c, d] ∈ dblL := by
    have : c = 10 ∨ c = 32 ∨ c = 9 ∨ c = 13 ∨ c = 35 := by
     rcases q with q | q | q | q | q
     ·exact .inl (UInt8.toNat_inj.1 q)
     ·exact .inr (.inl (UInt8.toNat_inj.1 q))
     ·exact .inr (.inr (.inl (UInt8.toNat_inj.1 q)))
     ·exact .inr (.inr (.inr (.inl (UInt8.toNat_inj.1 q))))
     ·exact .inr (.inr (.inr (.inr (UInt8.toNat_inj.1 q))))
    have hh : headI (c :: tx) = (c.toNat : Int) := rfl
    rw [hh]
    clear hh hne h q
    rcases this with rfl | rfl | rfl | rfl | rfl <;> exact ⟨by decide, by decide, by decide, fun d => by simp [dblL]⟩
   obtain ⟨i1, i2, i3, i4⟩ := hi
   rcases h with ⟨_, h, _⟩ | ⟨_, h, _⟩ | ⟨_, _, _, h, h'⟩ | ⟨_, _, _, _, h, _⟩
   ·rw [i1] at h; cases h
   ·rw [i2] at h; cases h
   ·obtain ⟨a, b, hab⟩ := len2 h
    rw [hab] at h'
    rw [List.any_eq_true] at h'
    obtain ⟨y, hy, hy2⟩ := h'
    have := of_decide_eq_true hy2
    subst this
    cases hab
    exact i4 b hy
   ·rw [i3] at h; cases h
  rw [List.cons_append, skR, if_neg (fun q => hc (.inl q)), if_neg, if_neg (fun q => hc (.inr (.inr (.inr (.inr q)))))]
  rintro (q | q | q | q)
  ·cases q
  ·exact hc (.inr (.inl q))
  ·exact hc (.inr (.inr (.inl q)))
  ·exact hc (.inr (.inr (.inr (.inl q))))
theorem lex_pieces : ∀ (ps : List Pc) (p : Nat), lexOK ps → ∃ l, LexR p (txt ps) l ∧ l.map strip = tk0 ps
 | [], p, _ => ⟨[], .nil _ _ rfl, rfl⟩
 | x :: ps, p, h => by
  obtain ⟨h1, h2⟩ := h
  have e : txt (x :: ps) = x.2 ++ txt ps := rfl
  rw [e]
  obtain ⟨k, tx⟩ := x
  rcases h1 with ⟨h0, hb⟩ | ⟨hc, hbad⟩
  ·simp only [] at h0 hb
   subst h0
   obtain ⟨l, l1, l2⟩ := lex_pieces ps (p + tx.length) h2
   refine ⟨l, lex_blank ?_ l1, by rw [l2]; rfl⟩
   rcases hb with rfl | rfl | rfl <;> simp [skR]
  ·simp only [] at hc hbad
   obtain ⟨l, l1, l2⟩ := lex_pieces ps (p + 0 + tx.length) h2
   refine ⟨_, LexR.cons p (tx ++ txt ps) 0 k tx (txt ps) l (sk_tok0 hc) (by simp) hc hbad l1, ?_⟩
   rw [List.map_cons, l2, tk0_cons (tokC_nz hc)]
   rfl
end Go.Proofs.YtoepkeppgfbplaaDoor
