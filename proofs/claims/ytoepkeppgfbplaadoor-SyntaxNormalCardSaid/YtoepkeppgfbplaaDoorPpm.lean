/- Chapter 32: no text of a program has fewer tokens than the printed one; sizes of what is read. -/
import Derived.Test.YtoepkeppgfbplaaDoorPlv
set_option linter.unusedSimpArgs false
set_option linter.unusedVariables false
set_option maxHeartbeats 1000000
namespace Go.Proofs.YtoepkeppgfbplaaDoor
open E

theorem bndO_assoc {α β γ : Type} (x : Option (Rd α)) (f : α → List Tok → Option (Rd β)) (g : β → List Tok → Option (Rd γ)) : bndO (bndO x f) g = bndO x fun a r => bndO (f a r) g := by
 cases x with
 | none => rfl
 | some q => cases q <;> rfl
def tks (ps : List Pc) : Nat := (tk0 ps).length
theorem tks_append (a b : List Pc) : tks (a ++ b) = tks a + tks b := by simp [tks, tk0_append]
theorem tks_stm (s : Stm) : tks (stmP s) = (if s.kind = 1 then 3 else if s.kind = 2 then 1 else 2) + tb s.ex + 1 := by
 unfold stmP
 rw [tks_append, tks_append]
 have h1 : tks (bare s.ex) = tb s.ex := rfl
 have h2 : tks [(3, [59]), (0, [10])] = 1 := rfl
 rw [h1, h2]
 split
 ·show tks _ + _ = _; rw [show tks [(0, [9]), (1, sLet), sp, (1, s.name), sp, (3, [61]), sp] = 3 from rfl]; omega
 ·split
  ·rw [show tks [(0, [9]), (1, sReq), sp] = 1 from rfl]; omega
  ·rw [show tks [(0, [9]), (1, sPost), sp, numP s.acc, sp] = 2 from rfl]; omega
theorem stm_min {n : Nat} {ts r : List Tok} {s : Stm} (h : stmO n ts = some (.ok s r)) : tks (stmP s) + r.length ≤ ts.length ∧ s.ex.cnt + r.length ≤ ts.length ∧ r.length + 1 ≤ ts.length := by
 rw [tks_stm]
 unfold stmO at h
 split at h
 ·rename_i c
  have ht := tail_len (hd_ne (by decide) c)
  obtain ⟨nm, q1, h1, h2⟩ := bndO_ok h
  obtain ⟨u, q2, h3, h4⟩ := bndO_ok h2
  obtain ⟨x, q3, h5, h6⟩ := bndO_ok h4
  obtain ⟨u2, q4, h7, h8⟩ := bndO_ok h6
  cases h8
  have w1 := name_ok h1
  have w2 := want_ok h3 (by simp)
  obtain ⟨m1, m2⟩ := par_min n _ _ _ _ h5 (by omega)
  have w3 := want_ok h7 (by simp)
  rw [tl_zero] at m1
  simp only [if_true]
  omega
 split at h
 ·rename_i c
  have ht := tail_len (hd_ne (by decide) c)
  obtain ⟨x, q3, h5, h6⟩ := bndO_ok h
  obtain ⟨u2, q4, h7, h8⟩ := bndO_ok h6
  cases h8
  obtain ⟨m1, m2⟩ := par_min n _ _ _ _ h5 (by omega)
  have w3 := want_ok h7 (by simp)
  rw [tl_zero] at m1
  simp only [show ¬ ((2 : Int) = 1) by decide, if_false, if_true]
  omega
 split at h
 ·rename_i c
  have ht := tail_len (hd_ne (by decide) c)
  obtain ⟨a, q1, h1, h2⟩ := bndO_ok h
  obtain ⟨x, q3, h5, h6⟩ := bndO_ok h2
  obtain ⟨u2, q4, h7, h8⟩ := bndO_ok h6
  cases h8
  have w1 := num_ok h1
  obtain ⟨m1, m2⟩ := par_min n _ _ _ _ h5 (by omega)
  have w3 := want_ok h7 (by simp)
  rw [tl_zero] at m1
  simp only [show ¬ ((3 : Int) = 1) by decide, show ¬ ((3 : Int) = 2) by decide, if_false]
  omega
 ·cases h
theorem stms_min {n : Nat} : ∀ {m : Nat} {acc : List Stm} {ts r : List Tok} {ss : List Stm}, stmsO n m acc ts = some (.ok ss r) → ∃ new, ss = acc ++ new ∧ tks (new.flatMap stmP) + r.length ≤ ts.length ∧ new.length + r.length ≤ ts.length ∧ ∀ s ∈ new, s.ex.cnt ≤ ts.length
 | 0, acc, ts, r, ss, h => by cases h
 | m + 1, acc, ts, r, ss, h => by
  rw [stmsO] at h
  split at h
  ·cases h
   exact ⟨[], by simp, by simp [tks, tk0], by simp, by simp⟩
  obtain ⟨s, q, h1, h2⟩ := bndO_ok h
  obtain ⟨m1, m2, m3⟩ := stm_min h1
  obtain ⟨new, e1, e2, e3, e4⟩ := stms_min h2
  refine ⟨s :: new, by rw [e1]; simp, ?_, by simp only [List.length_cons]; omega, fun y hy => ?_⟩
  ·rw [List.flatMap_cons, tks_append]; omega
  ·rcases List.mem_cons.1 hy with rfl | hy
   ·omega
   ·have := e4 y hy; omega
theorem tks_rul (r : Rul) : tks (rulP r) = tks (r.stmts.flatMap stmP) + 9 := by
 unfold rulP
 rw [tks_append, tks_append]
 have h1 : tks [(1, sRule), sp, (1, r.name), sp, (1, sEach), sp, (1, if r.pair then sPair else sEnt), sp, (3, [123]), (0, [10])] = 5 := rfl
 have h2 : tks [(0, [9]), (1, sTo), sp, numP r.to, (3, [59]), (0, [10]), (3, [125]), (0, [10])] = 4 := rfl
 rw [h1, h2]; omega
theorem rul_min {n : Nat} {ts r : List Tok} {y : Rul} (h : rulO n ts = some (.ok y r)) : tks (rulP y) + r.length ≤ ts.length ∧ (∀ s ∈ y.stmts, s.ex.cnt ≤ ts.length) ∧ y.stmts.length ≤ ts.length := by
 rw [tks_rul]
 unfold rulO rulF at h
 simp only [bndO_assoc] at h
 obtain ⟨u1, q1, h1, h⟩ := bndO_ok h
 obtain ⟨nm, q2, h2, h⟩ := bndO_ok h
 obtain ⟨u3, q3, h3, h⟩ := bndO_ok h
 obtain ⟨pr, q4, h4, h⟩ := bndO_ok h
 obtain ⟨u5, q5, h5, h⟩ := bndO_ok h
 obtain ⟨ss, q6, h6, h⟩ := bndO_ok h
 obtain ⟨u7, q7, h7, h⟩ := bndO_ok h
 obtain ⟨a, q8, h8, h⟩ := bndO_ok h
 obtain ⟨u9, q9, h9, h⟩ := bndO_ok h
 simp only [bndO] at h
 have h := h
 have w1 := want_ok h1 (by decide)
 have w2 := name_ok h2
 have w3 := want_ok h3 (by decide)
 have w4 : q4.length + 1 = q3.length := by
  unfold pairO at h4
  split at h4
  ·rename_i c; cases h4; exact tail_len (hd_ne (by decide) c)
  ·obtain ⟨u, q, g1, g2⟩ := bndO_ok h4
   cases g2
   exact (want_ok g1 (by decide)).2.1
 have w5 := want_ok h5 (by decide)
 obtain ⟨new, e1, e2, e3, e4⟩ := stms_min h6
 have w7 := want_ok h7 (by decide)
 have w8 := num_ok h8
 have w9 := want_ok h9 (by decide)
 have w10 : y = ⟨nm, pr, ss, a⟩ ∧ r.length + 1 = q9.length := by
  cases hw : wantT [125] q9 with
  | er q => simp only [wantO, hw] at h; cases h
  | ok u q =>
   have w := want_ok (congrArg some hw) (by decide)
   simp only [wantO, hw] at h
   cases h
   exact ⟨rfl, w.2.1⟩
 obtain ⟨rfl, w10⟩ := w10
 rw [List.nil_append] at e1
 subst e1
 refine ⟨by simp only []; omega, fun s hs => ?_, by simp only []; omega⟩
 have := e4 s hs
 omega
theorem prg_min {n : Nat} : ∀ {m : Nat} {acc : List Rul} {ts r : List Tok} {p : List Rul}, prgO n m acc ts = some (.ok p r) → ∃ new, p = acc ++ new ∧ tks (prgP new) ≤ ts.length ∧ new.length ≤ ts.length ∧ ∀ y ∈ new, (∀ s ∈ y.stmts, s.ex.cnt ≤ ts.length) ∧ y.stmts.length ≤ ts.length
 | 0, acc, ts, r, p, h => by cases h
 | m + 1, acc, ts, r, p, h => by
  rw [prgO] at h
  split at h
  ·cases h
   exact ⟨[], by simp, by simp [tks, tk0, prgP], by simp, by simp⟩
  obtain ⟨y, q, h1, h2⟩ := bndO_ok h
  obtain ⟨m1, m2, m3⟩ := rul_min h1
  rw [tks_rul] at m1
  obtain ⟨new, e1, e2, e3, e4⟩ := prg_min h2
  refine ⟨y :: new, by rw [e1]; simp, ?_, by simp only [List.length_cons]; omega, fun z hz => ?_⟩
  ·have : prgP (y :: new) = rulP y ++ prgP new := rfl
   rw [this, tks_append, tks_rul]; omega
  ·rcases List.mem_cons.1 hz with rfl | hz
   ·exact ⟨m2, m3⟩
   ·obtain ⟨a, b⟩ := e4 z hz
    exact ⟨fun s hs => by have := a s hs; omega, by omega⟩
theorem prgT_min {ts r : List Tok} {p : List Rul} (h : prgT ts = .ok p r) : tks (prgP p) ≤ ts.length ∧ p.length ≤ ts.length ∧ ∀ y ∈ p, (∀ s ∈ y.stmts, s.ex.cnt ≤ ts.length) ∧ y.stmts.length ≤ ts.length := by
 have h1 := prgT_spec ts
 rw [h] at h1
 obtain ⟨new, e1, e2, e3, e4⟩ := prg_min h1
 rw [List.nil_append] at e1
 subst e1
 exact ⟨e2, e3, e4⟩
theorem lex_len {p : Nat} {s : List UInt8} {l : List Tok} (h : LexR p s l) : l.length ≤ s.length ∧ ∀ t ∈ l, t.text ≠ [] ∧ t.text.length ≤ s.length := by
 induction h with
 | nil p s h => exact ⟨by simp, by simp⟩
 | cons p s q k tx z l h1 h2 h3 h4 h5 ih =>
  have hlen := congrArg List.length h2
  rw [List.length_append, List.length_drop] at hlen
  have hpos : 0 < tx.length := List.length_pos_iff.2 (tokC_ne h3)
  refine ⟨by simp only [List.length_cons]; omega, fun t ht => ?_⟩
  rcases List.mem_cons.1 ht with rfl | ht
  ·exact ⟨tokC_ne h3, by show tx.length ≤ _; omega⟩
  ·have := ih.2 t ht
   exact ⟨this.1, by omega⟩
end Go.Proofs.YtoepkeppgfbplaaDoor
