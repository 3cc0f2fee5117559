/- Chapter 32: pieces of printed texts, shapes of expressions, tokens of texts, what Print prints, no text has fewer tokens. -/
import Derived.Test.YtpggidmbnjfmaaaGreatDoorPpl
import Derived.Lib.ItoaNum
import Derived.Test.YtpggidmbnjfmaaaGreatDoorTks
section
set_option linter.unusedSimpArgs false
set_option linter.unusedVariables false
set_option maxHeartbeats 1000000
namespace Go.Proofs.YtpggidmbnjfmaaaGreatDoor
open E

abbrev Pc := Int × List UInt8
def lvl (k : Int) : Nat := if k = 13 then 1 else if k = 12 then 2 else if k = 6 then 3 else if 14 ≤ k ∧ k ≤ 19 then 4 else if k = 7 ∨ k = 8 then 5 else if k = 9 ∨ k = 20 then 6 else if k = 3 then 7 else 8
def opX (k : Int) : List UInt8 := if k = 7 then [43] else if k = 8 then [45] else if k = 9 then [42] else if k = 12 then sAnd else if k = 13 then sOr else if k = 14 then [60] else if k = 15 then [60, 61] else if k = 16 then [61] else if k = 17 then [33, 61] else if k = 18 then [62, 61] else [62]
def sp : Pc := (0, [32])
def opc (k : Int) : Pc := (if k = 12 ∨ k = 13 then 1 else 3, opX k)
def numP (v : Int) : Pc := (2, Lib.itoa v)
def lp : Pc := (3, [40])
def rp : Pc := (3, [41])
def wrapP (lv least : Nat) (b : List Pc) : List Pc := if lv < least then lp :: (b ++ [rp]) else b
def argA (l : Nat) : List (Int × List Pc) → List Pc
 | b :: _ => wrapP (lvl b.1) l b.2
 | [] => []
def argB (l : Nat) : List (Int × List Pc) → List Pc
 | _ :: b :: _ => wrapP (lvl b.1) l b.2
 | _ => []
def glue (k v f t : Int) (n : List UInt8) (bs : List (Int × List Pc)) : List Pc :=
 if k = 1 then [numP v] else if k = 2 then [(1, n)] else if k = 3 then (3, [45]) :: argA 7 bs else if k = 6 then (1, sNot) :: sp :: argA 3 bs else
 if k = 20 then argA 6 bs ++ [sp, (1, sPer), sp, numP v] else if k = 4 ∨ k = 5 then (1, if k = 5 then sShare else sAbs) :: lp :: (argA 0 bs ++ [rp]) else
 if k = 10 ∨ k = 11 then (1, if k = 11 then sMax else sMin) :: lp :: (argA 0 bs ++ (3, [44]) :: sp :: (argB 0 bs ++ [rp])) else
 if k = 21 ∨ k = 22 then [(1, if k = 22 then sPart else sBal), lp, numP f, (3, [46, 46]), numP t, rp] else
 argA (if lvl k = 4 then 5 else lvl k) bs ++ sp :: opc k :: sp :: argB (lvl k + 1) bs
mutual
def bare : Xp → List Pc
 | .mk k v f t n xs => glue k v f t n (bares xs)
def bares : List Xp → List (Int × List Pc)
 | [] => []
 | x :: xs => (x.kind, bare x) :: bares xs
end
def pcs (x : Xp) (l : Nat) : List Pc := wrapP (lvl x.kind) l (bare x)
theorem wrap_le {lv l : Nat} {b : List Pc} (h : l ≤ lv) : wrapP lv l b = b := if_neg (by omega)
theorem pcs0 (x : Xp) : pcs x 0 = bare x := wrap_le (by omega)
def tk0 (ps : List Pc) : List Tok := (ps.filter fun p => p.1 != 0).map fun p => ⟨p.1, p.2, 0⟩
theorem tk0_append (a b : List Pc) : tk0 (a ++ b) = tk0 a ++ tk0 b := by simp [tk0]
theorem tk0_cons {p : Pc} (h : p.1 ≠ 0) (b : List Pc) : tk0 (p :: b) = ⟨p.1, p.2, 0⟩ :: tk0 b := by simp [tk0, h]
theorem tk0_sp (b : List Pc) : tk0 (sp :: b) = tk0 b := by simp [tk0, sp]
theorem tk0_nil : tk0 [] = [] := rfl

def tl (x : Xp) (l : Nat) : Nat := (tk0 (pcs x l)).length
def tb (x : Xp) : Nat := (tk0 (bare x)).length
theorem tl_eq (x : Xp) (l : Nat) : tl x l = if lvl x.kind < l then tb x + 2 else tb x := by
 unfold tl tb pcs wrapP
 split
 ·rw [tk0_cons (by simp [lp]), tk0_append, tk0_cons (by simp [rp])]; simp [tk0_nil]
 ·rfl
theorem tl_mono (x : Xp) {l l' : Nat} (h : l ≤ l') : tl x l ≤ tl x l' := by rw [tl_eq, tl_eq]; split <;> split <;> omega
theorem tl_two (x : Xp) (l : Nat) : tl x l ≤ tb x + 2 := by rw [tl_eq]; split <;> omega
theorem tl_le {x : Xp} {l : Nat} (h : l ≤ lvl x.kind) : tl x l = tb x := by rw [tl_eq, if_neg (by omega)]
theorem tl_zero (x : Xp) : tl x 0 = tb x := tl_le (by omega)
theorem op_nz (k : Int) : (opc k).1 ≠ 0 := by unfold opc; simp only []; split <;> simp
theorem tb_bin {k : Int} (h : k = 7 ∨ k = 8 ∨ k = 9 ∨ (12 ≤ k ∧ k ≤ 19)) (a b : Xp) : bare (two k a b) = pcs a (if lvl k = 4 then 5 else lvl k) ++ sp :: opc k :: sp :: pcs b (lvl k + 1) := by
 show glue k 0 0 0 [] [(a.kind, bare a), (b.kind, bare b)] = _
 unfold glue
 rw [if_neg (by omega), if_neg (by omega), if_neg (by omega), if_neg (by omega), if_neg (by omega), if_neg (by omega), if_neg (by omega), if_neg (by omega)]
 rfl
theorem tb_bin' {k : Int} (h : k = 7 ∨ k = 8 ∨ k = 9 ∨ (12 ≤ k ∧ k ≤ 19)) (a b : Xp) : tb (two k a b) = tl a (if lvl k = 4 then 5 else lvl k) + 1 + tl b (lvl k + 1) := by
 unfold tb
 rw [tb_bin h, tk0_append, tk0_sp, tk0_cons (op_nz k), tk0_sp]
 simp only [tl, List.length_append, List.length_cons]; omega
theorem tb_per (v : Int) (a : Xp) : tb (perX v a) = tl a 6 + 2 := by
 unfold tb
 have : bare (perX v a) = pcs a 6 ++ [sp, (1, sPer), sp, numP v] := rfl
 rw [this, tk0_append]
 simp [tl, tk0, sp, numP]
theorem tb_neg (a : Xp) : tb (one 3 a) = tl a 7 + 1 := by
 unfold tb
 have : bare (one 3 a) = (3, [45]) :: pcs a 7 := rfl
 rw [this, tk0_cons (by simp)]; rfl
theorem tb_not (a : Xp) : tb (one 6 a) = tl a 3 + 1 := by
 unfold tb
 have : bare (one 6 a) = (1, sNot) :: sp :: pcs a 3 := rfl
 rw [this, tk0_cons (by simp), tk0_sp]; rfl
theorem bare_f1 {k : Int} (h : k = 4 ∨ k = 5) (a : Xp) : bare (one k a) = (1, if k = 5 then sShare else sAbs) :: lp :: (bare a ++ [rp]) := by
 rw [← pcs0 a]
 rcases h with rfl | rfl <;> rfl
theorem bare_f2 {k : Int} (h : k = 10 ∨ k = 11) (a b : Xp) : bare (two k a b) = (1, if k = 11 then sMax else sMin) :: lp :: (bare a ++ (3, [44]) :: sp :: (bare b ++ [rp])) := by
 rw [← pcs0 a, ← pcs0 b]
 rcases h with rfl | rfl <;> rfl
theorem tb_f1 {k : Int} (h : k = 4 ∨ k = 5) (a : Xp) : tb (one k a) = tb a + 3 := by
 unfold tb
 rw [bare_f1 h, tk0_cons (by simp), tk0_cons (by simp [lp]), tk0_append, tk0_cons (by simp [rp])]
 simp [tk0_nil]
theorem tb_f2 {k : Int} (h : k = 10 ∨ k = 11) (a b : Xp) : tb (two k a b) = tb a + tb b + 4 := by
 unfold tb
 rw [bare_f2 h, tk0_cons (by simp), tk0_cons (by simp [lp]), tk0_append, tk0_cons (by simp), tk0_sp, tk0_append, tk0_cons (by simp [rp])]
 simp [tk0_nil]; omega
theorem tb_bal {k : Int} (h : k = 21 ∨ k = 22) (f t : Int) : tb (.mk k 0 f t [] []) = 6 := by
 rcases h with rfl | rfl <;> rfl
theorem lvl_opT {k : Nat} {s : List UInt8} {o : Int} (h : opT k s = some o) : lvl o = k ∧ (o = 7 ∨ o = 8 ∨ o = 9 ∨ (12 ≤ o ∧ o ≤ 19)) ∧ opX o = s := by
 unfold opT at h
 split at h
 ·split at h <;> cases h
  rename_i e; subst e; exact ⟨rfl, by simp, rfl⟩
 ·split at h <;> cases h
  rename_i e; subst e; exact ⟨rfl, by simp, rfl⟩
 ·(repeat' split at h) <;> first | (cases h; rename_i e; subst e; exact ⟨rfl, by simp, rfl⟩) | cases h
 ·(repeat' split at h) <;> first | (cases h; rename_i e; subst e; exact ⟨rfl, by simp, rfl⟩) | cases h
 ·split at h <;> cases h
  rename_i e; subst e; exact ⟨rfl, by simp, rfl⟩
 ·cases h
theorem cnt_one (k : Int) (a : Xp) : (one k a).cnt = 1 + a.cnt := by simp [one, Xp.cnt, Xp.cnts]
theorem cnt_two (k : Int) (a b : Xp) : (two k a b).cnt = 1 + a.cnt + b.cnt := by simp [two, Xp.cnt, Xp.cnts]; omega
theorem cnt_per (v : Int) (a : Xp) : (perX v a).cnt = 1 + a.cnt := by simp [perX, Xp.cnt, Xp.cnts]
def Min (j : Job) (ts : List Tok) (x : Xp) (r : List Tok) : Prop := match j with
 | .lev k => k ≤ 8 → tl x k + r.length ≤ ts.length ∧ x.cnt + r.length ≤ ts.length
 | .prm => tl x 8 + r.length ≤ ts.length ∧ x.cnt + r.length ≤ ts.length
 | .lp k x0 => k ≠ 4 → k ≤ 6 → tl x k + r.length ≤ ts.length + tl x0 k ∧ x.cnt + r.length ≤ ts.length + x0.cnt
theorem bndO_ok {α β : Type} {f : Option (Rd α)} {g : α → List Tok → Option (Rd β)} {y : β} {r : List Tok} (h : bndO f g = some (.ok y r)) : ∃ x q, f = some (.ok x q) ∧ g x q = some (.ok y r) := by
 cases f with
 | none => cases h
 | some q =>
  cases q with
  | ok x q => exact ⟨x, q, rfl, h⟩
  | er q => cases h
theorem want_ok {s : List UInt8} {ts r : List Tok} {u : Unit} (h : (some (wantT s ts) : Option (Rd Unit)) = some (.ok u r)) (hs : s ≠ []) : r = ts.tail ∧ r.length + 1 = ts.length ∧ hdT ts = s := by
 have h := Option.some.inj h
 unfold wantT at h
 split at h
 ·rename_i c
  cases h
  have := hd_ne hs c
  refine ⟨rfl, ?_, c⟩
  cases ts with
  | nil => exact absurd rfl this
  | cons t r => rfl
 ·cases h
theorem num_ok {a b v : Int} {ts r : List Tok} (h : (some (numT a b ts) : Option (Rd Int)) = some (.ok v r)) : r.length + 1 = ts.length ∧ a ≤ v ∧ v ≤ b := by
 have h := Option.some.inj h
 cases ts with
 | nil => cases h
 | cons t ts =>
  rw [numT] at h
  split at h
  ·rename_i c; cases h; exact ⟨rfl, c.2.1, c.2.2⟩
  ·cases h
theorem name_ok {v : List UInt8} {ts r : List Tok} (h : (some (nameT ts) : Option (Rd (List UInt8))) = some (.ok v r)) : r.length + 1 = ts.length := by
 have h := Option.some.inj h
 cases ts with
 | nil => cases h
 | cons t ts =>
  rw [nameT] at h
  split at h
  ·cases h; rfl
  ·cases h
theorem tail_len {ts : List Tok} (h : ts ≠ []) : ts.tail.length + 1 = ts.length := by cases ts with | nil => exact absurd rfl h | cons t r => rfl
theorem par_min : ∀ (n : Nat) (j : Job) (ts : List Tok) (x : Xp) (r : List Tok), par n j ts = some (.ok x r) → Min j ts x r
 | 0, j, ts, x, r, h => by cases h
 | n + 1, .lev k, ts, x, r, h => by
  intro hk8
  rw [par] at h
  split at h
  ·rename_i c
   obtain ⟨y, q, h1, h2⟩ := bndO_ok h
   obtain ⟨a1, a2⟩ := par_min n _ _ _ _ h1 (by omega)
   obtain ⟨b1, b2⟩ := par_min n _ _ _ _ h2 (by omega) (by omega)
   have := tl_mono y (show 1 ≤ 2 by omega)
   have := tl_mono x c
   omega
  split at h
  ·rename_i c
   obtain ⟨y, q, h1, h2⟩ := bndO_ok h
   obtain ⟨a1, a2⟩ := par_min n _ _ _ _ h1 (by omega)
   obtain ⟨b1, b2⟩ := par_min n _ _ _ _ h2 (by omega) (by omega)
   have := tl_mono y (show k ≤ k + 1 by omega)
   omega
  split at h
  ·rename_i c
   split at h
   ·rename_i c2
    obtain ⟨y, q, h1, h2⟩ := bndO_ok h
    cases h2
    obtain ⟨a1, a2⟩ := par_min n _ _ _ _ h1 (by omega)
    have := tail_len (hd_ne (by decide) c2)
    rw [cnt_one, tl_le (by rw [c]; exact Nat.le_refl 3), tb_not]
    omega
   ·obtain ⟨a1, a2⟩ := par_min n _ _ _ _ h (by omega)
    have := tl_mono x (show k ≤ 4 by omega)
    omega
  split at h
  ·rename_i c
   obtain ⟨y, q, h1, h2⟩ := bndO_ok h
   obtain ⟨a1, a2⟩ := par_min n _ _ _ _ h1 (by omega)
   cases ho : opT 4 (hdT q) with
   | none =>
    rw [ho] at h2
    cases h2
    have := tl_mono x (show k ≤ 5 by omega)
    omega
   | some o =>
    rw [ho] at h2
    obtain ⟨z, q2, h3, h4⟩ := bndO_ok h2
    cases h4
    obtain ⟨b1, b2⟩ := par_min n _ _ _ _ h3 (by omega)
    have := tail_len (opT_ne ho)
    obtain ⟨e1, e2, _⟩ := lvl_opT ho
    rw [cnt_two, tl_le (by show k ≤ lvl o; omega), tb_bin' e2, e1, if_pos rfl]
    simp only [Nat.reduceAdd]
    omega
  split at h
  ·rename_i c
   obtain ⟨y, q, h1, h2⟩ := bndO_ok h
   cases h2
   obtain ⟨a1, a2⟩ := par_min n _ _ _ _ h1 (by omega)
   have := tail_len (hd_ne (by decide) c.2)
   rw [cnt_one, tl_le (by rw [c.1]; exact Nat.le_refl 7), tb_neg]
   omega
  ·obtain ⟨a1, a2⟩ := par_min n _ _ _ _ h
   have := tl_mono x hk8
   omega
 | n + 1, .lp k x0, ts, x, r, h => by
  intro hk4 hk6
  rw [par] at h
  split at h
  ·rename_i c
   obtain ⟨rfl, c2⟩ := c
   have htl := tail_len (hd_ne (by decide) c2)
   cases hn : numT 1 1000000000000 ts.tail with
   | er r => rw [hn] at h; cases h
   | ok v q =>
    rw [hn] at h
    have hq := (num_ok (congrArg some hn)).1
    obtain ⟨a1, a2⟩ := par_min n _ _ _ _ h (by omega) (by omega)
    rw [cnt_per, tl_le (x := perX v x0) (Nat.le_refl 6), tb_per] at *
    omega
  ·cases ho : opT k (hdT ts) with
   | none =>
    rw [ho] at h
    cases h
    exact ⟨by omega, by omega⟩
   | some o =>
    rw [ho] at h
    obtain ⟨y, q, h1, h2⟩ := bndO_ok h
    obtain ⟨a1, a2⟩ := par_min n _ _ _ _ h1 (by omega)
    obtain ⟨b1, b2⟩ := par_min n _ _ _ _ h2 hk4 hk6
    have := tail_len (opT_ne ho)
    obtain ⟨e1, e2, _⟩ := lvl_opT ho
    rw [cnt_two] at b2
    rw [tl_le (x := two o x0 y) (by show k ≤ lvl o; omega), tb_bin' e2, e1, if_neg hk4] at b1
    omega
 | n + 1, .prm, ts, x, r, h => by
  have prim : ∀ y : Xp, 8 ≤ lvl y.kind → tl y 8 = tb y := fun y hy => tl_le hy
  show tl x 8 + r.length ≤ ts.length ∧ x.cnt + r.length ≤ ts.length
  rw [par] at h
  split at h
  ·cases h
  rename_i hne
  have htl := tail_len hne
  simp only [bnd_O] at h
  split at h
  ·obtain ⟨y, q, h1, h2⟩ := bndO_ok h
   obtain ⟨u, q2, h3, h4⟩ := bndO_ok h2
   cases h4
   obtain ⟨a1, a2⟩ := par_min n _ _ _ _ h1 (by omega)
   have := want_ok h3 (by simp)
   rw [tl_zero] at a1
   have := tl_two x 8
   omega
  split at h
  ·rename_i c
   obtain ⟨u0, q0, h1, h2⟩ := bndO_ok h
   obtain ⟨a, q1, h3, h4⟩ := bndO_ok h2
   obtain ⟨u1, q2, h5, h6⟩ := bndO_ok h4
   obtain ⟨b, q3, h7, h8⟩ := bndO_ok h6
   obtain ⟨u2, q4, h9, h10⟩ := bndO_ok h8
   cases h10
   have w1 := want_ok h1 (by simp)
   obtain ⟨a1, a2⟩ := par_min n _ _ _ _ h3 (by omega)
   have w2 := want_ok h5 (by simp)
   obtain ⟨b1, b2⟩ := par_min n _ _ _ _ h7 (by omega)
   have w3 := want_ok h9 (by simp)
   rw [tl_zero] at a1 b1
   have hk : (if hdT ts = sMax then (11 : Int) else 10) = 10 ∨ (if hdT ts = sMax then (11 : Int) else 10) = 11 := by split <;> simp
   rw [prim _ (by rcases hk with hk | hk <;> (rw [show (two (if hdT ts = sMax then 11 else 10) a b).kind = (if hdT ts = sMax then 11 else 10) from rfl, hk]; exact Nat.le_refl 8)), tb_f2 hk, cnt_two]
   omega
  split at h
  ·rename_i c
   obtain ⟨u0, q0, h1, h2⟩ := bndO_ok h
   obtain ⟨a, q1, h3, h4⟩ := bndO_ok h2
   obtain ⟨u2, q4, h9, h10⟩ := bndO_ok h4
   cases h10
   have w1 := want_ok h1 (by simp)
   obtain ⟨a1, a2⟩ := par_min n _ _ _ _ h3 (by omega)
   have w3 := want_ok h9 (by simp)
   rw [tl_zero] at a1
   have hk : (if hdT ts = sShare then (5 : Int) else 4) = 4 ∨ (if hdT ts = sShare then (5 : Int) else 4) = 5 := by split <;> simp
   rw [prim _ (by rcases hk with hk | hk <;> (rw [show (one (if hdT ts = sShare then 5 else 4) a).kind = (if hdT ts = sShare then 5 else 4) from rfl, hk]; exact Nat.le_refl 8)), tb_f1 hk, cnt_one]
   omega
  split at h
  ·rename_i c
   obtain ⟨u0, q0, h1, h2⟩ := bndO_ok h
   obtain ⟨f, q1, h3, h4⟩ := bndO_ok h2
   obtain ⟨u1, q2, h5, h6⟩ := bndO_ok h4
   obtain ⟨t, q3, h7, h8⟩ := bndO_ok h6
   obtain ⟨u2, q4, h9, h10⟩ := bndO_ok h8
   cases h10
   have w1 := want_ok h1 (by simp)
   have w2 := num_ok h3
   have w3 := want_ok h5 (by simp)
   have w4 := num_ok h7
   have w5 := want_ok h9 (by simp)
   have hk : (if hdT ts = sPart then (22 : Int) else 21) = 21 ∨ (if hdT ts = sPart then (22 : Int) else 21) = 22 := by split <;> simp
   rw [prim _ (by rcases hk with hk | hk <;> (rw [show (Xp.mk (if hdT ts = sPart then 22 else 21) 0 f t [] []).kind = (if hdT ts = sPart then 22 else 21) from rfl, hk]; exact Nat.le_refl 8)), tb_bal hk, Xp.cnt, Xp.cnts]
   omega
  split at h
  ·obtain ⟨v, q, h1, h2⟩ := bndO_ok h
   cases h2
   have := num_ok h1
   rw [prim (.mk 1 v 0 0 [] []) (Nat.le_refl 8), show tb (.mk 1 v 0 0 [] []) = 1 from rfl, Xp.cnt, Xp.cnts]
   omega
  ·obtain ⟨v, q, h1, h2⟩ := bndO_ok h
   cases h2
   have := name_ok h1
   rw [prim (.mk 2 0 0 0 v []) (Nat.le_refl 8), show tb (.mk 2 0 0 0 v []) = 1 from rfl, Xp.cnt, Xp.cnts]
   omega
end Go.Proofs.YtpggidmbnjfmaaaGreatDoor
end
section
set_option linter.unusedSimpArgs false
set_option linter.unusedVariables false
set_option maxHeartbeats 1000000
namespace Go.Proofs.YtpggidmbnjfmaaaGreatDoor
open E

inductive Px : Xp → Prop where
 | num (v : Int) (h0 : 0 ≤ v) (h1 : v ≤ 1000000000000) : Px (.mk 1 v 0 0 [] [])
 | var (n : List UInt8) (h : nameB n = true) : Px (.mk 2 0 0 0 n [])
 | neg (a : Xp) (h : Px a) : Px (one 3 a)
 | f1 (k : Int) (hk : k = 4 ∨ k = 5) (a : Xp) (h : Px a) : Px (one k a)
 | not (a : Xp) (h : Px a) : Px (one 6 a)
 | f2 (k : Int) (hk : k = 10 ∨ k = 11) (a b : Xp) (h : Px a) (h' : Px b) : Px (two k a b)
 | bin (k : Int) (hk : k = 7 ∨ k = 8 ∨ k = 9 ∨ (12 ≤ k ∧ k ≤ 19)) (a b : Xp) (h : Px a) (h' : Px b) : Px (two k a b)
 | per (v : Int) (h0 : 1 ≤ v) (h1 : v ≤ 1000000000000) (a : Xp) (h : Px a) : Px (perX v a)
 | bal (k : Int) (hk : k = 21 ∨ k = 22) (f t : Int) (hf : 1 ≤ f ∧ f ≤ 99999) (ht : 1 ≤ t ∧ t ≤ 99999) : Px (.mk k 0 f t [] [])
theorem len1 {α : Type} {l : List α} (h : l.length = 1) : ∃ a, l = [a] := by
 match l, h with
 | [a], _ => exact ⟨a, rfl⟩
theorem len2 {α : Type} {l : List α} (h : l.length = 2) : ∃ a b, l = [a, b] := by
 match l, h with
 | [a, b], _ => exact ⟨a, b, rfl⟩
theorem Px.of : ∀ x : Xp, x.prop = true → Px x := by
 refine Xp.ind fun k v f t n xs ih h => ?_
 rw [Xp.prop, Bool.and_eq_true] at h
 obtain ⟨hs, hp⟩ := h
 have hps : ∀ (l : List Xp), Xp.props l = true → ∀ a ∈ l, a.prop = true := by
  intro l
  induction l with
  | nil => intro _ a ha; cases ha
  | cons y l ihl =>
   intro h a ha
   rw [Xp.props, Bool.and_eq_true] at h
   rcases List.mem_cons.1 ha with rfl | ha
   ·exact h.1
   ·exact ihl h.2 a ha
 have hps := hps xs hp
 unfold shpB kdB at hs
 simp only [Bool.and_eq_true, decide_eq_true_eq, beq_iff_eq] at hs
 obtain ⟨⟨⟨k1, k2⟩, hl⟩, hf⟩ := hs
 unfold fldB at hf
 unfold argsI at hl
 by_cases e1 : k = 1
 ·subst e1
  simp at hl hf
  subst hl
  obtain ⟨⟨⟨⟨a, b⟩, rfl⟩, rfl⟩, rfl⟩ := hf
  exact .num v a b
 rw [if_neg e1] at hf
 by_cases e2 : k = 2
 ·subst e2
  simp at hl hf
  subst hl
  obtain ⟨⟨⟨a, rfl⟩, rfl⟩, rfl⟩ := hf
  exact .var n a
 rw [if_neg e2] at hf
 by_cases e20 : k = 20
 ·subst e20
  simp at hl hf
  obtain ⟨a, rfl⟩ := len1 (show xs.length = 1 by omega)
  obtain ⟨⟨⟨⟨h0, h1⟩, rfl⟩, rfl⟩, rfl⟩ := hf
  exact .per v h0 h1 a (ih a (by simp) (hps a (by simp)))
 rw [if_neg e20] at hf
 by_cases e21 : k = 21 ∨ k = 22
 ·rw [if_pos e21] at hf
  rw [if_neg (by omega), if_neg (by omega)] at hl
  have hx : xs = [] := List.length_eq_zero_iff.1 (by omega)
  subst hx
  simp [acB] at hf
  obtain ⟨⟨⟨a, b⟩, rfl⟩, rfl⟩ := hf
  exact .bal k e21 f t a b
 rw [if_neg e21] at hf
 simp at hf
 obtain ⟨⟨⟨rfl, rfl⟩, rfl⟩, rfl⟩ := hf
 by_cases e3 : 3 ≤ k ∧ k ≤ 6
 ·rw [if_pos (Or.inl e3)] at hl
  obtain ⟨a, rfl⟩ := len1 (show xs.length = 1 by omega)
  have ha := ih a (by simp) (hps a (by simp))
  rcases (by omega : k = 3 ∨ (k = 4 ∨ k = 5) ∨ k = 6) with rfl | hk | rfl
  ·exact .neg a ha
  ·exact .f1 k hk a ha
  ·exact .not a ha
 ·rw [if_neg (by omega), if_pos (by omega)] at hl
  obtain ⟨a, b, rfl⟩ := len2 (show xs.length = 2 by omega)
  have ha := ih a (by simp) (hps a (by simp))
  have hb := ih b (by simp) (hps b (by simp))
  by_cases e10 : k = 10 ∨ k = 11
  ·exact .f2 k e10 a b ha hb
  ·exact .bin k (by omega) a b ha hb
theorem dec_small {n : Nat} (h : n < 10) : Lib.decDigits n = [UInt8.ofNat (48 + n)] := by rw [Lib.decDigits, dif_pos h]
theorem dec_big {n : Nat} (h : ¬ n < 10) : Lib.decDigits n = Lib.decDigits (n / 10) ++ [UInt8.ofNat (48 + n % 10)] := by rw [Lib.decDigits, dif_neg h]
theorem itoa_nat {v : Int} (h : 0 ≤ v) : Lib.itoa v = Lib.decDigits v.toNat := by unfold Lib.itoa; rw [if_neg (by omega)]
end Go.Proofs.YtpggidmbnjfmaaaGreatDoor
end
section
set_option linter.unusedSimpArgs false
set_option linter.unusedVariables false
set_option maxHeartbeats 1000000
namespace Go.Proofs.YtpggidmbnjfmaaaGreatDoor
open E

def tokC (k : Int) (tx : List UInt8) (c : Int) : Prop :=
 (k = 1 ∧ ltrI (headI tx) = true ∧ runR nmcI tx = tx.length ∧ nmcI c = false) ∨
 (k = 2 ∧ digI (headI tx) = true ∧ runR digI tx = tx.length ∧ digI c = false) ∨
 (k = 3 ∧ ltrI (headI tx) = false ∧ digI (headI tx) = false ∧ tx.length = 2 ∧ dblL.any (fun y => decide (tx = y)) = true) ∨
 (k = 3 ∧ ltrI (headI tx) = false ∧ digI (headI tx) = false ∧ tx.length = 1 ∧ decide (0 ≤ Lib.indexByte sglL (headI tx).toNat.toUInt8) = true ∧ ∀ d : UInt8, (d.toNat : Int) = c → dblL.any (fun y => decide (tx ++ [d] = y)) = false)
theorem runR_take {p : Int → Bool} : ∀ (s : List UInt8), runR p (s.take (runR p s)) = runR p s ∧ (s.drop (runR p s) = [] ∨ p (headI (s.drop (runR p s))) = false)
 | [] => ⟨rfl, .inl rfl⟩
 | c :: s => by
  rw [runR]
  split
  ·rename_i hc
   obtain ⟨h1, h2⟩ := runR_take (p := p) s
   rw [Nat.add_comm, List.take_succ_cons, List.drop_succ_cons]
   refine ⟨?_, h2⟩
   rw [runR, if_pos hc, h1]; omega
  ·rename_i hc
   refine ⟨rfl, .inr ?_⟩
   simp only [List.drop_zero, headI]
   simpa using hc
theorem tokC_ne {k : Int} {tx : List UInt8} {c : Int} (h : tokC k tx c) : tx ≠ [] := by
 rintro rfl
 rcases h with ⟨_, h, _⟩ | ⟨_, h, _⟩ | ⟨_, _, _, h, _⟩ | ⟨_, _, _, h, _⟩
 ·exact absurd h (by decide)
 ·exact absurd h (by decide)
 ·cases h
 ·cases h
theorem next_tokC {t : List UInt8} (hne : t ≠ []) {k : Int} {n : Nat} (h : nextR t = (k, n)) (hk : k ≠ 0) : tokC k (t.take n) (headI (t.drop n)) ∧ n ≤ t.length := by
 have hle := nextR_le t hne
 rw [h] at hle
 refine ⟨?_, hle⟩
 have hpos := nextR_pos t hne (by rw [h]; exact hk)
 rw [h] at hpos
 have hht : headI (t.take n) = headI t := by
  cases t with
  | nil => exact absurd rfl hne
  | cons c t => obtain ⟨m, rfl⟩ : ∃ m, n = m + 1 := ⟨n - 1, by simp at hpos; omega⟩; rfl
 have hlen : (t.take n).length = n := List.length_take_of_le hle
 have hz : ∀ p : Int → Bool, p 0 = false → (t.drop n = [] ∨ p (headI (t.drop n)) = false) → p (headI (t.drop n)) = false := fun p h0 h => by
  rcases h with h | h
  ·rw [h]; exact h0
  ·exact h
 unfold nextR at h
 unfold tokC
 rw [hht, hlen]
 split at h
 ·rename_i h1
  cases h
  obtain ⟨a, b⟩ := runR_take (p := nmcI) t
  exact .inl ⟨rfl, h1, a, hz nmcI (by decide) b⟩
 rename_i h1
 split at h
 ·rename_i h2
  cases h
  obtain ⟨a, b⟩ := runR_take (p := digI) t
  exact .inr (.inl ⟨rfl, h2, a, hz digI (by decide) b⟩)
 rename_i h2
 split at h
 ·rename_i h3
  cases h
  simp only [Bool.and_eq_true] at h3
  exact .inr (.inr (.inl ⟨rfl, by simpa using h1, by simpa using h2, rfl, h3.2⟩))
 rename_i h3
 split at h
 ·rename_i h4
  cases h
  refine .inr (.inr (.inr ⟨rfl, by simpa using h1, by simpa using h2, rfl, h4, fun d hd => ?_⟩))
  cases t with
  | nil => exact absurd rfl hne
  | cons c t =>
   cases t with
   | nil =>
    have hd0 : d = 0 := by
     have : d.toNat = 0 := by simp only [List.drop_succ_cons, List.drop_nil, headI] at hd; omega
     exact UInt8.toNat_inj.1 (by rw [this]; rfl)
    subst hd0
    rw [List.any_eq_false]
    intro y hy
    have : ∀ y ∈ dblL, ∀ c : UInt8, ¬ [c] ++ [(0 : UInt8)] = y := by
     intro y hy c he
     simp only [dblL, List.mem_cons, List.not_mem_nil, or_false] at hy
     rcases hy with rfl | rfl | rfl | rfl <;> simp at he
    simpa using this y hy c
   | cons d' t =>
    have : d = d' := by
     simp only [List.drop_succ_cons, List.drop_zero, headI] at hd
     exact UInt8.toNat_inj.1 (by omega)
    subst this
    simp only [Bool.and_eq_true, not_and, Bool.not_eq_true] at h3
    exact h3 (by simp)
 ·simp only [Prod.mk.injEq] at h
  exact absurd h.1.symm hk
def badT (k : Int) (tx : List UInt8) : Prop := (k = 1 ∧ 16 < tx.length) ∨ (k = 2 ∧ (valR k tx).2 = false)
inductive LexR : Nat → List UInt8 → List Tok → Prop where
 | nil (p : Nat) (s : List UInt8) (h : skR s false = s.length) : LexR p s []
 | cons (p : Nat) (s : List UInt8) (q : Nat) (k : Int) (tx z : List UInt8) (l : List Tok) (h1 : skR s false = q) (h2 : s.drop q = tx ++ z) (h3 : tokC k tx (headI z)) (h4 : ¬ badT k tx) (h5 : LexR (p + q + tx.length) z l) : LexR p s (⟨k, tx, ((p + q : Nat) : Int)⟩ :: l)
theorem toks_lex : ∀ (f : Nat) (s : List UInt8) (p : Nat) (acc : List Tok), p ≤ s.length → s.length - p < f → ∀ l, (∃ L, toksR f s p acc = (L, l) ∧ l.2 = 0) → ∃ t, LexR p (s.drop p) t ∧ toksR f s p acc = (acc ++ t, 0, 0)
 | 0, s, p, acc, hp, hf, l, h => by omega
 | f + 1, s, p, acc, hp, hf, l, h => by
  obtain ⟨L, hL, h0⟩ := h
  have hsk := skR_le (s.drop p) false
  rw [List.length_drop] at hsk
  rw [toksR] at hL ⊢
  generalize hq : skR (s.drop p) false = q at *
  simp only [] at hL ⊢
  by_cases h1 : p + q = s.length
  ·rw [if_pos h1]
   exact ⟨[], .nil _ _ (by rw [hq, List.length_drop]; omega), by simp⟩
  rw [if_neg h1] at hL ⊢
  have hne : s.drop (p + q) ≠ [] := by intro e; have := congrArg List.length e; simp at this; omega
  generalize hkn : nextR (s.drop (p + q)) = kn at *
  obtain ⟨k, n⟩ := kn
  simp only [] at hL ⊢
  by_cases h2 : k = 0
  ·rw [if_pos h2] at hL
   simp only [Prod.mk.injEq] at hL
   rw [← hL.2] at h0
   exact absurd (show (3 : Int) = 0 from h0) (by decide)
  rw [if_neg h2] at hL ⊢
  obtain ⟨hc, hn⟩ := next_tokC hne hkn h2
  have htx : (s.take (p + q + n)).drop (p + q) = (s.drop (p + q)).take n := by rw [List.drop_take]; congr 1; omega
  rw [htx] at hL ⊢
  have hnl : ((s.drop (p + q)).take n).length = n := List.length_take_of_le hn
  by_cases h3 : (k = 1 ∧ 16 < n) ∨ (k = 2 ∧ (valR k ((s.drop (p + q)).take n)).2 = false)
  ·rw [if_pos h3] at hL
   simp only [Prod.mk.injEq] at hL
   rw [← hL.2] at h0
   exact absurd (show (6 : Int) = 0 from h0) (by decide)
  rw [if_neg h3] at hL ⊢
  have hpos := nextR_pos _ hne (by rw [hkn]; exact h2)
  rw [hkn] at hpos
  simp only [List.length_drop] at hn hpos
  obtain ⟨t, ht, he⟩ := toks_lex f s (p + q + n) (acc ++ [⟨k, (s.drop (p + q)).take n, ((p + q : Nat) : Int)⟩]) (by omega) (by omega) l ⟨L, hL, h0⟩
  refine ⟨⟨k, (s.drop (p + q)).take n, ((p + q : Nat) : Int)⟩ :: t, ?_, by rw [he]; simp⟩
  refine LexR.cons p (s.drop p) q k _ ((s.drop (p + q)).drop n) t hq (by rw [List.drop_drop, List.take_append_drop]) hc (by unfold badT; rw [hnl]; exact h3) ?_
  rw [hnl, List.drop_drop]
  exact ht
theorem tokens_lex {s : List UInt8} (h : (tokensR s).2.2 = 0) : s.length ≤ 8000 ∧ LexR 0 s (tokensR s).1 := by
 unfold tokensR at h ⊢
 split at h
 ·exact absurd h (by decide)
 rename_i h8
 rw [if_neg h8]
 obtain ⟨t, h1, h2⟩ := toks_lex (s.length + 1) s 0 [] (by omega) (by omega) (toksR (s.length + 1) s 0 []).2 ⟨_, rfl, h⟩
 rw [h2]
 exact ⟨by omega, by simpa using h1⟩
def txt (ps : List Pc) : List UInt8 := ps.flatMap (·.2)
end Go.Proofs.YtpggidmbnjfmaaaGreatDoor
end
section
set_option linter.unusedSimpArgs false
set_option linter.unusedVariables false
set_option maxHeartbeats 1000000
namespace Go.Proofs.YtpggidmbnjfmaaaGreatDoor
open E

def stmP (s : Stm) : List Pc :=
 (if s.kind = 1 then [(0, [9]), (1, sLet), sp, (1, s.name), sp, (3, [61]), sp] else if s.kind = 2 then [(0, [9]), (1, sReq), sp] else [(0, [9]), (1, sPost), sp, numP s.acc, sp]) ++ (bare s.ex ++ [(3, [59]), (0, [10])])
def rulP (r : Rul) : List Pc :=
 [(1, sRule), sp, (1, r.name), sp, (1, sEach), sp, (1, if r.pair then sPair else sEnt), sp, (3, [123]), (0, [10])] ++ (r.stmts.flatMap stmP ++ [(0, [9]), (1, sTo), sp, numP r.to, (3, [59]), (0, [10]), (3, [125]), (0, [10])])
def prgP (p : List Rul) : List Pc := p.flatMap rulP
def printR (p : List Rul) : List UInt8 × Int := if prgB p = true then (if 8000 < (txt (prgP p)).length then ([], 6) else (txt (prgP p), 0)) else ([], 1)

theorem txt_append (a b : List Pc) : txt (a ++ b) = txt a ++ txt b := by simp [txt]
theorem txt_cons (p : Pc) (b : List Pc) : txt (p :: b) = p.2 ++ txt b := rfl
end Go.Proofs.YtpggidmbnjfmaaaGreatDoor
end
section
set_option linter.unusedSimpArgs false
set_option linter.unusedVariables false
set_option maxHeartbeats 1000000
namespace Go.Proofs.YtpggidmbnjfmaaaGreatDoor
open E

theorem bndO_assoc {α β γ : Type} (x : Option (Rd α)) (f : α → List Tok → Option (Rd β)) (g : β → List Tok → Option (Rd γ)) : bndO (bndO x f) g = bndO x fun a r => bndO (f a r) g := by
 cases x with
 | none => rfl
 | some q => cases q <;> rfl
def tks (ps : List Pc) : Nat := (tk0 ps).length
theorem tks_append (a b : List Pc) : tks (a ++ b) = tks a + tks b := by simp [tks, tk0_append]
theorem tks_stm (s : Stm) : tks (stmP s) = (if s.kind = 1 then 3 else if s.kind = 2 then 1 else 2) + tb s.ex + 1 := by
 unfold stmP
 rw [tks_append, tks_append]
 have h1 : tks (bare s.ex) = tb s.ex := rfl
 have h2 : tks [(3, [59]), (0, [10])] = 1 := rfl
 rw [h1, h2]
 split
 ·show tks _ + _ = _; rw [show tks [(0, [9]), (1, sLet), sp, (1, s.name), sp, (3, [61]), sp] = 3 from rfl]; omega
 ·split
  ·rw [show tks [(0, [9]), (1, sReq), sp] = 1 from rfl]; omega
  ·rw [show tks [(0, [9]), (1, sPost), sp, numP s.acc, sp] = 2 from rfl]; omega
theorem stm_min {n : Nat} {ts r : List Tok} {s : Stm} (h : stmO n ts = some (.ok s r)) : tks (stmP s) + r.length ≤ ts.length ∧ s.ex.cnt + r.length ≤ ts.length ∧ r.length + 1 ≤ ts.length := by
 rw [tks_stm]
 unfold stmO at h
 split at h
 ·rename_i c
  have ht := tail_len (hd_ne (by decide) c)
  obtain ⟨nm, q1, h1, h2⟩ := bndO_ok h
  obtain ⟨u, q2, h3, h4⟩ := bndO_ok h2
  obtain ⟨x, q3, h5, h6⟩ := bndO_ok h4
  obtain ⟨u2, q4, h7, h8⟩ := bndO_ok h6
  cases h8
  have w1 := name_ok h1
  have w2 := want_ok h3 (by simp)
  obtain ⟨m1, m2⟩ := par_min n _ _ _ _ h5 (by omega)
  have w3 := want_ok h7 (by simp)
  rw [tl_zero] at m1
  simp only [if_true]
  omega
 split at h
 ·rename_i c
  have ht := tail_len (hd_ne (by decide) c)
  obtain ⟨x, q3, h5, h6⟩ := bndO_ok h
  obtain ⟨u2, q4, h7, h8⟩ := bndO_ok h6
  cases h8
  obtain ⟨m1, m2⟩ := par_min n _ _ _ _ h5 (by omega)
  have w3 := want_ok h7 (by simp)
  rw [tl_zero] at m1
  simp only [show ¬ ((2 : Int) = 1) by decide, if_false, if_true]
  omega
 split at h
 ·rename_i c
  have ht := tail_len (hd_ne (by decide) c)
  obtain ⟨a, q1, h1, h2⟩ := bndO_ok h
  obtain ⟨x, q3, h5, h6⟩ := bndO_ok h2
  obtain ⟨u2, q4, h7, h8⟩ := bndO_ok h6
  cases h8
  have w1 := num_ok h1
  obtain ⟨m1, m2⟩ := par_min n _ _ _ _ h5 (by omega)
  have w3 := want_ok h7 (by simp)
  rw [tl_zero] at m1
  simp only [show ¬ ((3 : Int) = 1) by decide, show ¬ ((3 : Int) = 2) by decide, if_false]
  omega
 ·cases h
theorem stms_min {n : Nat} : ∀ {m : Nat} {acc : List Stm} {ts r : List Tok} {ss : List Stm}, stmsO n m acc ts = some (.ok ss r) → ∃ new, ss = acc ++ new ∧ tks (new.flatMap stmP) + r.length ≤ ts.length ∧ new.length + r.length ≤ ts.length ∧ ∀ s ∈ new, s.ex.cnt ≤ ts.length
 | 0, acc, ts, r, ss, h => by cases h
 | m + 1, acc, ts, r, ss, h => by
  rw [stmsO] at h
  split at h
  ·cases h
   exact ⟨[], by simp, by simp [tks, tk0], by simp, by simp⟩
  obtain ⟨s, q, h1, h2⟩ := bndO_ok h
  obtain ⟨m1, m2, m3⟩ := stm_min h1
  obtain ⟨new, e1, e2, e3, e4⟩ := stms_min h2
  refine ⟨s :: new, by rw [e1]; simp, ?_, by simp only [List.length_cons]; omega, fun y hy => ?_⟩
  ·rw [List.flatMap_cons, tks_append]; omega
  ·rcases List.mem_cons.1 hy with rfl | hy
   ·omega
   ·have := e4 y hy; omega
theorem tks_rul (r : Rul) : tks (rulP r) = tks (r.stmts.flatMap stmP) + 9 := by
 unfold rulP
 rw [tks_append, tks_append]
 have h1 : tks [(1, sRule), sp, (1, r.name), sp, (1, sEach), sp, (1, if r.pair then sPair else sEnt), sp, (3, [123]), (0, [10])] = 5 := rfl
 have h2 : tks [(0, [9]), (1, sTo), sp, numP r.to, (3, [59]), (0, [10]), (3, [125]), (0, [10])] = 4 := rfl
 rw [h1, h2]; omega
theorem rul_min {n : Nat} {ts r : List Tok} {y : Rul} (h : rulO n ts = some (.ok y r)) : tks (rulP y) + r.length ≤ ts.length ∧ (∀ s ∈ y.stmts, s.ex.cnt ≤ ts.length) ∧ y.stmts.length ≤ ts.length := by
 rw [tks_rul]
 unfold rulO rulF at h
 simp only [bndO_assoc] at h
 obtain ⟨u1, q1, h1, h⟩ := bndO_ok h
 obtain ⟨nm, q2, h2, h⟩ := bndO_ok h
 obtain ⟨u3, q3, h3, h⟩ := bndO_ok h
 obtain ⟨pr, q4, h4, h⟩ := bndO_ok h
 obtain ⟨u5, q5, h5, h⟩ := bndO_ok h
 obtain ⟨ss, q6, h6, h⟩ := bndO_ok h
 obtain ⟨u7, q7, h7, h⟩ := bndO_ok h
 obtain ⟨a, q8, h8, h⟩ := bndO_ok h
 obtain ⟨u9, q9, h9, h⟩ := bndO_ok h
 simp only [bndO] at h
 have h := h
 have w1 := want_ok h1 (by decide)
 have w2 := name_ok h2
 have w3 := want_ok h3 (by decide)
 have w4 : q4.length + 1 = q3.length := by
  unfold pairO at h4
  split at h4
  ·rename_i c; cases h4; exact tail_len (hd_ne (by decide) c)
  ·obtain ⟨u, q, g1, g2⟩ := bndO_ok h4
   cases g2
   exact (want_ok g1 (by decide)).2.1
 have w5 := want_ok h5 (by decide)
 obtain ⟨new, e1, e2, e3, e4⟩ := stms_min h6
 have w7 := want_ok h7 (by decide)
 have w8 := num_ok h8
 have w9 := want_ok h9 (by decide)
 have w10 : y = ⟨nm, pr, ss, a⟩ ∧ r.length + 1 = q9.length := by
  cases hw : wantT [125] q9 with
  | er q => simp only [wantO, hw] at h; cases h
  | ok u q =>
   have w := want_ok (congrArg some hw) (by decide)
   simp only [wantO, hw] at h
   cases h
   exact ⟨rfl, w.2.1⟩
 obtain ⟨rfl, w10⟩ := w10
 rw [List.nil_append] at e1
 subst e1
 refine ⟨by simp only []; omega, fun s hs => ?_, by simp only []; omega⟩
 have := e4 s hs
 omega
theorem prg_min {n : Nat} : ∀ {m : Nat} {acc : List Rul} {ts r : List Tok} {p : List Rul}, prgO n m acc ts = some (.ok p r) → ∃ new, p = acc ++ new ∧ tks (prgP new) ≤ ts.length ∧ new.length ≤ ts.length ∧ ∀ y ∈ new, (∀ s ∈ y.stmts, s.ex.cnt ≤ ts.length) ∧ y.stmts.length ≤ ts.length
 | 0, acc, ts, r, p, h => by cases h
 | m + 1, acc, ts, r, p, h => by
  rw [prgO] at h
  split at h
  ·cases h
   exact ⟨[], by simp, by simp [tks, tk0, prgP], by simp, by simp⟩
  obtain ⟨y, q, h1, h2⟩ := bndO_ok h
  obtain ⟨m1, m2, m3⟩ := rul_min h1
  rw [tks_rul] at m1
  obtain ⟨new, e1, e2, e3, e4⟩ := prg_min h2
  refine ⟨y :: new, by rw [e1]; simp, ?_, by simp only [List.length_cons]; omega, fun z hz => ?_⟩
  ·have : prgP (y :: new) = rulP y ++ prgP new := rfl
   rw [this, tks_append, tks_rul]; omega
  ·rcases List.mem_cons.1 hz with rfl | hz
   ·exact ⟨m2, m3⟩
   ·obtain ⟨a, b⟩ := e4 z hz
    exact ⟨fun s hs => by have := a s hs; omega, by omega⟩
theorem prgT_min {ts r : List Tok} {p : List Rul} (h : prgT ts = .ok p r) : tks (prgP p) ≤ ts.length ∧ p.length ≤ ts.length ∧ ∀ y ∈ p, (∀ s ∈ y.stmts, s.ex.cnt ≤ ts.length) ∧ y.stmts.length ≤ ts.length := by
 have h1 := prgT_spec ts
 rw [h] at h1
 obtain ⟨new, e1, e2, e3, e4⟩ := prg_min h1
 rw [List.nil_append] at e1
 subst e1
 exact ⟨e2, e3, e4⟩
theorem lex_len {p : Nat} {s : List UInt8} {l : List Tok} (h : LexR p s l) : l.length ≤ s.length ∧ ∀ t ∈ l, t.text ≠ [] ∧ t.text.length ≤ s.length := by
 induction h with
 | nil p s h => exact ⟨by simp, by simp⟩
 | cons p s q k tx z l h1 h2 h3 h4 h5 ih =>
  have hlen := congrArg List.length h2
  rw [List.length_append, List.length_drop] at hlen
  have hpos : 0 < tx.length := List.length_pos_iff.2 (tokC_ne h3)
  refine ⟨by simp only [List.length_cons]; omega, fun t ht => ?_⟩
  rcases List.mem_cons.1 ht with rfl | ht
  ·exact ⟨tokC_ne h3, by show tx.length ≤ _; omega⟩
  ·have := ih.2 t ht
   exact ⟨this.1, by omega⟩
end Go.Proofs.YtpggidmbnjfmaaaGreatDoor
end
