/- Chapter 32: printed text as pieces; the tokens of a printed expression are read as it; no text of it has fewer tokens. -/
import Derived.Test.YtoepkeppgfbplaaDoorPpl
import Derived.Lib.ItoaNum
set_option linter.unusedSimpArgs false
set_option linter.unusedVariables false
set_option maxHeartbeats 1000000
namespace Go.Proofs.YtoepkeppgfbplaaDoor
open E

abbrev Pc := Int × List UInt8
def lvl (k : Int) : Nat := if k = 13 then 1 else if k = 12 then 2 else if k = 6 then 3 else if 14 ≤ k ∧ k ≤ 19 then 4 else if k = 7 ∨ k = 8 then 5 else if k = 9 ∨ k = 20 then 6 else if k = 3 then 7 else 8
theorem lvl_le (k : Int) : 1 ≤ lvl k ∧ lvl k ≤ 8 := by unfold lvl; (repeat' split) <;> simp
def opX (k : Int) : List UInt8 := if k = 7 then [43] else if k = 8 then [45] else if k = 9 then [42] else if k = 12 then sAnd else if k = 13 then sOr else if k = 14 then [60] else if k = 15 then [60, 61] else if k = 16 then [61] else if k = 17 then [33, 61] else if k = 18 then [62, 61] else [62]
def sp : Pc := (0, [32])
def opc (k : Int) : Pc := (if k = 12 ∨ k = 13 then 1 else 3, opX k)
def numP (v : Int) : Pc := (2, Lib.itoa v)
def lp : Pc := (3, [40])
def rp : Pc := (3, [41])
def wrapP (lv least : Nat) (b : List Pc) : List Pc := if lv < least then lp :: (b ++ [rp]) else b
def argA (l : Nat) : List (Int × List Pc) → List Pc
 | b :: _ => wrapP (lvl b.1) l b.2
 | [] => []
def argB (l : Nat) : List (Int × List Pc) → List Pc
 | _ :: b :: _ => wrapP (lvl b.1) l b.2
 | _ => []
def glue (k v f t : Int) (n : List UInt8) (bs : List (Int × List Pc)) : List Pc :=
 if k = 1 then [numP v] else if k = 2 then [(1, n)] else if k = 3 then (3, [45]) :: argA 7 bs else if k = 6 then (1, sNot) :: sp :: argA 3 bs else
 if k = 20 then argA 6 bs ++ [sp, (1, sPer), sp, numP v] else if k = 4 ∨ k = 5 then (1, if k = 5 then sShare else sAbs) :: lp :: (argA 0 bs ++ [rp]) else
 if k = 10 ∨ k = 11 then (1, if k = 11 then sMax else sMin) :: lp :: (argA 0 bs ++ (3, [44]) :: sp :: (argB 0 bs ++ [rp])) else
 if k = 21 ∨ k = 22 then [(1, if k = 22 then sPart else sBal), lp, numP f, (3, [46, 46]), numP t, rp] else
 argA (if lvl k = 4 then 5 else lvl k) bs ++ sp :: opc k :: sp :: argB (lvl k + 1) bs
mutual
def bare : Xp → List Pc
 | .mk k v f t n xs => glue k v f t n (bares xs)
def bares : List Xp → List (Int × List Pc)
 | [] => []
 | x :: xs => (x.kind, bare x) :: bares xs
end
def pcs (x : Xp) (l : Nat) : List Pc := wrapP (lvl x.kind) l (bare x)
theorem wrap_le {lv l : Nat} {b : List Pc} (h : l ≤ lv) : wrapP lv l b = b := if_neg (by omega)
theorem pcs0 (x : Xp) : pcs x 0 = bare x := wrap_le (by omega)
theorem pcs1 (x : Xp) : pcs x 1 = bare x := wrap_le (lvl_le _).1
def strip (t : Tok) : Tok := { t with frm := 0 }
theorem plc_strip : Plc strip := fun t => ⟨rfl, rfl⟩
def tk0 (ps : List Pc) : List Tok := (ps.filter fun p => p.1 != 0).map fun p => ⟨p.1, p.2, 0⟩
theorem tk0_append (a b : List Pc) : tk0 (a ++ b) = tk0 a ++ tk0 b := by simp [tk0]
theorem tk0_cons {p : Pc} (h : p.1 ≠ 0) (b : List Pc) : tk0 (p :: b) = ⟨p.1, p.2, 0⟩ :: tk0 b := by simp [tk0, h]
theorem tk0_sp (b : List Pc) : tk0 (sp :: b) = tk0 b := by simp [tk0, sp]
theorem tk0_nil : tk0 [] = [] := rfl

def tl (x : Xp) (l : Nat) : Nat := (tk0 (pcs x l)).length
def tb (x : Xp) : Nat := (tk0 (bare x)).length
theorem tl_eq (x : Xp) (l : Nat) : tl x l = if lvl x.kind < l then tb x + 2 else tb x := by
 unfold tl tb pcs wrapP
 split
 ·rw [tk0_cons (by simp [lp]), tk0_append, tk0_cons (by simp [rp])]; simp [tk0_nil]
 ·rfl
theorem tl_mono (x : Xp) {l l' : Nat} (h : l ≤ l') : tl x l ≤ tl x l' := by rw [tl_eq, tl_eq]; split <;> split <;> omega
theorem tl_two (x : Xp) (l : Nat) : tl x l ≤ tb x + 2 := by rw [tl_eq]; split <;> omega
theorem tl_ge (x : Xp) (l : Nat) : tb x ≤ tl x l := by rw [tl_eq]; split <;> omega
theorem tl_le {x : Xp} {l : Nat} (h : l ≤ lvl x.kind) : tl x l = tb x := by rw [tl_eq, if_neg (by omega)]
theorem tl_zero (x : Xp) : tl x 0 = tb x := tl_le (by omega)
theorem tl_one (x : Xp) : tl x 1 = tb x := tl_le (lvl_le _).1
theorem op_nz (k : Int) : (opc k).1 ≠ 0 := by unfold opc; simp only []; split <;> simp
theorem tb_bin {k : Int} (h : k = 7 ∨ k = 8 ∨ k = 9 ∨ (12 ≤ k ∧ k ≤ 19)) (a b : Xp) : bare (two k a b) = pcs a (if lvl k = 4 then 5 else lvl k) ++ sp :: opc k :: sp :: pcs b (lvl k + 1) := by
 show glue k 0 0 0 [] [(a.kind, bare a), (b.kind, bare b)] = _
 unfold glue
 rw [if_neg (by omega), if_neg (by omega), if_neg (by omega), if_neg (by omega), if_neg (by omega), if_neg (by omega), if_neg (by omega), if_neg (by omega)]
 rfl
theorem tb_bin' {k : Int} (h : k = 7 ∨ k = 8 ∨ k = 9 ∨ (12 ≤ k ∧ k ≤ 19)) (a b : Xp) : tb (two k a b) = tl a (if lvl k = 4 then 5 else lvl k) + 1 + tl b (lvl k + 1) := by
 unfold tb
 rw [tb_bin h, tk0_append, tk0_sp, tk0_cons (op_nz k), tk0_sp]
 simp only [tl, List.length_append, List.length_cons]; omega
theorem tb_per (v : Int) (a : Xp) : tb (perX v a) = tl a 6 + 2 := by
 unfold tb
 have : bare (perX v a) = pcs a 6 ++ [sp, (1, sPer), sp, numP v] := rfl
 rw [this, tk0_append]
 simp [tl, tk0, sp, numP]
theorem tb_neg (a : Xp) : tb (one 3 a) = tl a 7 + 1 := by
 unfold tb
 have : bare (one 3 a) = (3, [45]) :: pcs a 7 := rfl
 rw [this, tk0_cons (by simp)]; rfl
theorem tb_not (a : Xp) : tb (one 6 a) = tl a 3 + 1 := by
 unfold tb
 have : bare (one 6 a) = (1, sNot) :: sp :: pcs a 3 := rfl
 rw [this, tk0_cons (by simp), tk0_sp]; rfl
theorem bare_f1 {k : Int} (h : k = 4 ∨ k = 5) (a : Xp) : bare (one k a) = (1, if k = 5 then sShare else sAbs) :: lp :: (bare a ++ [rp]) := by
 rw [← pcs0 a]
 rcases h with rfl | rfl <;> rfl
theorem bare_f2 {k : Int} (h : k = 10 ∨ k = 11) (a b : Xp) : bare (two k a b) = (1, if k = 11 then sMax else sMin) :: lp :: (bare a ++ (3, [44]) :: sp :: (bare b ++ [rp])) := by
 rw [← pcs0 a, ← pcs0 b]
 rcases h with rfl | rfl <;> rfl
theorem tb_f1 {k : Int} (h : k = 4 ∨ k = 5) (a : Xp) : tb (one k a) = tb a + 3 := by
 unfold tb
 rw [bare_f1 h, tk0_cons (by simp), tk0_cons (by simp [lp]), tk0_append, tk0_cons (by simp [rp])]
 simp [tk0_nil]
theorem tb_f2 {k : Int} (h : k = 10 ∨ k = 11) (a b : Xp) : tb (two k a b) = tb a + tb b + 4 := by
 unfold tb
 rw [bare_f2 h, tk0_cons (by simp), tk0_cons (by simp [lp]), tk0_append, tk0_cons (by simp), tk0_sp, tk0_append, tk0_cons (by simp [rp])]
 simp [tk0_nil]; omega
theorem tb_bal {k : Int} (h : k = 21 ∨ k = 22) (f t : Int) : tb (.mk k 0 f t [] []) = 6 := by
 rcases h with rfl | rfl <;> rfl
theorem lvl_opT {k : Nat} {s : List UInt8} {o : Int} (h : opT k s = some o) : lvl o = k ∧ (o = 7 ∨ o = 8 ∨ o = 9 ∨ (12 ≤ o ∧ o ≤ 19)) ∧ opX o = s := by
 unfold opT at h
 split at h
 ·split at h <;> cases h
  rename_i e; subst e; exact ⟨rfl, by simp, rfl⟩
 ·split at h <;> cases h
  rename_i e; subst e; exact ⟨rfl, by simp, rfl⟩
 ·(repeat' split at h) <;> first | (cases h; rename_i e; subst e; exact ⟨rfl, by simp, rfl⟩) | cases h
 ·(repeat' split at h) <;> first | (cases h; rename_i e; subst e; exact ⟨rfl, by simp, rfl⟩) | cases h
 ·split at h <;> cases h
  rename_i e; subst e; exact ⟨rfl, by simp, rfl⟩
 ·cases h
theorem cnt_one (k : Int) (a : Xp) : (one k a).cnt = 1 + a.cnt := by simp [one, Xp.cnt, Xp.cnts]
theorem cnt_two (k : Int) (a b : Xp) : (two k a b).cnt = 1 + a.cnt + b.cnt := by simp [two, Xp.cnt, Xp.cnts]; omega
theorem cnt_per (v : Int) (a : Xp) : (perX v a).cnt = 1 + a.cnt := by simp [perX, Xp.cnt, Xp.cnts]
def Min (j : Job) (ts : List Tok) (x : Xp) (r : List Tok) : Prop := match j with
 | .lev k => k ≤ 8 → tl x k + r.length ≤ ts.length ∧ x.cnt + r.length ≤ ts.length
 | .prm => tl x 8 + r.length ≤ ts.length ∧ x.cnt + r.length ≤ ts.length
 | .lp k x0 => k ≠ 4 → k ≤ 6 → tl x k + r.length ≤ ts.length + tl x0 k ∧ x.cnt + r.length ≤ ts.length + x0.cnt
theorem bndO_ok {α β : Type} {f : Option (Rd α)} {g : α → List Tok → Option (Rd β)} {y : β} {r : List Tok} (h : bndO f g = some (.ok y r)) : ∃ x q, f = some (.ok x q) ∧ g x q = some (.ok y r) := by
 cases f with
 | none => cases h
 | some q =>
  cases q with
  | ok x q => exact ⟨x, q, rfl, h⟩
  | er q => cases h
theorem want_ok {s : List UInt8} {ts r : List Tok} {u : Unit} (h : (some (wantT s ts) : Option (Rd Unit)) = some (.ok u r)) (hs : s ≠ []) : r = ts.tail ∧ r.length + 1 = ts.length ∧ hdT ts = s := by
 have h := Option.some.inj h
 unfold wantT at h
 split at h
 ·rename_i c
  cases h
  have := hd_ne hs c
  refine ⟨rfl, ?_, c⟩
  cases ts with
  | nil => exact absurd rfl this
  | cons t r => rfl
 ·cases h
theorem num_ok {a b v : Int} {ts r : List Tok} (h : (some (numT a b ts) : Option (Rd Int)) = some (.ok v r)) : r.length + 1 = ts.length ∧ a ≤ v ∧ v ≤ b := by
 have h := Option.some.inj h
 cases ts with
 | nil => cases h
 | cons t ts =>
  rw [numT] at h
  split at h
  ·rename_i c; cases h; exact ⟨rfl, c.2.1, c.2.2⟩
  ·cases h
theorem name_ok {v : List UInt8} {ts r : List Tok} (h : (some (nameT ts) : Option (Rd (List UInt8))) = some (.ok v r)) : r.length + 1 = ts.length := by
 have h := Option.some.inj h
 cases ts with
 | nil => cases h
 | cons t ts =>
  rw [nameT] at h
  split at h
  ·cases h; rfl
  ·cases h
theorem tail_len {ts : List Tok} (h : ts ≠ []) : ts.tail.length + 1 = ts.length := by cases ts with | nil => exact absurd rfl h | cons t r => rfl
theorem par_min : ∀ (n : Nat) (j : Job) (ts : List Tok) (x : Xp) (r : List Tok), par n j ts = some (.ok x r) → Min j ts x r
 | 0, j, ts, x, r, h => by cases h
 | n + 1, .lev k, ts, x, r, h => by
  intro hk8
  rw [par] at h
  split at h
  ·rename_i c
   obtain ⟨y, q, h1, h2⟩ := bndO_ok h
   obtain ⟨a1, a2⟩ := par_min n _ _ _ _ h1 (by omega)
   obtain ⟨b1, b2⟩ := par_min n _ _ _ _ h2 (by omega) (by omega)
   have := tl_mono y (show 1 ≤ 2 by omega)
   have := tl_mono x c
   omega
  split at h
  ·rename_i c
   obtain ⟨y, q, h1, h2⟩ := bndO_ok h
   obtain ⟨a1, a2⟩ := par_min n _ _ _ _ h1 (by omega)
   obtain ⟨b1, b2⟩ := par_min n _ _ _ _ h2 (by omega) (by omega)
   have := tl_mono y (show k ≤ k + 1 by omega)
   omega
  split at h
  ·rename_i c
   split at h
   ·rename_i c2
    obtain ⟨y, q, h1, h2⟩ := bndO_ok h
    cases h2
    obtain ⟨a1, a2⟩ := par_min n _ _ _ _ h1 (by omega)
    have := tail_len (hd_ne (by decide) c2)
    rw [cnt_one, tl_le (by rw [c]; exact Nat.le_refl 3), tb_not]
    omega
   ·obtain ⟨a1, a2⟩ := par_min n _ _ _ _ h (by omega)
    have := tl_mono x (show k ≤ 4 by omega)
    omega
  split at h
  ·rename_i c
   obtain ⟨y, q, h1, h2⟩ := bndO_ok h
   obtain ⟨a1, a2⟩ := par_min n _ _ _ _ h1 (by omega)
   cases ho : opT 4 (hdT q) with
   | none =>
    rw [ho] at h2
    cases h2
    have := tl_mono x (show k ≤ 5 by omega)
    omega
   | some o =>
    rw [ho] at h2
    obtain ⟨z, q2, h3, h4⟩ := bndO_ok h2
    cases h4
    obtain ⟨b1, b2⟩ := par_min n _ _ _ _ h3 (by omega)
    have := tail_len (opT_ne ho)
    obtain ⟨e1, e2, _⟩ := lvl_opT ho
    rw [cnt_two, tl_le (by show k ≤ lvl o; omega), tb_bin' e2, e1, if_pos rfl]
    simp only [Nat.reduceAdd]
    omega
  split at h
  ·rename_i c
   obtain ⟨y, q, h1, h2⟩ := bndO_ok h
   cases h2
   obtain ⟨a1, a2⟩ := par_min n _ _ _ _ h1 (by omega)
   have := tail_len (hd_ne (by decide) c.2)
   rw [cnt_one, tl_le (by rw [c.1]; exact Nat.le_refl 7), tb_neg]
   omega
  ·obtain ⟨a1, a2⟩ := par_min n _ _ _ _ h
   have := tl_mono x hk8
   omega
 | n + 1, .lp k x0, ts, x, r, h => by
  intro hk4 hk6
  rw [par] at h
  split at h
  ·rename_i c
   obtain ⟨rfl, c2⟩ := c
   have htl := tail_len (hd_ne (by decide) c2)
   cases hn : numT 1 1000000000000 ts.tail with
   | er r => rw [hn] at h; cases h
   | ok v q =>
    rw [hn] at h
    have hq := (num_ok (congrArg some hn)).1
    obtain ⟨a1, a2⟩ := par_min n _ _ _ _ h (by omega) (by omega)
    rw [cnt_per, tl_le (x := perX v x0) (Nat.le_refl 6), tb_per] at *
    omega
  ·cases ho : opT k (hdT ts) with
   | none =>
    rw [ho] at h
    cases h
    exact ⟨by omega, by omega⟩
   | some o =>
    rw [ho] at h
    obtain ⟨y, q, h1, h2⟩ := bndO_ok h
    obtain ⟨a1, a2⟩ := par_min n _ _ _ _ h1 (by omega)
    obtain ⟨b1, b2⟩ := par_min n _ _ _ _ h2 hk4 hk6
    have := tail_len (opT_ne ho)
    obtain ⟨e1, e2, _⟩ := lvl_opT ho
    rw [cnt_two] at b2
    rw [tl_le (x := two o x0 y) (by show k ≤ lvl o; omega), tb_bin' e2, e1, if_neg hk4] at b1
    omega
 | n + 1, .prm, ts, x, r, h => by
  have prim : ∀ y : Xp, 8 ≤ lvl y.kind → tl y 8 = tb y := fun y hy => tl_le hy
  show tl x 8 + r.length ≤ ts.length ∧ x.cnt + r.length ≤ ts.length
  rw [par] at h
  split at h
  ·cases h
  rename_i hne
  have htl := tail_len hne
  simp only [bnd_O] at h
  split at h
  ·obtain ⟨y, q, h1, h2⟩ := bndO_ok h
   obtain ⟨u, q2, h3, h4⟩ := bndO_ok h2
   cases h4
   obtain ⟨a1, a2⟩ := par_min n _ _ _ _ h1 (by omega)
   have := want_ok h3 (by simp)
   rw [tl_zero] at a1
   have := tl_two x 8
   omega
  split at h
  ·rename_i c
   obtain ⟨u0, q0, h1, h2⟩ := bndO_ok h
   obtain ⟨a, q1, h3, h4⟩ := bndO_ok h2
   obtain ⟨u1, q2, h5, h6⟩ := bndO_ok h4
   obtain ⟨b, q3, h7, h8⟩ := bndO_ok h6
   obtain ⟨u2, q4, h9, h10⟩ := bndO_ok h8
   cases h10
   have w1 := want_ok h1 (by simp)
   obtain ⟨a1, a2⟩ := par_min n _ _ _ _ h3 (by omega)
   have w2 := want_ok h5 (by simp)
   obtain ⟨b1, b2⟩ := par_min n _ _ _ _ h7 (by omega)
   have w3 := want_ok h9 (by simp)
   rw [tl_zero] at a1 b1
   have hk : (if hdT ts = sMax then (11 : Int) else 10) = 10 ∨ (if hdT ts = sMax then (11 : Int) else 10) = 11 := by split <;> simp
   rw [prim _ (by rcases hk with hk | hk <;> (rw [show (two (if hdT ts = sMax then 11 else 10) a b).kind = (if hdT ts = sMax then 11 else 10) from rfl, hk]; exact Nat.le_refl 8)), tb_f2 hk, cnt_two]
   omega
  split at h
  ·rename_i c
   obtain ⟨u0, q0, h1, h2⟩ := bndO_ok h
   obtain ⟨a, q1, h3, h4⟩ := bndO_ok h2
   obtain ⟨u2, q4, h9, h10⟩ := bndO_ok h4
   cases h10
   have w1 := want_ok h1 (by simp)
   obtain ⟨a1, a2⟩ := par_min n _ _ _ _ h3 (by omega)
   have w3 := want_ok h9 (by simp)
   rw [tl_zero] at a1
   have hk : (if hdT ts = sShare then (5 : Int) else 4) = 4 ∨ (if hdT ts = sShare then (5 : Int) else 4) = 5 := by split <;> simp
   rw [prim _ (by rcases hk with hk | hk <;> (rw [show (one (if hdT ts = sShare then 5 else 4) a).kind = (if hdT ts = sShare then 5 else 4) from rfl, hk]; exact Nat.le_refl 8)), tb_f1 hk, cnt_one]
   omega
  split at h
  ·rename_i c
   obtain ⟨u0, q0, h1, h2⟩ := bndO_ok h
   obtain ⟨f, q1, h3, h4⟩ := bndO_ok h2
   obtain ⟨u1, q2, h5, h6⟩ := bndO_ok h4
   obtain ⟨t, q3, h7, h8⟩ := bndO_ok h6
   obtain ⟨u2, q4, h9, h10⟩ := bndO_ok h8
   cases h10
   have w1 := want_ok h1 (by simp)
   have w2 := num_ok h3
   have w3 := want_ok h5 (by simp)
   have w4 := num_ok h7
   have w5 := want_ok h9 (by simp)
   have hk : (if hdT ts = sPart then (22 : Int) else 21) = 21 ∨ (if hdT ts = sPart then (22 : Int) else 21) = 22 := by split <;> simp
   rw [prim _ (by rcases hk with hk | hk <;> (rw [show (Xp.mk (if hdT ts = sPart then 22 else 21) 0 f t [] []).kind = (if hdT ts = sPart then 22 else 21) from rfl, hk]; exact Nat.le_refl 8)), tb_bal hk, Xp.cnt, Xp.cnts]
   omega
  split at h
  ·obtain ⟨v, q, h1, h2⟩ := bndO_ok h
   cases h2
   have := num_ok h1
   rw [prim (.mk 1 v 0 0 [] []) (Nat.le_refl 8), show tb (.mk 1 v 0 0 [] []) = 1 from rfl, Xp.cnt, Xp.cnts]
   omega
  ·obtain ⟨v, q, h1, h2⟩ := bndO_ok h
   cases h2
   have := name_ok h1
   rw [prim (.mk 2 0 0 0 v []) (Nat.le_refl 8), show tb (.mk 2 0 0 0 v []) = 1 from rfl, Xp.cnt, Xp.cnts]
   omega
end Go.Proofs.YtoepkeppgfbplaaDoor
