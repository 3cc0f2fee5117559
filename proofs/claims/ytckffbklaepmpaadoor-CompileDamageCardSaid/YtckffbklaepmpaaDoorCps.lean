/- Chapter 34: what Compile returns, and plain laws of it: the codes are valid, and not without one of their instructions. -/
import Derived.Test.YtckffbklaepmpaaDoorMea
import Derived.Test.YtckffbklaepmpaaDoorRsp
set_option linter.unusedSimpArgs false
set_option linter.unusedVariables false
set_option maxHeartbeats 1000000
set_option maxRecDepth 4000
namespace Go.Proofs.YtckffbklaepmpaaDoor
open E

/-- The operation of a kind of expressions. -/
def opOf (k : Int) : Int := if k = 1 then 1 else if k = 2 then 2 else if k = 3 then 5 else if k = 4 then 6 else if k = 5 then 7 else if k = 6 then 8 else if k = 20 then 9 else if k = 21 then 3 else if k = 22 then 4 else k + 3
def idxF (s : List UInt8) : Nat → List (List UInt8) → Int → Int
  | _, [], c => c
  | i, y :: l, c => idxF s (i + 1) l (if y = s then (i : Int) else c)
/-- The last place of a name. -/
def idxN (M : List (List UInt8)) (s : List UInt8) : Int := idxF s 0 M 0
def lastX (M : List (List UInt8)) (k v f t : Int) (n : List UInt8) : Ins :=
  if k = 1 then ⟨1, v, 0⟩ else if k = 2 then ⟨2, idxN M n, 0⟩ else if k = 20 then ⟨9, v, 0⟩ else if k = 21 then ⟨3, f, t⟩ else if k = 22 then ⟨4, f, t⟩ else ⟨opOf k, 0, 0⟩
namespace Xp
mutual
/-- The instructions of an expression. -/
def codeX (M : List (List UInt8)) : Xp → List Ins
  | .mk k v f t n xs => codesX M xs ++ [lastX M k v f t n]
def codesX (M : List (List UInt8)) : List Xp → List Ins
  | [] => []
  | x :: xs => codeX M x ++ codesX M xs
end
theorem codesX_flat (M : List (List UInt8)) (l : List Xp) : codesX M l = l.flatMap (codeX M) := by
  induction l with
  | nil => rfl
  | cons x l ih => rw [codesX, ih]; rfl
mutual
theorem codeX_len (M : List (List UInt8)) : ∀ x : Xp, (codeX M x).length = cnt x
  | .mk k v f t n xs => by rw [codeX, cnt, List.length_append, codesX_len M xs]; simp; omega
theorem codesX_len (M : List (List UInt8)) : ∀ xs : List Xp, (codesX M xs).length = cnts xs
  | [] => rfl
  | x :: xs => by rw [codesX, cnts, List.length_append, codeX_len M x, codesX_len M xs]
end
end Xp
def lastS (M : List (List UInt8)) (s : Stm) : Ins := if s.kind = 1 then ⟨23, M.length, 0⟩ else if s.kind = 2 then ⟨24, 0, 0⟩ else ⟨25, s.acc, 0⟩
def codeSs : List (List UInt8) → List Stm → List Ins
  | _, [] => []
  | M, s :: ss => (s.ex.codeX M ++ [lastS M s]) ++ codeSs (M ++ namesOf [s]) ss
def codeR (r : Rul) : Code := ⟨r.name, r.pair, codeSs [] r.stmts ++ [⟨26, r.to, 0⟩]⟩
/-- What Compile returns. -/
def cmpR (p : List Rul) (l : List Account) : List Code × Int × Int := if (chkR p l).2 = 0 then (p.map codeR, 0, 0) else ([], (chkR p l).1, (chkR p l).2)

theorem codeSs_next {M : List (List UInt8)} {ss : List Stm} {k : Nat} {s : Stm} (h : ss[k]? = some s) : codeSs M (ss.take (k + 1)) = codeSs M (ss.take k) ++ (s.ex.codeX (M ++ namesOf (ss.take k)) ++ [lastS (M ++ namesOf (ss.take k)) s]) := by
  induction ss generalizing M k with
  | nil => simp at h
  | cons y ss ih =>
    cases k with
    | zero =>
      simp at h
      subst h
      simp [codeSs, namesOf]
    | succ k =>
      have h' : ss[k]? = some s := by simpa using h
      rw [List.take_succ_cons, codeSs, List.take_succ_cons, codeSs, ih h']
      have e : M ++ namesOf [y] ++ namesOf (ss.take k) = M ++ namesOf (y :: ss.take k) := by
        rw [List.append_assoc]; congr 1
        unfold namesOf
        rw [← List.map_append, ← List.filter_append]; rfl
      rw [e]
      simp only [List.append_assoc]
/-- The number of instructions. -/
def cntS (ss : List Stm) : Nat := (ss.map fun s => s.ex.cnt).sum
theorem codeSs_len : ∀ (ss : List Stm) (M : List (List UInt8)), (codeSs M ss).length = ss.length + cntS ss
  | [], M => rfl
  | s :: ss, M => by
    rw [codeSs, List.length_append, List.length_append, Xp.codeX_len, codeSs_len ss]
    simp [cntS]; omega
theorem codeR_len (r : Rul) : (codeR r).ins.length = 1 + r.stmts.length + cntS r.stmts := by
  simp only [codeR, List.length_append, codeSs_len, List.length_cons, List.length_nil]; omega

/-! ### The codes are valid -/
def runF (len : Nat) (pair : Bool) : Nat → List Ins → Int × Int × Int → Option (Int × Int × Int)
  | _, [], s => some s
  | i, x :: l, s => match stepM len pair i x s with
    | some s' => runF len pair (i + 1) l s'
    | none => none
theorem runF_append {len : Nat} {pair : Bool} : ∀ (a b : List Ins) (i : Nat) (s : Int × Int × Int), runF len pair i (a ++ b) s = (runF len pair i a s).bind fun s' => runF len pair (i + a.length) b s'
  | [], b, i, s => by simp [runF]
  | x :: a, b, i, s => by
    rw [List.cons_append, runF, runF]
    cases stepM len pair i x s with
    | none => rfl
    | some s' =>
      simp only []
      rw [runF_append a b (i + 1) s', List.length_cons, show i + 1 + a.length = i + (a.length + 1) by omega]
theorem runM_runF (c : Code) : ∀ k, k ≤ c.ins.length → runM c k = runF c.ins.length c.pair 0 (c.ins.take k) (0, 0, 0)
  | 0, _ => by simp [runM, runF]
  | k + 1, h => by
    have hk : k < c.ins.length := h
    have hx : c.ins[k]? = some c.ins[k] := by simp [hk]
    rw [runM, runM_runF c k (by omega), take_next hx, runF_append, hx]
    have hl : (c.ins.take k).length = k := by simp; omega
    cases hr : runF c.ins.length c.pair 0 (c.ins.take k) (0, 0, 0) with
    | none => rfl
    | some s =>
      simp only [Option.bind_some, runF, hl, Nat.zero_add]
      cases stepM c.ins.length c.pair k c.ins[k] s <;> rfl
theorem meaR_runF (c : Code) : (meaR c).2 = true ↔ c.ins ≠ [] ∧ ∃ s, runF c.ins.length c.pair 0 c.ins (0, 0, 0) = some s := by
  have h := runM_runF c c.ins.length (Nat.le_refl _)
  rw [List.take_length] at h
  unfold meaR
  rw [h]
  by_cases he : c.ins = []
  · rw [if_pos he]; simp [he]
  · rw [if_neg he]
    cases runF c.ins.length c.pair 0 c.ins (0, 0, 0) with
    | none => simp
    | some s => simp [he]
theorem idxF_mem {s : List UInt8} : ∀ (l : List (List UInt8)) (i : Nat) (c : Int), s ∈ l → (i : Int) ≤ idxF s i l c ∧ idxF s i l c < i + l.length
  | [], i, c, h => by cases h
  | y :: l, i, c, h => by
    rw [idxF]
    by_cases hl : s ∈ l
    · have := idxF_mem l (i + 1) (if y = s then (i : Int) else c) hl
      push_cast at this ⊢
      simp only [List.length_cons]
      push_cast
      omega
    · have hy : y = s := by
        rcases List.mem_cons.1 h with e | e
        · exact e.symm
        · exact absurd e hl
      have hno : ∀ (l : List (List UInt8)) (j : Nat) (c : Int), s ∉ l → idxF s j l c = c := by
        intro l
        induction l with
        | nil => intros; rfl
        | cons z l ih =>
          intro j c hz
          rw [idxF, if_neg (fun e => hz (by rw [e]; simp)), ih _ _ (fun e => hz (by simp [e]))]
      rw [if_pos hy, hno l _ _ hl]
      simp only [List.length_cons]
      push_cast
      omega
theorem idxN_mem {M : List (List UInt8)} {s : List UInt8} (h : s ∈ M) : 0 ≤ idxN M s ∧ idxN M s < M.length := by
  have := idxF_mem M 0 0 h
  unfold idxN
  simpa using this
theorem tkpt_kind {k : Int} (h1 : 1 ≤ k) (h2 : k ≤ 22) : tk (opOf k) = argsI k ∧ pt (opOf k) = 1 ∧ 1 ≤ opOf k ∧ opOf k ≤ 22 := by
  rcases (by omega : k = 1 ∨ k = 2 ∨ k = 3 ∨ k = 4 ∨ k = 5 ∨ k = 6 ∨ k = 7 ∨ k = 8 ∨ k = 9 ∨ k = 10 ∨ k = 11 ∨ k = 12 ∨ k = 13 ∨ k = 14 ∨ k = 15 ∨ k = 16 ∨ k = 17 ∨ k = 18 ∨ k = 19 ∨ k = 20 ∨ k = 21 ∨ k = 22) with rfl | rfl | rfl | rfl | rfl | rfl | rfl | rfl | rfl | rfl | rfl | rfl | rfl | rfl | rfl | rfl | rfl | rfl | rfl | rfl | rfl | rfl <;> decide
theorem lastX_op (M : List (List UInt8)) (k v f t : Int) (n : List UInt8) : (lastX M k v f t n).op = opOf k := by
  unfold lastX
  by_cases e1 : k = 1
  · subst e1; rfl
  rw [if_neg e1]
  by_cases e2 : k = 2
  · subst e2; rfl
  rw [if_neg e2]
  by_cases e3 : k = 20
  · subst e3; rfl
  rw [if_neg e3]
  by_cases e4 : k = 21
  · subst e4; rfl
  rw [if_neg e4]
  by_cases e5 : k = 22
  · subst e5; rfl
  rw [if_neg e5]
theorem fin_facts {known pair wrong : Bool} {e k f t : Int} (h : (finI known pair wrong e k f t).2 = 0) : e = 0 ∧ (k = 2 → known = true) ∧ (k = 21 ∨ k = 22 → f ≤ t) ∧ (k = 22 → pair = true) := by
  unfold finI at h
  split at h
  · rename_i h1; exact absurd h h1
  rename_i h1
  split at h
  · exact absurd h (by decide)
  split at h
  · exact absurd h (by decide)
  rename_i h3
  split at h
  · exact absurd h (by decide)
  rename_i h4
  split at h
  · exact absurd h (by decide)
  rename_i h5
  refine ⟨by simpa using h1, fun hk => ?_, fun hk => ?_, fun hk => ?_⟩
  · cases hb : known
    · exact absurd ⟨hk, hb⟩ h3
    · rfl
  · rcases Int.lt_or_le t f with q | q
    · exact absurd ⟨hk, q⟩ h4
    · exact q
  · cases hb : pair
    · exact absurd ⟨hk, hb⟩ h5
    · rfl
theorem numB_last {M : List (List UInt8)} {pair : Bool} {k v f t : Int} {n : List UInt8} {len : Nat} (hs : shpB k v f t n len = true) (h2 : k = 2 → n ∈ M) (h3 : k = 21 ∨ k = 22 → f ≤ t) (h4 : k = 22 → pair = true) :
    numB (lastX M k v f t n) pair M.length = true := by
  unfold shpB kdB at hs
  simp only [Bool.and_eq_true, decide_eq_true_eq] at hs
  obtain ⟨⟨⟨k1, k2⟩, hl⟩, hf⟩ := hs
  unfold fldB at hf
  unfold lastX
  by_cases e1 : k = 1
  · subst e1
    rw [if_pos rfl] at hf ⊢
    simp only [Bool.and_eq_true, decide_eq_true_eq] at hf
    simp only [numB, amtB, if_true, Bool.and_eq_true, decide_eq_true_eq, beq_self_eq_true, and_true]
    omega
  rw [if_neg e1] at hf ⊢
  by_cases e2 : k = 2
  · subst e2
    rw [if_pos rfl]
    have := idxN_mem (h2 rfl)
    simp only [numB, if_neg (by decide : ¬ (2 : Int) = 1), if_true, Bool.and_eq_true, decide_eq_true_eq, beq_self_eq_true, and_true]
    omega
  rw [if_neg e2] at hf ⊢
  by_cases e3 : k = 20
  · subst e3
    rw [if_pos rfl] at hf ⊢
    simp only [Bool.and_eq_true, decide_eq_true_eq] at hf
    simp only [numB, amtB, if_neg (by decide : ¬ (9 : Int) = 1), if_neg (by decide : ¬ (9 : Int) = 2), if_neg (by decide : ¬ ((9 : Int) = 3 ∨ (9 : Int) = 4)), if_true, Bool.and_eq_true, decide_eq_true_eq, beq_self_eq_true, and_true]
    omega
  rw [if_neg e3] at hf ⊢
  by_cases e4 : k = 21
  · subst e4
    rw [if_pos (.inl rfl)] at hf
    rw [if_pos rfl]
    have := h3 (.inl rfl)
    simp only [Bool.and_eq_true] at hf
    have a1 : accB f = true := hf.1.1.1
    have a2 : accB t = true := hf.1.1.2
    simp [numB, a1, a2, this]
  rw [if_neg e4]
  by_cases e5 : k = 22
  · subst e5
    rw [if_pos (.inr rfl)] at hf
    rw [if_pos rfl]
    have := h3 (.inr rfl)
    have hp := h4 rfl
    simp only [Bool.and_eq_true] at hf
    have a1 : accB f = true := hf.1.1.1
    have a2 : accB t = true := hf.1.1.2
    simp [numB, a1, a2, hp, this]
  rw [if_neg e5]
  rcases (by omega : k = 3 ∨ k = 4 ∨ k = 5 ∨ k = 6 ∨ k = 7 ∨ k = 8 ∨ k = 9 ∨ k = 10 ∨ k = 11 ∨ k = 12 ∨ k = 13 ∨ k = 14 ∨ k = 15 ∨ k = 16 ∨ k = 17 ∨ k = 18 ∨ k = 19) with rfl | rfl | rfl | rfl | rfl | rfl | rfl | rfl | rfl | rfl | rfl | rfl | rfl | rfl | rfl | rfl | rfl <;> rfl
/-- One step of a valid instruction that puts a value. -/
theorem step_put {len : Nat} {pair : Bool} {i : Nat} {x : Ins} {m d st : Int} (hi : i + 1 < len) (h1 : 1 ≤ x.op) (h2 : x.op ≤ 22) (hp : pt x.op = 1) (hn : numB x pair st = true) (hd : tk x.op ≤ d) :
    ∃ m', stepM len pair i x (m, d, st) = some (m', d + (1 - tk x.op), st) := by
  have hb : badM len pair i x st = false := by
    unfold badM
    rw [hn, decide_eq_false (by omega : ¬ x.op < 1), decide_eq_false (by omega : ¬ 26 < x.op), decide_eq_false (by omega : ¬ x.op = 26), decide_eq_false (by omega : ¬ i + 1 = len)]
    rfl
  have hc : badD x.op d = false := by
    unfold badD
    rw [decide_eq_false (by omega : ¬ d < tk x.op), hp]
    rfl
  refine ⟨max m (d + (1 - tk x.op)), ?_⟩
  unfold stepM
  simp only [hb, hc, Bool.false_eq_true, if_false, hp]
  rw [if_neg (by omega)]
namespace Xp
theorem infs_all {q : List UInt8 → Bool} {pair : Bool} {w : Int} : ∀ (xs : List Xp), (infs q pair w xs).1 = 0 → ∀ x ∈ xs, (inf q pair x).2 = 0
  | [], _, x, h => by cases h
  | y :: xs, h, x, hx => by
    rw [infs] at h
    split at h
    · rename_i h1; exact absurd h h1
    · rename_i h1
      rcases List.mem_cons.1 hx with rfl | hx
      · simpa using h1
      · exact infs_all xs h x hx
theorem props_mem {l : List Xp} (h : props l = true) : ∀ x ∈ l, prop x = true := by
  rw [props_all] at h
  intro x hx
  cases hb : prop x
  · rw [List.any_eq_true.2 ⟨x, hx, by simp [hb]⟩] at h; cases h
  · rfl
theorem run_x {len : Nat} {pair : Bool} {M : List (List UInt8)} : ∀ x : Xp, x.prop = true → (x.inf (memB M) pair).2 = 0 → ∀ (i : Nat) (m d : Int), i + (codeX M x).length < len → 0 ≤ d →
    ∃ m', runF len pair i (codeX M x) (m, d, (M.length : Int)) = some (m', d + 1, (M.length : Int)) := by
  refine Xp.ind fun k v f t n xs ih hp hf i m d hi hd => ?_
  rw [prop, Bool.and_eq_true] at hp
  rw [inf] at hf
  obtain ⟨f1, f2, f3, f4⟩ := fin_facts hf
  have hall := infs_all xs f1
  have hpm := props_mem hp.2
  have main : ∀ (l : List Xp), (∀ x ∈ l, x ∈ xs) → ∀ (i : Nat) (m d : Int), i + (codesX M l).length < len → 0 ≤ d → ∃ m', runF len pair i (codesX M l) (m, d, (M.length : Int)) = some (m', d + l.length, (M.length : Int)) := by
    intro l
    induction l with
    | nil => intro _ i m d _ _; exact ⟨m, by simp [codesX, runF]⟩
    | cons y l ihl =>
      intro hl i m d hi hd
      rw [codesX, List.length_append] at hi
      obtain ⟨m1, h1⟩ := ih y (hl y (by simp)) (hpm y (hl y (by simp))) (hall y (hl y (by simp))) i m d (by omega) hd
      obtain ⟨m2, h2⟩ := ihl (fun x hx => hl x (by simp [hx])) (i + (codeX M y).length) m1 (d + 1) (by omega) (by omega)
      refine ⟨m2, ?_⟩
      rw [codesX, runF_append, h1, Option.bind_some, h2]
      simp only [List.length_cons]
      push_cast
      rw [show d + 1 + (l.length : Int) = d + ((l.length : Int) + 1) by omega]
  rw [codeX, List.length_append] at hi
  simp only [List.length_cons, List.length_nil] at hi
  obtain ⟨m1, h1⟩ := main xs (fun _ h => h) i m d (by omega) hd
  have hk : 1 ≤ k ∧ k ≤ 22 ∧ (xs.length : Int) = argsI k := by
    have := hp.1
    unfold shpB kdB at this
    simp only [Bool.and_eq_true, decide_eq_true_eq, beq_iff_eq] at this
    exact ⟨this.1.1.1, this.1.1.2, this.1.2⟩
  obtain ⟨t1, t2, t3, t4⟩ := tkpt_kind hk.1 hk.2.1
  have hop := lastX_op M k v f t n
  have hnum := numB_last hp.1 (M := M) (pair := pair) (fun e => by have := f2 e; simpa [memB] using this) f3 f4
  obtain ⟨m2, h2⟩ := step_put (len := len) (pair := pair) (i := i + (codesX M xs).length) (x := lastX M k v f t n) (m := m1) (d := d + xs.length) (st := (M.length : Int)) (by omega) (by rw [hop]; omega) (by rw [hop]; omega) (by rw [hop]; exact t2) hnum (by rw [hop, t1]; omega)
  refine ⟨m2, ?_⟩
  rw [codeX, runF_append, h1, Option.bind_some, runF, h2]
  simp only [runF]
  rw [hop, t1, ← hk.2.2, show d + (xs.length : Int) + (1 - (xs.length : Int)) = d + 1 by omega]
end Xp
/-- One step of an instruction that ends a statement. -/
theorem step_end {len : Nat} {pair : Bool} {i : Nat} {x : Ins} {m st : Int} (hi : i + 1 < len) (h1 : 23 ≤ x.op) (h2 : x.op ≤ 25) (hn : numB x pair st = true) :
    ∃ m', stepM len pair i x (m, 1, st) = some (m', 0, if x.op = 23 then st + 1 else st) := by
  have hb : badM len pair i x st = false := by
    unfold badM
    rw [hn, decide_eq_false (by omega : ¬ x.op < 1), decide_eq_false (by omega : ¬ 26 < x.op), decide_eq_false (by omega : ¬ x.op = 26), decide_eq_false (by omega : ¬ i + 1 = len)]
    rfl
  have ht : tk x.op = 1 ∧ pt x.op = 0 := by
    rcases (by omega : x.op = 23 ∨ x.op = 24 ∨ x.op = 25) with h | h | h <;> rw [h] <;> decide
  have hc : badD x.op 1 = false := by
    unfold badD
    rw [ht.1, ht.2]
    rfl
  refine ⟨max m (1 + (pt x.op - tk x.op)), ?_⟩
  unfold stepM
  simp only [hb, hc, Bool.false_eq_true, if_false]
  rw [ht.1, ht.2]
  rfl
theorem run_ss {len : Nat} {pair : Bool} {known : Int → Bool} : ∀ (ss : List Stm) (M : List (List UInt8)), (∀ s ∈ ss, stmB s = true) → stmsE known pair M ss = 0 → ∀ (i : Nat) (m : Int), i + (codeSs M ss).length < len →
    ∃ m', runF len pair i (codeSs M ss) (m, 0, (M.length : Int)) = some (m', 0, ((M ++ namesOf ss).length : Int))
  | [], M, _, _, i, m, _ => ⟨m, by simp [codeSs, runF, namesOf]⟩
  | s :: ss, M, hb, he, i, m, hi => by
    rw [stmsE] at he
    split at he
    · rename_i h1; exact absurd he h1
    rename_i h1
    have hs0 : stmE known (memB M) pair s = 0 := by simpa using h1
    have hi0 : (s.ex.inf (memB M) pair).2 = 0 := by
      unfold stmE at hs0
      split at hs0
      · rename_i q; exact absurd hs0 q
      · rename_i q; simpa using q
    have hsb := hb s (by simp)
    unfold stmB at hsb
    simp only [Bool.and_eq_true, decide_eq_true_eq] at hsb
    obtain ⟨⟨hsh, _⟩, hpr⟩ := hsb
    rw [codeSs, List.length_append, List.length_append] at hi
    simp only [List.length_cons, List.length_nil] at hi
    obtain ⟨m1, r1⟩ := Xp.run_x (len := len) (pair := pair) (M := M) s.ex hpr hi0 i m 0 (by omega) (by omega)
    unfold shdB at hsh
    have hlast : 23 ≤ (lastS M s).op ∧ (lastS M s).op ≤ 25 ∧ numB (lastS M s) pair (M.length : Int) = true ∧ (if (lastS M s).op = 23 then (M.length : Int) + 1 else (M.length : Int)) = ((M ++ namesOf [s]).length : Int) := by
      unfold lastS
      by_cases k1 : s.kind = 1
      · rw [if_pos k1]
        refine ⟨by simp, by simp, by simp [numB], ?_⟩
        simp [namesOf, k1]
      rw [if_neg k1] at hsh ⊢
      have hn : namesOf [s] = [] := by simp [namesOf, k1]
      rw [hn, List.append_nil]
      by_cases k2 : s.kind = 2
      · rw [if_pos k2]
        exact ⟨by simp, by simp, rfl, rfl⟩
      rw [if_neg k2] at hsh ⊢
      split at hsh
      · simp only [Bool.and_eq_true] at hsh
        have ha : accB s.acc = true := hsh.2
        refine ⟨by simp, by simp, ?_, rfl⟩
        simp [numB, ha]
      · cases hsh
    obtain ⟨l1, l2, l3, l4⟩ := hlast
    obtain ⟨m2, r2⟩ := step_end (len := len) (pair := pair) (i := i + (s.ex.codeX M).length) (x := lastS M s) (m := m1) (st := (M.length : Int)) (by omega) l1 l2 l3
    obtain ⟨m3, r3⟩ := run_ss (len := len) (pair := pair) (known := known) ss (M ++ namesOf [s]) (fun x hx => hb x (by simp [hx])) he (i + (s.ex.codeX M ++ [lastS M s]).length) m2 (by rw [List.length_append]; simp only [List.length_cons, List.length_nil]; omega)
    refine ⟨m3, ?_⟩
    rw [codeSs, runF_append, runF_append, r1, Option.bind_some]
    simp only [runF, Int.zero_add]
    rw [r2]
    simp only [Option.bind_some]
    rw [l4, r3]
    congr 3
    unfold namesOf
    rw [List.append_assoc, ← List.map_append, ← List.filter_append]
    rfl
theorem codeR_valid {known : Int → Bool} {r : Rul} (hb : rulB r = true) (he : rulE known r = 0) : (meaR (codeR r)).2 = true := by
  unfold rulB at hb
  simp only [Bool.and_eq_true, decide_eq_true_eq, List.all_eq_true] at hb
  obtain ⟨⟨_, hto⟩, hst⟩ := hb
  have h0 : stmsE known r.pair [] r.stmts = 0 := by
    unfold rulE at he
    split at he
    · rename_i q; exact absurd he q
    · rename_i q; simpa using q
  rw [meaR_runF]
  unfold codeR
  simp only []
  refine ⟨by simp, ?_⟩
  obtain ⟨m1, r1⟩ := run_ss (len := (codeSs [] r.stmts ++ [(⟨26, r.to, 0⟩ : Ins)]).length) (pair := r.pair) (known := known) r.stmts [] hst h0 0 0 (by simp)
  have ha : accB r.to = true := hto
  rw [runF_append]
  have e0 : (([] : List (List UInt8)).length : Int) = 0 := rfl
  rw [e0] at r1
  rw [r1, Option.bind_some, runF]
  have hstep : stepM (codeSs [] r.stmts ++ [(⟨26, r.to, 0⟩ : Ins)]).length r.pair (0 + (codeSs [] r.stmts).length) ⟨26, r.to, 0⟩ (m1, 0, ((([] : List (List UInt8)) ++ namesOf r.stmts).length : Int)) = some (max m1 0, 0, ((([] : List (List UInt8)) ++ namesOf r.stmts).length : Int)) := by
    have hbm : badM (codeSs [] r.stmts ++ [(⟨26, r.to, 0⟩ : Ins)]).length r.pair (0 + (codeSs [] r.stmts).length) ⟨26, r.to, 0⟩ ((([] : List (List UInt8)) ++ namesOf r.stmts).length : Int) = false := by
      unfold badM
      have hn : numB ⟨26, r.to, 0⟩ r.pair ((([] : List (List UInt8)) ++ namesOf r.stmts).length : Int) = true := by simp [numB, ha]
      rw [hn]
      simp
    unfold stepM
    simp only [hbm, Bool.false_eq_true, if_false]
    rfl
  rw [hstep]
  exact ⟨_, rfl⟩
/-! ### Damaged codes -/
def effI (x : Ins) : Int := pt x.op - tk x.op
def effs (l : List Ins) : Int := (l.map effI).sum
theorem effs_append (a b : List Ins) : effs (a ++ b) = effs a + effs b := by unfold effs; rw [List.map_append, List.sum_append]
theorem runF_eff {len : Nat} {pair : Bool} : ∀ (l : List Ins) (i : Nat) (s s' : Int × Int × Int), runF len pair i l s = some s' → s'.2.1 = s.2.1 + effs l
  | [], i, s, s', h => by cases h; simp [effs]
  | x :: l, i, s, s', h => by
    rw [runF] at h
    cases hs : stepM len pair i x s with
    | none => rw [hs] at h; cases h
    | some s1 =>
      rw [hs] at h
      simp only [] at h
      have h1 := runF_eff l (i + 1) s1 s' h
      obtain ⟨_, _, _, rfl⟩ := step_in hs
      rw [h1]
      simp only [effs, List.map_cons, List.sum_cons, effI]
      omega
/-- The last instruction of a valid code, and no other one, is To; its values add up to nothing. -/
theorem valid_last {c : Code} (h : (meaR c).2 = true) : ∃ A x, c.ins = A ++ [x] ∧ x.op = 26 ∧ (∀ y ∈ A, y.op ≠ 26) ∧ effs c.ins = 0 := by
  obtain ⟨hne, s, hs⟩ := (meaR_runF c).1 h
  obtain ⟨A, x, hA⟩ : ∃ A x, c.ins = A ++ [x] := ⟨c.ins.dropLast, c.ins.getLast hne, (List.dropLast_concat_getLast hne).symm⟩
  have hlen : c.ins.length = A.length + 1 := by rw [hA]; simp
  rw [hA] at hs
  rw [← hA, hlen, hA] at hs
  rw [runF_append] at hs
  cases hr : runF (A.length + 1) c.pair 0 A (0, 0, 0) with
  | none => rw [hr] at hs; cases hs
  | some s1 =>
    rw [hr, Option.bind_some, runF] at hs
    cases ht : stepM (A.length + 1) c.pair (0 + A.length) x s1 with
    | none => rw [ht] at hs; cases hs
    | some s2 =>
      have hx : x.op = 26 ∧ s1.2.1 = 0 := by
        unfold stepM at ht
        split at ht
        · cases ht
        split at ht
        · cases ht
        rename_i h1 h2
        have h26 : x.op = 26 := by
          rw [Bool.not_eq_true] at h1
          unfold badM at h1
          simp only [Bool.or_eq_false_iff] at h1
          have := h1.1.2
          simpa using this
        rw [h26] at h2
        refine ⟨h26, ?_⟩
        rw [Bool.not_eq_true] at h2
        unfold badD at h2
        have e1 : tk 26 = 0 := by decide
        have e2 : pt 26 = 0 := by decide
        rw [e1, e2] at h2
        simp at h2
        omega
      have hno : ∀ (l : List Ins) (i : Nat) (s s' : Int × Int × Int), i + l.length ≤ A.length → runF (A.length + 1) c.pair i l s = some s' → ∀ y ∈ l, y.op ≠ 26 := by
        intro l
        induction l with
        | nil => intro _ _ _ _ _ y hy; cases hy
        | cons z l ih =>
          intro i s s' hi hrun y hy
          rw [runF] at hrun
          simp only [List.length_cons] at hi
          cases hz : stepM (A.length + 1) c.pair i z s with
          | none => rw [hz] at hrun; cases hrun
          | some s3 =>
            rw [hz] at hrun
            rcases List.mem_cons.1 hy with rfl | hy
            · intro h26
              unfold stepM at hz
              split at hz
              · cases hz
              rename_i h1
              rw [Bool.not_eq_true] at h1
              unfold badM at h1
              simp only [Bool.or_eq_false_iff] at h1
              have := h1.1.2
              rw [h26] at this
              simp at this
              omega
            · exact ih (i + 1) s3 s' (by omega) hrun y hy
      refine ⟨A, x, hA, hx.1, hno A 0 _ _ (by omega) hr, ?_⟩
      have he := runF_eff A 0 _ _ hr
      rw [hA, effs_append]
      have ex : effs [x] = 0 := by
        simp only [effs, List.map_cons, List.map_nil, List.sum_cons, List.sum_nil, effI, hx.1]; decide
      rw [ex]
      simp only [] at he
      omega
theorem damage {c : Code} {k : Nat} {x : Ins} (h : (meaR c).2 = true) (hx : c.ins[k]? = some x) (hd : tk x.op ≠ pt x.op ∨ k + 1 = c.ins.length) :
    (meaR ⟨c.name, c.pair, c.ins.take k ++ c.ins.drop (k + 1)⟩).2 = false := by
  rw [← Bool.not_eq_true]
  intro hv
  obtain ⟨A, y, hA, hy, hno, he⟩ := valid_last h
  obtain ⟨B, z, hB, hz, hnoB, heB⟩ := valid_last hv
  simp only [] at hB heB
  have hk := (List.getElem?_eq_some_iff.1 hx).1
  have hsplit : c.ins = c.ins.take k ++ x :: c.ins.drop (k + 1) := by
    have := List.take_append_drop k c.ins
    rw [List.drop_eq_getElem_cons hk] at this
    rw [(List.getElem?_eq_some_iff.1 hx).2] at this
    exact this.symm
  rcases hd with hd | hd
  · have h1 : effs c.ins = effs (c.ins.take k ++ c.ins.drop (k + 1)) + effI x := by
      conv => lhs; rw [hsplit]
      rw [effs_append, effs_append]
      simp only [effs, List.map_cons, List.sum_cons]
      omega
    unfold effI at h1
    omega
  · have hdr : c.ins.drop (k + 1) = [] := by rw [hd]; exact List.drop_length
    have htk : c.ins.take k = A := by
      have hl : k = A.length := by
        have : c.ins.length = A.length + 1 := by rw [hA]; simp
        omega
      rw [hl, hA]
      simp
    rw [hdr, List.append_nil, htk] at hB
    exact hno z (by rw [hB]; simp) hz
end Go.Proofs.YtckffbklaepmpaaDoor
