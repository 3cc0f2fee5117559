/- Chapter 34: folding keeps a code valid, its stack no larger; folding twice is folding once. -/
import Derived.Test.YtkapabohpfkcoaaDoorRff
set_option linter.unusedSimpArgs false
set_option linter.unusedVariables false
set_option maxHeartbeats 1000000
set_option maxRecDepth 8000
namespace Go.Proofs.YtkapabohpfkcoaaDoor
open E

abbrev S3 := Int × Int × Int
def stepN (pair : Bool) (x : Ins) (s : S3) : Option S3 :=
  if (decide (x.op < 1) || decide (26 < x.op) || !numB x pair s.2.2 || badD x.op s.2.1) = true then none
  else some (max s.1 (s.2.1 + (pt x.op - tk x.op)), s.2.1 + (pt x.op - tk x.op), if x.op = 23 then s.2.2 + 1 else s.2.2)
def runL (pair : Bool) (l : List Ins) : Option S3 := l.foldl (fun o x => o.bind (stepN pair x)) (some (0, 0, 0))
theorem runL_snoc (pair : Bool) (l : List Ins) (x : Ins) : runL pair (l ++ [x]) = (runL pair l).bind (stepN pair x) := by simp [runL]
theorem stepM_iff {len : Nat} {pair : Bool} {i : Nat} {x : Ins} {s s' : S3} : stepM len pair i x s = some s' ↔ stepN pair x s = some s' ∧ (x.op = 26 ↔ i + 1 = len) := by
  unfold stepM stepN badM
  by_cases h26 : (x.op = 26 ↔ i + 1 = len)
  · have : (decide (x.op = 26) != decide (i + 1 = len)) = false := by simp [h26]
    simp only [this, Bool.or_false, h26, and_true]
    generalize (decide (x.op < 1) || decide (26 < x.op)) = a
    generalize (!numB x pair s.2.2) = b
    generalize badD x.op s.2.1 = d
    cases a <;> cases b <;> cases d <;> simp
  · have : (decide (x.op = 26) != decide (i + 1 = len)) = true := by
      rw [bne_iff_ne, ne_eq, decide_eq_decide]; exact h26
    simp [this, h26]
theorem runM_iff {c : Code} : ∀ {k : Nat} {s : S3}, k ≤ c.ins.length → (runM c k = some s ↔ runL c.pair (c.ins.take k) = some s ∧ ∀ i x, i < k → c.ins[i]? = some x → (x.op = 26 ↔ i + 1 = c.ins.length))
  | 0, s, _ => by simp [runM, runL]
  | k + 1, s, hk => by
    have hx : c.ins[k]? = some (c.ins[k]'hk) := by simp
    generalize c.ins[k]'hk = x at hx
    rw [take_next hx, runL_snoc]
    constructor
    · intro h
      simp only [runM, hx] at h
      split at h
      · rename_i s0 x0 h1 h2
        cases h2
        obtain ⟨h3, h4⟩ := (runM_iff (Nat.le_of_succ_le hk)).1 h1
        obtain ⟨h5, h6⟩ := stepM_iff.1 h
        refine ⟨by rw [h3]; exact h5, fun i y hi hy => ?_⟩
        rcases Nat.lt_or_ge i k with h7 | h7
        · exact h4 i y h7 hy
        · have : i = k := by omega
          subst this
          rw [hx] at hy; cases hy
          exact h6
      · cases h
    · rintro ⟨h1, h2⟩
      cases h3 : runL c.pair (c.ins.take k) with
      | none => rw [h3] at h1; cases h1
      | some s0 =>
        rw [h3] at h1
        have h4 := (runM_iff (Nat.le_of_succ_le hk)).2 ⟨h3, fun i y hi hy => h2 i y (by omega) hy⟩
        simp only [runM, h4, hx]
        exact stepM_iff.2 ⟨h1, h2 k x (by omega) hx⟩
theorem mea_iff {c : Code} {n : Int} : meaR c = (n, true) ↔ c.ins ≠ [] ∧ ∃ d st, runL c.pair c.ins = some (n, d, st) ∧ ∀ i x, c.ins[i]? = some x → (x.op = 26 ↔ i + 1 = c.ins.length) := by
  unfold meaR
  constructor
  · intro h
    split at h
    · cases h
    · rename_i h0
      split at h
      · rename_i s hs
        obtain ⟨a, d, st⟩ := s
        simp only [Prod.mk.injEq, and_true] at h
        subst h
        obtain ⟨h1, h2⟩ := (runM_iff (Nat.le_refl _)).1 hs
        rw [List.take_length] at h1
        exact ⟨h0, d, st, h1, fun i x hx => h2 i x (lt_of_get hx) hx⟩
      · cases h
  · rintro ⟨h0, d, st, h1, h2⟩
    have := (runM_iff (c := c) (s := (n, d, st)) (Nat.le_refl _)).2 ⟨by rw [List.take_length]; exact h1, fun i x _ hx => h2 i x hx⟩
    rw [if_neg h0, this]

theorem finO_amt {n : Int} (h : (finO n).2 = true) : amtB (finO n).1 = true := by
  unfold finO at *
  split at h
  · rename_i h1; rw [if_pos h1]; exact h1
  · cases h
def Amt (r : Int × Bool) : Prop := r.2 = true → amtB r.1 = true
theorem amt_ite {p : Prop} [Decidable p] {a b : Int × Bool} (ha : Amt a) (hb : Amt b) : Amt (if p then a else b) := by
  split
  · exact ha
  · exact hb
theorem amt_fin (n : Int) : Amt (finO n) := finO_amt
theorem amt_no : Amt (0, false) := fun h => absurd h (by simp)
theorem amt_mul (x y : Int) : Amt (mulR x y) := by
  unfold mulR
  exact amt_ite (amt_fin _) (amt_ite amt_no (amt_fin _))
theorem opC_amt {op a x y : Int} (h : (opC op a x y).2 = true) : amtB (opC op a x y).1 = true := by
  rw [op_eq] at *
  revert h
  show Amt (opR op a x y)
  unfold opR opG
  repeat' first | exact amt_no | exact amt_fin _ | exact amt_mul _ _ | refine amt_ite ?_ ?_

/-- The steps of folding: what was there, and one instruction more, or a push in place of pushes. -/
theorem fold_cases (o : List Ins) (x : Ins) (h1 : 1 ≤ x.op) (h2 : x.op ≤ 26) : foldStep o x = o ++ [x] ∨ ∃ t : Nat, 1 ≤ t ∧ (t : Int) = tk x.op ∧ pt x.op = 1 ∧ t ≤ o.length ∧ (∀ y ∈ o.drop (o.length - t), y.op = 1) ∧ ∃ v, amtB v = true ∧ foldStep o x = o.take (o.length - t) ++ [⟨1, v, 0⟩] := by
  obtain ⟨n, hn⟩ : ∃ n : Nat, x.op = n := ⟨x.op.toNat, by omega⟩
  have hpk := pt_tk (n := n) (by omega)
  rw [← hn] at hpk
  unfold foldStep
  simp only []
  split
  · exact .inl rfl
  · rename_i hc
    unfold argsF
    simp only []
    split
    · rename_i h0
      split at h0
      · exact .inl rfl
      · cases h0
    · rename_i a b h0
      split at h0
      · cases h0
      · rename_i hany
        split
        · rename_i hop
          refine .inr ⟨(tk x.op).toNat, by omega, by omega, by omega, by omega, fun y hy => ?_, _, opC_amt hop, rfl⟩
          have h9 : ¬ ∃ y ∈ o.drop (o.length - (tk x.op).toNat), (y.op != 1) = true := fun ⟨y, h3, h4⟩ => hany (List.any_eq_true.2 ⟨y, h3, h4⟩)
          have := fun h4 => h9 ⟨y, hy, h4⟩
          simpa using this
        · exact .inl rfl

def okI (l : List Ins) : Prop := ∀ y ∈ l, 1 ≤ y.op ∧ y.op ≤ 26
theorem okI_snoc {l : List Ins} {x : Ins} : okI (l ++ [x]) ↔ okI l ∧ 1 ≤ x.op ∧ x.op ≤ 26 := by
  constructor
  · intro h; exact ⟨fun y hy => h y (by simp [hy]), h x (by simp)⟩
  · rintro ⟨h1, h2⟩ y hy
    rcases List.mem_append.1 hy with h | h
    · exact h1 y h
    · simp at h; subst h; exact h2
theorem snoc_ind {α : Type} {P : List α → Prop} (h0 : P []) (h1 : ∀ l x, P l → P (l ++ [x])) : ∀ l, P l := by
  intro l
  rw [← List.reverse_reverse l]
  induction l.reverse with
  | nil => exact h0
  | cons x l ih => rw [List.reverse_cons]; exact h1 _ _ ih
theorem foldC_ok {l : List Ins} : okI l → okI (foldC l) := by
  refine snoc_ind (P := fun l => okI l → okI (foldC l)) (fun h => h) (fun l x ih h => ?_) l
  obtain ⟨h1, h2, h3⟩ := okI_snoc.1 h
  rw [foldC_snoc]
  rcases fold_cases (foldC l) x h2 h3 with e | ⟨t, _, _, _, _, _, v, _, e⟩
  · rw [e]; exact okI_snoc.2 ⟨ih h1, h2, h3⟩
  · rw [e]; exact okI_snoc.2 ⟨fun y hy => ih h1 y (List.mem_of_mem_take hy), Int.le_refl 1, by show (1 : Int) ≤ 26; decide⟩

/-! ### folding twice -/
theorem foldC_le (l : List Ins) : (foldC l).length ≤ l.length := foldC_length l
theorem norm_take {o : List Ins} (ho : okI o) (h : foldC o = o) (m : Nat) : foldC (o.take m) = o.take m := by
  have key : ∀ l : List Ins, okI l → (foldC l).length = l.length → foldC l = l := by
    refine snoc_ind (fun _ _ => rfl) (fun l x ih hok hl => ?_)
    obtain ⟨h1, h2, h3⟩ := okI_snoc.1 hok
    rw [foldC_snoc] at hl ⊢
    have hle := foldC_le l
    rcases fold_cases (foldC l) x h2 h3 with e | ⟨t, t1, _, _, t2, _, v, _, e⟩
    · rw [e] at hl ⊢
      simp only [List.length_append, List.length_cons, List.length_nil] at hl
      rw [ih h1 (by omega)]
    · rw [e] at hl
      simp only [List.length_append, List.length_cons, List.length_nil, List.length_take] at hl
      omega
  have hlen : ∀ l r : List Ins, (foldC (l ++ r)).length ≤ (foldC l).length + r.length := by
    intro l
    refine snoc_ind (by simp) (fun r x ih => ?_)
    rw [← List.append_assoc, foldC_snoc]
    have := foldStep_length (foldC (l ++ r)) x
    simp only [List.length_append, List.length_cons, List.length_nil] at *
    omega
  refine key _ (fun y hy => ho y (List.mem_of_mem_take hy)) ?_
  have h1 := hlen (o.take m) (o.drop m)
  rw [List.take_append_drop, h] at h1
  have h2 := foldC_le (o.take m)
  have h3 : o.length = (o.take m).length + (o.drop m).length := by rw [← List.length_append, List.take_append_drop]
  omega
theorem push_step (o : List Ins) (v : Int) : foldStep o ⟨1, v, 0⟩ = o ++ [⟨1, v, 0⟩] := by
  unfold foldStep
  simp only []
  rw [if_pos (.inr (.inl (by decide)))]
theorem foldC_idem {l : List Ins} : okI l → foldC (foldC l) = foldC l := by
  refine snoc_ind (P := fun l => okI l → foldC (foldC l) = foldC l) (fun _ => rfl) (fun l x ih h => ?_) l
  obtain ⟨h1, h2, h3⟩ := okI_snoc.1 h
  have ih := ih h1
  rw [foldC_snoc]
  rcases fold_cases (foldC l) x h2 h3 with e | ⟨t, _, _, _, _, _, v, _, e⟩
  · rw [e, foldC_snoc, ih, e]
  · rw [e, foldC_snoc, norm_take (foldC_ok h1) ih, push_step]

/-! ### a folded code is valid -/
theorem runL_take {pair : Bool} : ∀ {r l : List Ins} {s : S3}, runL pair (l ++ r) = some s → ∃ s0, runL pair l = some s0 := by
  intro r
  refine snoc_ind (P := fun r => ∀ {l : List Ins} {s : S3}, runL pair (l ++ r) = some s → ∃ s0, runL pair l = some s0) (fun {l s} h => ⟨s, by simpa using h⟩) (fun r x ih l s h => ?_) r
  rw [← List.append_assoc, runL_snoc] at h
  cases h1 : runL pair (l ++ r) with
  | none => rw [h1] at h; cases h
  | some s1 => exact ih h1
theorem stepN_push {pair : Bool} {x : Ins} {s s' : S3} (hx : x.op = 1) (h : stepN pair x s = some s') : s' = (max s.1 (s.2.1 + 1), s.2.1 + 1, s.2.2) := by
  unfold stepN at h
  split at h
  · cases h
  · rw [hx] at h
    have e : pt 1 - tk 1 = 1 := by decide
    rw [e, if_neg (by decide)] at h
    exact (Option.some.inj h).symm
theorem runL_pushes {pair : Bool} : ∀ (r : List Ins) (l : List Ins) (s s' : S3), (∀ y ∈ r, y.op = 1) → runL pair l = some s → runL pair (l ++ r) = some s' → s'.2.1 = s.2.1 + r.length ∧ s'.2.2 = s.2.2 ∧ s.1 ≤ s'.1 ∧ (0 < r.length → s.2.1 + r.length ≤ s'.1) := by
  intro r
  refine snoc_ind (P := fun r => ∀ (l : List Ins) (s s' : S3), (∀ y ∈ r, y.op = 1) → runL pair l = some s → runL pair (l ++ r) = some s' → s'.2.1 = s.2.1 + r.length ∧ s'.2.2 = s.2.2 ∧ s.1 ≤ s'.1 ∧ (0 < r.length → s.2.1 + r.length ≤ s'.1)) (fun l s s' _ h1 h2 => ?_) (fun r x ih l s s' hr h1 h2 => ?_) r
  · simp only [List.append_nil] at h2
    rw [h1] at h2; cases h2
    simp
  · rw [← List.append_assoc, runL_snoc] at h2
    cases h3 : runL pair (l ++ r) with
    | none => rw [h3] at h2; cases h2
    | some s1 =>
      rw [h3] at h2
      have h4 := ih l s s1 (fun y hy => hr y (by simp [hy])) h1 h3
      have h5 := stepN_push (hr x (by simp)) h2
      subst h5
      simp only [List.length_append, List.length_cons, List.length_nil] at *
      refine ⟨?_, h4.2.1, by omega, fun _ => ?_⟩ <;> push_cast <;> omega
theorem runL_bd {pair : Bool} {l : List Ins} : ∀ {s : S3}, runL pair l = some s → okI l → 0 ≤ s.2.1 := by
  refine snoc_ind (P := fun l => ∀ {s : S3}, runL pair l = some s → okI l → 0 ≤ s.2.1) (fun {s} h _ => by cases h; simp) (fun l x ih s h hok => ?_) l
  obtain ⟨h1, h2, h3⟩ := okI_snoc.1 hok
  rw [runL_snoc] at h
  cases hl : runL pair l with
  | none => rw [hl] at h; cases h
  | some s0 =>
    rw [hl] at h
    have i0 := ih hl h1
    simp only [Option.bind_some, stepN] at h
    split at h
    · cases h
    rename_i hc
    simp only [Bool.or_eq_true, not_or, Bool.not_eq_true] at hc
    have hb := hc.2
    simp only [badD, Bool.or_eq_false_iff, decide_eq_false_iff_not] at hb
    obtain ⟨n, hn⟩ : ∃ n : Nat, x.op = n := ⟨x.op.toNat, by omega⟩
    have hpk := pt_tk (n := n) (by omega)
    rw [← hn] at hpk
    cases h
    simp only []
    omega
theorem fold_run {pair : Bool} {l : List Ins} : ∀ {sz d st : Int}, runL pair l = some (sz, d, st) → okI l → ∃ sz', runL pair (foldC l) = some (sz', d, st) ∧ sz' ≤ sz := by
  refine snoc_ind (P := fun l => ∀ {sz d st : Int}, runL pair l = some (sz, d, st) → okI l → ∃ sz', runL pair (foldC l) = some (sz', d, st) ∧ sz' ≤ sz) (fun {sz d st} h _ => ⟨sz, h, Int.le_refl _⟩) (fun l x ih sz d st h hok => ?_) l
  obtain ⟨h1, h2, h3⟩ := okI_snoc.1 hok
  rw [runL_snoc] at h
  cases hl : runL pair l with
  | none => rw [hl] at h; cases h
  | some s0 =>
    obtain ⟨sz0, d0, st0⟩ := s0
    rw [hl] at h
    simp only [Option.bind_some] at h
    obtain ⟨sz1, hr, hle⟩ := ih hl h1
    rw [foldC_snoc]
    unfold stepN at h
    split at h
    · cases h
    rename_i hcond
    simp only [Option.some.injEq, Prod.mk.injEq] at h
    obtain ⟨e1, e2, e3⟩ := h
    rcases fold_cases (foldC l) x h2 h3 with e | ⟨t, t1, t2, t3, t4, t5, v, hv, e⟩
    · rw [e, runL_snoc, hr]
      refine ⟨max sz1 (d0 + (pt x.op - tk x.op)), ?_, by omega⟩
      simp only [Option.bind_some, stepN]
      simp only [] at hcond
      rw [if_neg hcond, e2, e3]
    · rw [e, runL_snoc]
      have hsp : (foldC l).take ((foldC l).length - t) ++ (foldC l).drop ((foldC l).length - t) = foldC l := List.take_append_drop _ _
      rw [← hsp] at hr
      obtain ⟨⟨szA, dA, stA⟩, hA⟩ := runL_take hr
      have hp := runL_pushes _ _ _ _ t5 hA hr
      simp only [List.length_drop] at hp
      obtain ⟨p1, p2, p3, p4⟩ := hp
      rw [hA]
      have h23 : x.op ≠ 23 := fun h => by rw [h] at t3; exact absurd t3 (by decide)
      rw [if_neg h23] at e3
      simp only [Option.bind_some, stepN]
      have e4 : pt 1 - tk 1 = 1 := by decide
      have hnum : numB ⟨1, v, 0⟩ pair stA = true := by simp [numB, hv]
      have hbd : badD 1 dA = false := by
        have hd : 0 ≤ dA := runL_bd hA (fun y hy => foldC_ok h1 y (List.mem_of_mem_take hy))
        have hp1 : pt 1 = 1 := by decide
        have ht1 : tk 1 = 0 := by decide
        simp [badD, hp1, ht1, hd]
      rw [if_neg (by simp [hnum, hbd]), e4, if_neg (by decide)]
      refine ⟨max szA (dA + 1), ?_, ?_⟩
      · have : dA + 1 = d := by omega
        rw [this, ← p2, e3]
      · have := p4 (by omega)
        omega

theorem foldC_noto {l : List Ins} : okI l → (∀ y ∈ l, y.op ≠ 26) → ∀ y ∈ foldC l, y.op ≠ 26 := by
  refine snoc_ind (P := fun l => okI l → (∀ y ∈ l, y.op ≠ 26) → ∀ y ∈ foldC l, y.op ≠ 26) (fun _ h => h) (fun l x ih h hn => ?_) l
  obtain ⟨h1, h2, h3⟩ := okI_snoc.1 h
  have i0 := ih h1 (fun y hy => hn y (by simp [hy]))
  have hx := hn x (by simp)
  rw [foldC_snoc]
  rcases fold_cases (foldC l) x h2 h3 with e | ⟨t, _, _, _, _, _, v, _, e⟩
  · rw [e]
    intro y hy
    rcases List.mem_append.1 hy with h | h
    · exact i0 y h
    · simp at h; subst h; exact hx
  · rw [e]
    intro y hy
    rcases List.mem_append.1 hy with h | h
    · exact i0 y (List.mem_of_mem_take h)
    · simp at h; subst h; simp
/-- A valid code: what its folding is. -/
theorem fold_valid {c : Code} {n : Int} (h : meaR c = (n, true)) : okI c.ins ∧ ∃ m, meaR ⟨c.name, c.pair, foldC c.ins⟩ = (m, true) ∧ m ≤ n := by
  obtain ⟨h0, d, st, h1, h2⟩ := mea_iff.1 h
  have hok : okI c.ins := fun y hy => by
    obtain ⟨k, hk, rfl⟩ := List.mem_iff_getElem.1 hy
    have hx : c.ins[k]? = some c.ins[k] := by simp [hk]
    exact mea_ops (c := c) (by rw [h]) hx
  obtain ⟨m, hm, hle⟩ := fold_run h1 hok
  refine ⟨hok, m, mea_iff.2 ⟨?_, d, st, hm, ?_⟩, hle⟩
  all_goals
    obtain ⟨l, x, e⟩ : ∃ l x, c.ins = l ++ [x] := ⟨_, _, (List.dropLast_concat_getLast h0).symm⟩
    obtain ⟨cn, pair, ins⟩ := c
    simp only [] at *
    subst e
    obtain ⟨k1, k2, k3⟩ := okI_snoc.1 hok
    have hx26 : x.op = 26 := (h2 l.length x (by simp)).2 (by simp)
    have hno : ∀ y ∈ l, y.op ≠ 26 := fun y hy h26 => by
      obtain ⟨k, hk, rfl⟩ := List.mem_iff_getElem.1 hy
      have := (h2 k l[k] (by rw [List.getElem?_append_left hk]; simp [hk])).1 h26
      simp at this
      omega
    have hno2 := foldC_noto k1 hno
    have e2 : foldC (l ++ [x]) = foldC l ++ [x] := by
      rw [foldC_snoc]
      rcases fold_cases (foldC l) x k2 k3 with e | ⟨t, _, _, h3, _⟩
      · exact e
      · rw [hx26] at h3; exact absurd h3 (by decide)
    rw [e2]
  · simp
  · intro i y hy
    rcases Nat.lt_or_ge i (foldC l).length with hi | hi
    · rw [List.getElem?_append_left hi] at hy
      have := hno2 y (List.mem_of_getElem? hy)
      simp only [this, List.length_append, List.length_cons, List.length_nil, false_iff]
      omega
    · rw [List.getElem?_append_right hi] at hy
      have hi0 : i - (foldC l).length = 0 := by
        have := lt_of_get hy
        simp at this
        omega
      rw [hi0] at hy
      simp at hy
      subst hy
      simp only [hx26, List.length_append, List.length_cons, List.length_nil, true_iff]
      omega
end Go.Proofs.YtkapabohpfkcoaaDoor
