/- The engine, part 11: equality of bools, structs and arrays. -/
import Derived.Test.YthfnaaeddlnckaaEng10
import Derived.ChangeKeysEq
set_option linter.unusedSimpArgs false
set_option linter.unusedVariables false
namespace Go.Proofs.Ythfnaaeddlnckaa
namespace E
section
variable {P : Program} {o : Oper} {ρ : Operand → Value} {g : Gh} {S : St} {w : World} {K : V → St → Prop}

def mkv (a : Bool) (cs : Array Value) : Value := if a then .agg cs else cs.getD 0 undef

def CellsT (I : Nat → Nat → Option Value) (cs : Array Value) (xs : List T) : Prop := cs.size = xs.length ∧ ∀ j, j < xs.length → RelT I (xs.getD j .nilp) (cs.getD j undef)

theorem eqC_len : ∀ {ks : List Nat} {xs ys : List T} {r : Bool}, eqC ks xs ys = some r → xs.length = ks.length ∧ ys.length = ks.length
  | [], xs, ys, r, h => by cases xs <;> cases ys <;> simp_all [eqC]
  | k :: ks, xs, ys, r, h => by
    have ih := fun (xs ys : List T) (r : Bool) (h : eqC ks xs ys = some r) => eqC_len h
    cases xs with
    | nil => simp [eqC] at h
    | cons x xs =>
    cases ys with
    | nil => unfold eqC at h; split at h <;> simp_all
    | cons y ys =>
      have key : ∀ q, eqC ks xs ys = some q → (x :: xs).length = (k :: ks).length ∧ (y :: ys).length = (k :: ks).length := fun q hq => by
        have := ih xs ys q hq
        simp [this.1, this.2]
      cases hq : eqC ks xs ys with
      | some q => exact key q hq
      | none =>
        exfalso
        unfold eqC at h
        split at h <;> simp_all

theorem eqC_one {k : Nat} {xs ys : List T} {r : Bool} (h : eqC [k] xs ys = some r) :
    (∃ a b, k = 0 ∧ xs = [.bool a] ∧ ys = [.bool b] ∧ r = (a == b)) ∨ (∃ q a b, k = 1 ∧ xs = [.int q a] ∧ ys = [.int q b] ∧ r = (a == b)) ∨ (∃ a b, k = 2 ∧ xs = [.str a] ∧ ys = [.str b] ∧ r = (a == b)) := by
  obtain ⟨e1, e2⟩ := eqC_len h
  match xs, ys, e1, e2 with
  | [x], [y], _, _ =>
    match k, h with
    | 0, h => cases x <;> cases y <;> simp [eqC] at h; exact .inl ⟨_, _, rfl, rfl, rfl, h.symm⟩
    | 1, h => cases x <;> cases y <;> simp [eqC] at h; exact .inr (.inl ⟨_, _, _, rfl, rfl, by rw [h.1], h.2.symm⟩)
    | 2, h => cases x <;> cases y <;> simp [eqC] at h; exact .inr (.inr ⟨_, _, rfl, rfl, rfl, h.symm⟩)
    | k + 3, h => cases x <;> cases y <;> simp [eqC] at h

theorem eqC_app : ∀ (k1 : List Nat) {k2 : List Nat} {xs ys : List T} {r : Bool}, eqC (k1 ++ k2) xs ys = some r →
    ∃ r1 r2, eqC k1 (xs.take k1.length) (ys.take k1.length) = some r1 ∧ eqC k2 (xs.drop k1.length) (ys.drop k1.length) = some r2 ∧ r = (r1 && r2)
  | [], k2, xs, ys, r, h => ⟨true, r, by simp [eqC], by simpa using h, by simp⟩
  | k :: k1, k2, xs, ys, r, h => by
    have ih := fun (xs ys : List T) (r : Bool) (h : eqC (k1 ++ k2) xs ys = some r) => eqC_app k1 h
    cases xs with
    | nil => simp [eqC] at h
    | cons x xs =>
    cases ys with
    | nil => simp only [List.cons_append] at h; unfold eqC at h; split at h <;> simp_all
    | cons y ys =>
      simp only [List.cons_append] at h
      unfold eqC at h
      split at h <;> try (cases h; done)
      · simp_all
      · rename_i ks a xs' b ys' e1 e2 e3
        simp only [List.cons.injEq] at e1 e2 e3
        obtain ⟨rfl, rfl⟩ := e1
        obtain ⟨rfl, rfl⟩ := e2
        obtain ⟨rfl, rfl⟩ := e3
        cases hq : eqC (k1 ++ k2) xs ys with
        | none => simp [hq] at h
        | some q =>
          simp [hq] at h
          obtain ⟨r1, r2, h1, h2, h3⟩ := ih xs ys q hq
          exact ⟨(a == b) && r1, r2, by simp [eqC, h1], by simpa using h2, by rw [← h, h3, Bool.and_assoc]⟩
      · rename_i ks ka a xs' kb b ys' e1 e2 e3
        simp only [List.cons.injEq] at e1 e2 e3
        obtain ⟨rfl, rfl⟩ := e1
        obtain ⟨rfl, rfl⟩ := e2
        obtain ⟨rfl, rfl⟩ := e3
        split at h
        · rename_i hk
          cases hq : eqC (k1 ++ k2) xs ys with
          | none => simp [hq] at h
          | some q =>
            simp [hq] at h
            obtain ⟨r1, r2, h1, h2, h3⟩ := ih xs ys q hq
            exact ⟨(a == b) && r1, r2, by simp [eqC, h1, hk], by simpa using h2, by rw [← h, h3, Bool.and_assoc]⟩
        · cases h
      · rename_i ks a xs' b ys' e1 e2 e3
        simp only [List.cons.injEq] at e1 e2 e3
        obtain ⟨rfl, rfl⟩ := e1
        obtain ⟨rfl, rfl⟩ := e2
        obtain ⟨rfl, rfl⟩ := e3
        cases hq : eqC (k1 ++ k2) xs ys with
        | none => simp [hq] at h
        | some q =>
          simp [hq] at h
          obtain ⟨r1, r2, h1, h2, h3⟩ := ih xs ys q hq
          exact ⟨(a == b) && r1, r2, by simp [eqC, h1], by simpa using h2, by rw [← h, h3, Bool.and_assoc]⟩

theorem CellsT.part {I : Nat → Nat → Option Value} {cs : Array Value} {xs : List T} (h : CellsT I cs xs) (off n : Nat) (hle : off + n ≤ xs.length) :
    CellsT I ((List.range n).map fun j => cs.getD (off + j) undef).toArray ((xs.drop off).take n) := by
  refine ⟨by simp; omega, fun j hj => ?_⟩
  have hjn : j < n := by simp at hj; omega
  have := h.2 (off + j) (by omega)
  simpa [List.getD_eq_getElem?_getD, List.getElem?_take, List.getElem?_drop, hjn] using this

theorem run_part_mkv {t : TypeId} {n : Nat} {a : Bool} (hs : shapeOf P t = some (n, a)) (vs : Array Value) (off : Nat) (h : off + n ≤ vs.size) :
    (part t vs off).run P w = .ok (mkv a ((List.range n).map fun j => vs.getD (off + j) undef).toArray) w := by
  rw [run_part hs vs off h]
  obtain ⟨i, d, hi, hd, rfl, rfl, hor⟩ := shapeOf_spec hs
  cases ha : aggD d
  · rw [ha] at hor
    have h1 : i.size = 1 := by simpa using hor
    simp [mkv, h1]
  · simp [mkv]

theorem CellsT.one {I : Nat → Nat → Option Value} {cs : Array Value} {x : T} (h : CellsT I cs [x]) : RelT I x (cs.getD 0 undef) := by simpa using h.2 0 (by simp)

theorem run_eqFs (D : Nat) (rec : TypeId → Option (List Nat))
    (ih : ∀ (t : TypeId) (ks : List Nat), rec t = some ks → ∀ (a : Bool), (P.underlying t).map aggD = some a → ∀ (c1 c2 : Array Value) (xs ys : List T) (r : Bool), CellsT g.I c1 xs → CellsT g.I c2 ys → eqC ks xs ys = some r → (Op.equalIn D t (mkv a c1) (mkv a c2)).run P w = .ok r w)
    (c1 c2 : Array Value) (xs ys : List T) (h1 : CellsT g.I c1 xs) (h2 : CellsT g.I c2 ys) : ∀ (fs : List Field) (off : Nat) (ks : List Nat) (r : Bool), off ≤ xs.length ∧ off ≤ ys.length → eqFs P rec fs off = some ks → eqC ks (xs.drop off) (ys.drop off) = some r → (Op.eqFields D c1 c2 fs).run P w = .ok r w
  | [], off, ks, r, _, h, hr => by
    simp [eqFs] at h
    subst h
    cases hx : xs.drop off <;> cases hy : ys.drop off <;> simp [hx, hy, eqC] at hr
    subst hr
    simp [Op.eqFields]
  | f :: fs, off, ks, r, ho, h, hr => by
    simp only [eqFs] at h
    split at h
    · rename_i k1 n a' hk hs
      split at h
      · rename_i hc
        obtain ⟨c1', c2', c3⟩ := hc
        cases hq : eqFs P rec fs (off + n) with
        | none => simp [hq] at h
        | some k2 =>
          simp [hq] at h
          subst h
          obtain ⟨r1, r2, e1, e2, rfl⟩ := eqC_app k1 hr
          obtain ⟨i, d, hi, hd, hn, ha, hor⟩ := shapeOf_spec hs
          have hl := eqC_len e1
          have hlx : off + n ≤ xs.length ∧ off + n ≤ ys.length := by
            obtain ⟨a1, a2⟩ := hl
            rw [c3] at a1 a2
            simp at a1 a2
            omega
          have p1 := run_part_mkv (P := P) (w := w) hs c1 off (by rw [h1.1]; exact hlx.1)
          have p2 := run_part_mkv (P := P) (w := w) hs c2 off (by rw [h2.1]; exact hlx.2)
          rw [c3] at e1 e2
          have hih := ih f.type k1 hk a' (by simp [hd, ha]) _ _ _ _ r1 (h1.part off n hlx.1) (h2.part off n hlx.2) e1
          have hrest := run_eqFs D rec ih c1 c2 xs ys h1 h2 fs (off + n) k2 r2 hlx hq (by simpa [List.drop_drop] using e2)
          rw [← c2'] at p1 p2
          simp only [Op.eqFields, c1', ne_eq, not_false_eq_true, if_true, Sem.run_bind, p1, p2, Result.andThen_ok]
          rw [← c2'] at hih
          rw [hih]
          cases r1
          · simp
          · simpa using hrest
      · cases h
    · cases h

theorem run_eqItems (D : Nat) (e : TypeId) (k : Nat) (a : Bool) (ks : List Nat) (hs : shapeOf P e = some (k, a)) (hk : ks.length = k)
    (ih : ∀ (c1 c2 : Array Value) (xs ys : List T) (r : Bool), CellsT g.I c1 xs → CellsT g.I c2 ys → eqC ks xs ys = some r → (Op.equalIn D e (mkv a c1) (mkv a c2)).run P w = .ok r w)
    (c1 c2 : Array Value) (xs ys : List T) (h1 : CellsT g.I c1 xs) (h2 : CellsT g.I c2 ys) : ∀ (m i : Nat) (r : Bool), i * k ≤ xs.length ∧ i * k ≤ ys.length → eqC (List.replicate m ks).flatten (xs.drop (i * k)) (ys.drop (i * k)) = some r →
      (Op.eqItems D e k c1 c2 (List.range' i m)).run P w = .ok r w
  | 0, i, r, _, hr => by
    cases hx : xs.drop (i * k) <;> cases hy : ys.drop (i * k) <;> simp [hx, hy, eqC] at hr
    subst hr
    simp [Op.eqItems]
  | m + 1, i, r, ho, hr => by
    rw [List.replicate_succ, List.flatten_cons] at hr
    obtain ⟨r1, r2, e1, e2, rfl⟩ := eqC_app ks hr
    have hl := eqC_len e1
    have hlx : i * k + k ≤ xs.length ∧ i * k + k ≤ ys.length := by
      obtain ⟨a1, a2⟩ := hl
      rw [hk] at a1 a2
      simp at a1 a2
      omega
    have p1 := run_part_mkv (P := P) (w := w) hs c1 (i * k) (by rw [h1.1]; exact hlx.1)
    have p2 := run_part_mkv (P := P) (w := w) hs c2 (i * k) (by rw [h2.1]; exact hlx.2)
    rw [hk] at e1 e2
    have hih := ih _ _ _ _ r1 (h1.part (i * k) k hlx.1) (h2.part (i * k) k hlx.2) e1
    have hrest := run_eqItems D e k a ks hs hk ih c1 c2 xs ys h1 h2 m (i + 1) r2 (by rw [Nat.add_mul]; omega) (by rw [Nat.add_mul, Nat.one_mul]; simpa [List.drop_drop] using e2)
    rw [List.range'_succ]
    simp only [Op.eqItems, Sem.run_bind, p1, p2, Result.andThen_ok, hih]
    cases r1
    · simp
    · simpa using hrest

theorem run_eqIn : ∀ (d : Nat) (t : TypeId) (ks : List Nat), eqCells P d t = some ks → ∀ (D : Nat), d ≤ D → ∀ (a : Bool), (P.underlying t).map aggD = some a →
    ∀ (c1 c2 : Array Value) (xs ys : List T) (r : Bool), CellsT g.I c1 xs → CellsT g.I c2 ys → eqC ks xs ys = some r → (Op.equalIn D t (mkv a c1) (mkv a c2)).run P w = .ok r w
  | 0, t, ks, h, _, _, _, _, _, _, _, _, _, _, _, _ => by simp [eqCells] at h
  | d + 1, t, ks, h, D, hD, a, ha, c1, c2, xs, ys, r, h1, h2, hr => by
    obtain ⟨D, rfl⟩ : ∃ D', D = D' + 1 := ⟨D - 1, by omega⟩
    simp only [eqCells] at h
    split at h
    · rename_i hu
      simp only [Option.some.injEq] at h; subst h
      simp [hu, aggD] at ha; subst ha
      rcases eqC_one hr with ⟨x, y, _, rfl, rfl, rfl⟩ | ⟨_, _, _, h0, _⟩ | ⟨_, _, h0, _⟩
      · have b1 := h1.one; have b2 := h2.one
        simp only [mkv, Bool.false_eq_true, if_false]
        generalize c1.getD 0 undef = u at *
        generalize c2.getD 0 undef = v at *
        cases b1; cases b2
        simp [Op.equalIn, run_underlying hu]
      · cases h0
      · cases h0
    · rename_i hu
      simp only [Option.some.injEq] at h; subst h
      simp [hu, aggD] at ha; subst ha
      rcases eqC_one hr with ⟨_, _, h0, _⟩ | ⟨q, x, y, _, rfl, rfl, rfl⟩ | ⟨_, _, h0, _⟩
      · cases h0
      · have b1 := h1.one; have b2 := h2.one
        simp only [mkv, Bool.false_eq_true, if_false]
        generalize c1.getD 0 undef = u at *
        generalize c2.getD 0 undef = v at *
        cases b1; cases b2
        simp [Op.equalIn, run_underlying hu]
      · cases h0
    · rename_i hu
      simp only [Option.some.injEq] at h; subst h
      simp [hu, aggD] at ha; subst ha
      rcases eqC_one hr with ⟨_, _, h0, _⟩ | ⟨_, _, _, h0, _⟩ | ⟨x, y, _, rfl, rfl, rfl⟩
      · cases h0
      · cases h0
      · have b1 := h1.one; have b2 := h2.one
        simp only [mkv, Bool.false_eq_true, if_false]
        generalize c1.getD 0 undef = u at *
        generalize c2.getD 0 undef = v at *
        cases b1; cases b2
        simp [Op.equalIn, run_underlying hu, beq_toListBytes, ByteArray.toList_eq]
    · rename_i fs hu
      split at h
      · cases h
      · rename_i hst
        simp [hu, aggD] at ha; subst ha
        have hf : P.underlying t = some (.struct (P.fieldsOf t)) := by simp [Program.fieldsOf, hu]
        have hfs : P.fieldsOf t = fs := by simp [Program.fieldsOf, hu]
        simp only [mkv, if_true]
        rw [run_equalIn_struct w D t c1 c2 hf (by simpa using hst), hfs]
        exact run_eqFs D (eqCells P d) (fun t ks hk a ha c1 c2 xs ys r h1 h2 hr => run_eqIn d t ks hk D (by omega) a ha c1 c2 xs ys r h1 h2 hr) c1 c2 xs ys h1 h2 fs.toList 0 ks r (by simp) h (by simpa using hr)
    · rename_i len e hu
      split at h
      · rename_i k1 k a' hk hs
        split at h
        · rename_i hkk
          simp only [Option.some.injEq] at h; subst h
          simp [hu, aggD] at ha; subst ha
          obtain ⟨i, dd, hi, hd, hn, hda, hor⟩ := shapeOf_spec hs
          simp only [mkv, if_true]
          rw [run_equalIn_array w D c1 c2 hu hi, List.range_eq_range', show P.cellsOf e = k by simp [Program.cellsOf, hi, hn]]
          exact run_eqItems D e k a' k1 hs hkk (fun c1 c2 xs ys r h1 h2 hr => run_eqIn d e k1 hk D (by omega) a' (by simp [hd, hda]) c1 c2 xs ys r h1 h2 hr) c1 c2 xs ys h1 h2 len 0 r (by simp) (by simpa using hr)
        · cases h
      · cases h
    · cases h

theorem cells_T {x : V} {v : Value} {xs : List T} (h : RelV g S.toks x v) (ht : toTs (cellsV x) = some xs) : CellsT g.I v.cells xs ∧ (isAggV x = true ∨ cellB x = true) := by
  obtain ⟨t1, t2⟩ := toTs_spec ht
  have hb : isAggV x = true ∨ cellB x = true := by
    cases x <;> simp [isAggV, cellB] <;> simp [cellsV, toTs, toT] at ht
  obtain ⟨c1, c2⟩ := cells_rel h hb
  exact ⟨⟨by rw [c1, t1], fun j hj => toT_rel (c2 j (by omega)) (t2 j (by omega))⟩, hb⟩

theorem val_mkv {x : V} {v : Value} (h : RelV g S.toks x v) (hb : isAggV x = true ∨ cellB x = true) : v = mkv (isAggV x) v.cells := by
  have one : v.cells = #[v] → v = mkv false v.cells := fun h => by rw [h]; rfl
  cases h with
  | und => simp [isAggV, cellB] at hb
  | junk v => simp [isAggV, cellB] at hb
  | tup cs vs hl hr => simp [isAggV, cellB] at hb
  | agg cs vs hl hr => rfl
  | t x v h => exact one (by cases h <;> rfl)
  | own k e z es v n h hz hn hle hg => exact one (by cases h <;> rfl)
  | _ => exact one rfl

theorem sound_eqv {neg : Bool} {op : BinOp} {t u : TypeId} {x y : Operand} {ks : List Nat} {d : TypeDesc} (ho : o.op = .binOp op t x y u) (hop : op = if neg then .neq else .eql) (hk : eqCells P 100 t = some ks) (hd : P.underlying t = some d)
    (hni : ∀ k, d ≠ .int k) (hns : d ≠ .string) (hg : P.eqGuardType P.depth t = false) (hI : Inv g S w) {vx vy : V} (hx : RelV g S.toks vx (ρ x)) (hy : RelV g S.toks vy (ρ y)) (hK : eqvK neg (aggD d) ks vx vy S K) : Sem1 P o ρ g S w K := by
  obtain ⟨⟨a1, a2⟩, hK⟩ := hK
  split at hK
  · rename_i xs ys hxs hys
    split at hK
    · rename_i r hr
      obtain ⟨c1, b1⟩ := cells_T hx hxs
      obtain ⟨c2, b2⟩ := cells_T hy hys
      have hrun := run_eqIn (P := P) (g := g) (w := w) 100 t ks hk 10000 (by omega) (aggD d) (by simp [hd]) (ρ x).cells (ρ y).cells xs ys r c1 c2 hr
      have e1 := val_mkv hx b1
      have e2 := val_mkv hy b2
      rw [a1] at e1
      rw [a2] at e2
      rw [← e1, ← e2] at hrun
      have fin : (execOp ρ o).run P w = .ok (.value (.bool (if neg then !r else r))) w := by
        cases hagg : aggD d
        · rw [hagg] at e1 e2
          have hu : d = .bool := by
            have h3 : ∀ n, eqCells P (n + 1) t = some ks → d = .bool := by
              intro n hn
              clear hk hrun hK
              simp only [eqCells, hd] at hn
              cases d <;> first | rfl | (simp [aggD] at hagg; done) | (exact absurd rfl (hni _)) | (exact absurd rfl hns) | (simp at hn; done)
            exact h3 99 hk
          have hks : ks = [0] := by
            have h3 : ∀ n, eqCells P (n + 1) t = some ks → ks = [0] := by
              intro n hn
              simp only [eqCells, hd, hu, Option.some.injEq] at hn
              exact hn.symm
            exact h3 99 hk
          subst hks
          rcases eqC_one hr with ⟨p, q, _, rfl, rfl, rfl⟩ | ⟨_, _, _, h0, _⟩ | ⟨_, _, h0, _⟩
          · have d1 := c1.one; have d2 := c2.one
            simp only [mkv, Bool.false_eq_true, if_false] at e1 e2
            rw [← e1] at d1
            rw [← e2] at d2
            obtain ⟨ux, hux⟩ : ∃ u, ρ x = u := ⟨_, rfl⟩
            obtain ⟨uy, huy⟩ : ∃ u, ρ y = u := ⟨_, rfl⟩
            rw [hux] at d1 hrun
            rw [huy] at d2 hrun
            cases d1; cases d2
            subst hop
            cases neg <;> simp [execOp, ho, eqGuard, binOp, Op.equal, Op.maxDepth, hrun, hux, huy]
          · cases h0
          · cases h0
        · rw [hagg] at e1 e2
          simp only [mkv, if_true] at e1 e2
          obtain ⟨ux, hux⟩ : ∃ u, (ρ x).cells = u := ⟨_, rfl⟩
          obtain ⟨uy, huy⟩ : ∃ u, (ρ y).cells = u := ⟨_, rfl⟩
          rw [hux] at e1
          rw [huy] at e2
          rw [e1, e2] at hrun
          subst hop
          cases neg <;> simp [execOp, ho, e1, e2, run_eqGuard_agg, hg, run_eql_struct, run_neq_struct, hrun]
      exact Sem1.still hI fin (.t _ _ (.bool _)) hK
    · exact hK.elim
  · exact hK.elim

end
end E
end Go.Proofs.Ythfnaaeddlnckaa
