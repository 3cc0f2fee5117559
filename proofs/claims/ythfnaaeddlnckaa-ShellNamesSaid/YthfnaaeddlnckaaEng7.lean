/- The engine, part 7: literals of structs and slices, append, slices of slices, equality. -/
import Derived.Test.YthfnaaeddlnckaaEng6
set_option linter.unusedSimpArgs false
set_option linter.unusedVariables false
namespace Go.Proofs.Ythfnaaeddlnckaa
namespace E

theorem foldl_set (l : List Value) : ∀ (k off : Nat) (cells : Array Value), (off + k + l.length ≤ cells.size) →
    ((l.zipIdx k).foldl (fun cs (p : Value × Nat) => cs.setIfInBounds (off + p.2) p.1) cells).size = cells.size ∧
    ∀ j, ((l.zipIdx k).foldl (fun cs (p : Value × Nat) => cs.setIfInBounds (off + p.2) p.1) cells).getD j undef = if off + k ≤ j ∧ j < off + k + l.length then l.getD (j - (off + k)) undef else cells.getD j undef := by
  induction l with
  | nil => intro k off cells h; simp; intro j h1 h2; omega
  | cons v l ih =>
    intro k off cells h
    simp only [List.length_cons] at h
    have := ih (k + 1) off (cells.setIfInBounds (off + k) v) (by simp; omega)
    simp only [List.zipIdx_cons, List.foldl_cons]
    refine ⟨by simpa using this.1, fun j => ?_⟩
    rw [this.2 j]
    simp only [List.length_cons]
    by_cases h1 : off + (k + 1) ≤ j ∧ j < off + (k + 1) + l.length
    · rw [if_pos h1, if_pos (by omega)]
      have : j - (off + k) = (j - (off + (k + 1))) + 1 := by omega
      rw [this]; simp
    · rw [if_neg h1]
      by_cases h2 : j = off + k
      · subst h2
        rw [if_pos (by omega)]
        have : off + k < cells.size := by omega
        simp [this]
      · rw [if_neg (by omega)]
        simp [Array.getElem?_setIfInBounds_ne (Ne.symm h2)]

theorem fillStep (off : Nat) (cells v : Array Value) (h : off + v.size ≤ cells.size) :
    (v.zipIdx.foldl (fun cs (p : Value × Nat) => cs.setIfInBounds (off + p.2) p.1) cells).size = cells.size ∧
    ∀ j, (v.zipIdx.foldl (fun cs (p : Value × Nat) => cs.setIfInBounds (off + p.2) p.1) cells).getD j undef = if off ≤ j ∧ j < off + v.size then v.getD (j - off) undef else cells.getD j undef := by
  have := foldl_set v.toList 0 off cells (by simpa using h)
  rw [← Array.foldl_toList, Array.toList_zipIdx]
  simpa [List.getD_eq_getElem?_getD] using this

theorem fill_cons {place : Nat → Option (Nat × Nat)} {i off size : Nat} (cells : Array Value) (v : Value) (rest : List (Nat × Value)) (hp : place i = some (off, size)) (h1 : v.cells.size = size) (h2 : off + v.cells.size ≤ cells.size) :
    Instr.fill place cells ((i, v) :: rest) = Instr.fill place (v.cells.zipIdx.foldl (fun cs (p : Value × Nat) => cs.setIfInBounds (off + p.2) p.1) cells) rest := by
  show (match place i with | none => none | some (off, size) => if v.cells.size ≠ size || off + v.cells.size > cells.size then none else Instr.fill place (v.cells.zipIdx.foldl (fun cs (p : Value × Nat) => cs.setIfInBounds (off + p.2) p.1) cells) rest) = _
  rw [hp]
  simp only []
  rw [if_neg]
  simp [h1]
  omega

section
variable {P : Program} {o : Oper} {ρ : Operand → Value} {g : Gh} {S : St} {w : World} {K : V → St → Prop}

theorem fill_rel {place : Nat → Option (Nat × Nat)} : ∀ (parts : List (Nat × Operand)) (ps : List (Nat × Nat)) (vs cells cells' : List V) (cs : Array Value),
    (parts.map (·.1)).mapM place = some ps → fillV cells ps vs = some cells' → RelO g S.toks ρ (parts.map (·.2)) vs → (∀ v ∈ vs, isAggV v = true ∨ cellB v = true) →
    cs.size = cells.length → (∀ j, j < cells.length → RelV g S.toks (cells.getD j .junk) (cs.getD j undef)) →
    ∃ cs', Instr.fill place cs (parts.map fun p => (p.1, ρ p.2)) = some cs' ∧ cs'.size = cells'.length ∧ ∀ j, j < cells'.length → RelV g S.toks (cells'.getD j .junk) (cs'.getD j undef) := by
  intro parts
  induction parts with
  | nil =>
    intro ps vs cells cells' cs hps hf hv _ hsz hrel
    have hvs : vs = [] := List.eq_nil_of_length_eq_zero (by simpa using hv.1)
    simp at hps
    subst hps; subst hvs
    simp [fillV] at hf
    subst hf
    exact ⟨cs, by simp [Instr.fill], hsz, hrel⟩
  | cons p parts ih =>
    intro ps vs cells cells' cs hps hf hv hok hsz hrel
    obtain ⟨i, x⟩ := p
    cases vs with
    | nil => have := hv.1; simp at this
    | cons v vs =>
    simp only [List.map_cons, List.mapM_cons, Option.bind_eq_bind, Option.pure_def] at hps
    cases hp : place i with
    | none => simp [hp] at hps
    | some q =>
      obtain ⟨off, size⟩ := q
      cases hr : (parts.map (·.1)).mapM place with
      | none => simp [hp, hr] at hps
      | some ps' =>
        simp [hp, hr] at hps
        subst hps
        simp only [fillV] at hf
        split at hf
        · rename_i hc
          have hvrel : RelV g S.toks v (ρ x) := by simpa using hv.2 0 x (by simp)
          obtain ⟨c1, c2⟩ := cells_rel hvrel (hok v (by simp))
          have hst := fillStep off cs (ρ x).cells (by rw [c1, hsz]; exact hc.2)
          obtain ⟨cs', h1, h2, h3⟩ := ih ps' vs (splice cells off (cellsV v)) cells' ((ρ x).cells.zipIdx.foldl (fun cs (p : Value × Nat) => cs.setIfInBounds (off + p.2) p.1) cs) hr hf
            ⟨by have := hv.1; simpa using this, fun j y hy => by simpa using hv.2 (j + 1) y (by simpa using hy)⟩ (fun u hu => hok u (by simp [hu]))
            (by rw [hst.1, hsz, length_splice _ _ _ (by omega)]) (fun j hj => by
              rw [length_splice _ _ _ (by omega)] at hj
              rw [hst.2 j, splice, getD_splice cells off (cellsV v) .junk (by omega) j, c1]
              split
              · exact c2 _ (by omega)
              · exact hrel j hj)
          refine ⟨cs', ?_, h2, h3⟩
          rw [List.map_cons, fill_cons cs (ρ x) _ hp (by rw [c1]; exact hc.1) (by rw [c1, hsz]; exact hc.2)]
          exact h1
        · cases hf

theorem mapM_places (fs : Array Field) (hall : (fs.all fun f => (P.info? f.type).isSome) = true) :
    ∃ pl : List (Nat × Nat), fs.toList.mapM (fun f => (P.info? f.type).map fun i => (f.offset, i.size)) = some pl ∧ ∀ (i : Nat), pl[i]? = match fs[i]? with | some (fd : Field) => (P.info? fd.type).map fun j => (fd.offset, j.size) | none => none := by
  have key : ∀ (l : List Field), (∀ f ∈ l, (P.info? f.type).isSome = true) → ∃ pl : List (Nat × Nat), l.mapM (fun f => (P.info? f.type).map fun i => (f.offset, i.size)) = some pl ∧
      ∀ (i : Nat), pl[i]? = match l[i]? with | some (fd : Field) => (P.info? fd.type).map fun j => (fd.offset, j.size) | none => none := by
    intro l
    induction l with
    | nil => intro _; exact ⟨[], by simp, by simp⟩
    | cons f l ih =>
      intro h
      obtain ⟨pl, h1, h2⟩ := ih fun x hx => h x (by simp [hx])
      obtain ⟨j, hj⟩ := Option.isSome_iff_exists.1 (h f (by simp))
      refine ⟨(f.offset, j.size) :: pl, by simp [hj, h1], fun i => ?_⟩
      cases i with
      | zero => simp [hj]
      | succ i => simpa using h2 i
  obtain ⟨pl, h1, h2⟩ := key fs.toList (fun f hf => by
    have := Array.all_eq_true_iff_forall_mem.1 hall f (by simpa using hf)
    exact this)
  exact ⟨pl, h1, fun i => by rw [h2 i]; simp⟩

theorem sound_build {t : TypeId} {parts : Array (Nat × Operand)} {i : TypeInfo} {z : Value} {zv : V} {ps : List (Nat × Nat)} {cells : List V} (ho : o.op = .build t parts) (hi : P.info? t = some i) (hz : i.zero = some z)
    (hzv : constV z = some zv) (hps : placesOf P t (parts.toList.map (·.1)) = some ps)
    (hall : fieldsKnown P t = true)
    (hI : Inv g S w) {vs : List V} (hv : RelO g S.toks ρ (parts.toList.map (·.2)) vs) (hok : ∀ v ∈ vs, isAggV v = true ∨ cellB v = true) (hf : fillV (cellsV zv) ps vs = some cells) (hK : K (.agg cells) S) : Sem1 P o ρ g S w K := by
  have hcv : isAggV zv = true ∨ cellB zv = true := by
    unfold constV at hzv
    split at hzv
    · rename_i cs
      cases hx : constVs cs.toList with
      | none => simp [hx] at hzv
      | some xs => simp [hx] at hzv; subst hzv; exact .inl rfl
    · unfold constV1 at hzv
      split at hzv <;> simp at hzv <;> subst hzv <;> exact .inr rfl
  obtain ⟨z1, z2⟩ := cells_rel (constV_rel (g := g) (tk := S.toks) hzv) hcv
  have fin : ∀ (place : Nat → Option (Nat × Nat)), (parts.toList.map (·.1)).mapM place = some ps → P.built t (parts.toList.map fun p => (p.1, ρ p.2)) = Instr.fill place z.cells (parts.toList.map fun p => (p.1, ρ p.2)) → Sem1 P o ρ g S w K := by
    intro place h1 h2
    obtain ⟨cs', e1, e2, e3⟩ := fill_rel parts.toList ps vs (cellsV zv) cells z.cells h1 hf hv hok z1 z2
    have hr := run_build (P := P) w t (parts.map fun p => (p.1, ρ p.2)) cs' (by simpa using h2.trans e1)
    exact Sem1.still hI (v := .agg cs') (by simp [execOp, ho, hr]) (.agg _ _ e2 e3) hK
  unfold placesOf at hps
  split at hps
  · rename_i fs hu
    simp only [fieldsKnown, hu] at hall
    obtain ⟨pl, h1, h2⟩ := mapM_places fs hall
    refine fin (pl.toArray[·]?) ?_ ?_
    · rw [← hps]
      congr 1
      funext k
      have h3 := h2 k
      simp only [List.getElem?_toArray]
      rw [h3]
      cases fs[k]? <;> rfl
    · simp only [Program.built, hi, hu, hz, h1]
  · rename_i n e hu
    split at hps
    · rename_i j hj
      refine fin (fun i => some (i * j.size, j.size)) hps ?_
      simp only [Program.built, hi, hu, hz, hj]
    · cases hps
  · cases hps

/-- What a literal of a slice lays. -/
theorem fill_row (size : Nat) (hs : 0 < size) : ∀ (us : List Value) (k : Nat) (cells : Array Value), (∀ u ∈ us, u.cells.size = size) → (k + us.length) * size ≤ cells.size →
    ∃ out, Instr.fill (fun i => some (i * size, size)) cells ((List.range' k us.length).zip us) = some out ∧ out.size = cells.size ∧
      ∀ i q, q < size → k ≤ i → i < k + us.length → out.getD (i * size + q) undef = (us.getD (i - k) undef).cells.getD q undef := by
  have keep : ∀ (us : List Value) (k : Nat) (cells out : Array Value), Instr.fill (fun i => some (i * size, size)) cells ((List.range' k us.length).zip us) = some out → (∀ u ∈ us, u.cells.size = size) → (k + us.length) * size ≤ cells.size →
      ∀ j, j < k * size → out.getD j undef = cells.getD j undef := by
    intro us
    induction us with
    | nil => intro k cells out h _ _ j _; simp [Instr.fill] at h; rw [h]
    | cons u us ih =>
      intro k cells out h hu hle j hj
      have hus := hu u (by simp)
      simp only [List.length_cons, List.range'_succ, List.zip_cons_cons] at h hle
      have hle2 : k * size + size ≤ cells.size := by
        have : (k + 1) * size ≤ (k + (us.length + 1)) * size := Nat.mul_le_mul_right _ (by omega)
        rw [Nat.add_mul] at this; omega
      rw [fill_cons (place := fun i => some (i * size, size)) cells u _ rfl hus (by rw [hus]; exact hle2)] at h
      have hst := fillStep (k * size) cells u.cells (by rw [hus]; exact hle2)
      rw [ih (k + 1) _ out h (fun x hx => hu x (by simp [hx])) (by rw [hst.1]; rw [show k + 1 + us.length = k + (us.length + 1) from by omega]; exact hle) j (by rw [Nat.add_mul]; omega), hst.2 j, if_neg (by omega)]
  intro us
  induction us with
  | nil => intro k cells _ _; exact ⟨cells, by simp [Instr.fill], rfl, fun i q hq h1 h2 => by simp at h2; omega⟩
  | cons u us ih =>
    intro k cells hu hle
    have hus := hu u (by simp)
    simp only [List.length_cons] at hle
    have hle2 : k * size + size ≤ cells.size := by
      have : (k + 1) * size ≤ (k + (us.length + 1)) * size := Nat.mul_le_mul_right _ (by omega)
      rw [Nat.add_mul] at this; omega
    have hst := fillStep (k * size) cells u.cells (by rw [hus]; exact hle2)
    have hle3 : (k + 1 + us.length) * size ≤ (u.cells.zipIdx.foldl (fun cs (p : Value × Nat) => cs.setIfInBounds (k * size + p.2) p.1) cells).size := by
      rw [hst.1, show k + 1 + us.length = k + (us.length + 1) from by omega]; exact hle
    obtain ⟨out, h1, h2, h3⟩ := ih (k + 1) _ (fun x hx => hu x (by simp [hx])) hle3
    refine ⟨out, ?_, h2.trans hst.1, ?_⟩
    · simp only [List.length_cons, List.range'_succ, List.zip_cons_cons]
      rw [fill_cons (place := fun i => some (i * size, size)) cells u _ rfl hus (by rw [hus]; exact hle2)]
      exact h1
    · intro i q hq hk hi
      by_cases hik : i = k
      · subst hik
        rw [keep us (i + 1) _ out h1 (fun x hx => hu x (by simp [hx])) hle3 _ (by rw [Nat.add_mul]; omega), hst.2, if_pos (by rw [hus]; omega)]
        simp
      · rw [h3 i q hq (by omega) (by simp at hi; omega), show i - k = (i - (k + 1)) + 1 from by omega]
        simp

theorem sound_bsl {t e : TypeId} {len : Nat} {parts : Array (Nat × Operand)} {i : TypeInfo} {z : Value} (ho : o.op = .buildSlice t len parts) (hu : P.underlying t = some (.slice e)) (hi : P.info? e = some i) (hz : i.zero = some z)
    (hix : parts.toList.map (·.1) = List.range len) (hzs : z.cells.size = i.size) (hsz : 0 < i.size) (hmax : len * i.size ≤ 2 ^ 24)
    (hI : Inv g S w) {vs : List V} (hv : RelO g S.toks ρ (parts.toList.map (·.2)) vs) (hok : ∀ v ∈ vs, isAggV v = true ∨ cellB v = true) (hK : bslK i.size vs S K) : Sem1 P o ρ g S w K := by
  unfold bslK at hK
  split at hK
  · rename_i es hes
    obtain ⟨hlen, hK⟩ := hK
    have hpl : parts.toList.length = len := by have := congrArg List.length hix; simpa using this
    have hvl : vs.length = len := by have := hv.1; simp at this; simpa using this.trans (by simpa using hpl)
    -- the elements
    have hesl : es.length = vs.length ∧ ∀ k, k < vs.length → toTs (cellsV (vs.getD k .und)) = some (es.getD k []) := by
      clear hv hok hK hvl hlen
      induction vs generalizing es with
      | nil => simp at hes; subst hes; simp
      | cons v vs ih =>
        simp only [List.mapM_cons, Option.bind_eq_bind, Option.pure_def] at hes
        cases h1 : toTs (cellsV v) with
        | none => simp [h1] at hes
        | some ts =>
          cases h2 : vs.mapM (fun v => toTs (cellsV v)) with
          | none => simp [h1, h2] at hes
          | some rs =>
            simp [h1, h2] at hes
            subst hes
            have := ih rs h2
            refine ⟨by simp [this.1], fun k hk => ?_⟩
            cases k with
            | zero => simpa using h1
            | succ k => simpa using this.2 k (by simpa using hk)
    let us : List Value := parts.toList.map fun p => ρ p.2
    have hul : us.length = len := by simp [us, hpl]
    have hvu : ∀ k, k < len → RelV g S.toks (vs.getD k .und) (us.getD k undef) := by
      intro k hk
      have hk' : k < parts.size := by simpa [← hpl] using hk
      have := hv.2 k parts[k].2 (by simp [hk'])
      simpa [us, List.getD_eq_getElem?_getD, hk'] using this
    have hokk : ∀ k, k < len → isAggV (vs.getD k .und) = true ∨ cellB (vs.getD k .und) = true := by
      intro k hk
      have hk' : k < vs.length := by omega
      exact hok _ (by simp [List.getD_eq_getElem?_getD, hk'])
    have hsize : ∀ k, k < len → (us.getD k undef).cells.size = i.size := by
      intro k hk
      rw [(cells_rel (hvu k hk) (hokk k hk)).1, ← (toTs_spec (hesl.2 k (by omega))).1]
      have hk' : k < es.length := by omega
      exact hlen _ (by simp [List.getD_eq_getElem?_getD, hk'])
    have hzip : ∀ (l : List (Nat × Operand)) (k : Nat), l.map (·.1) = List.range' k l.length → (l.map fun p => (p.1, ρ p.2)) = (List.range' k l.length).zip (l.map fun p => ρ p.2) := by
      intro l
      induction l with
      | nil => intro k _; simp
      | cons p l ih =>
        intro k hk
        simp only [List.map_cons, List.length_cons, List.range'_succ, List.cons.injEq, List.zip_cons_cons] at hk ⊢
        exact ⟨by rw [hk.1], ih _ hk.2⟩
    have hparts : (parts.map fun (p : Nat × Operand) => (p.1, ρ p.2)).toList = (List.range' 0 us.length).zip us := by
      rw [Array.toList_map, hzip parts.toList 0 (by rw [hix, List.range_eq_range', hpl])]
      simp [us]
    let zeros : Array Value := (Array.range (len * i.size)).map (z.cells[· % z.cells.size]!)
    obtain ⟨out, h1, h2, h3⟩ := fill_row i.size hsz us 0 zeros (fun u hu' => by
      obtain ⟨k, hk⟩ := List.mem_iff_getElem?.1 hu'
      have hkl : k < us.length := (List.getElem?_eq_some_iff.1 hk).1
      have := hsize k (by omega)
      simpa [List.getD_eq_getElem?_getD, hk] using this) (by simp [zeros, hul])
    have houts : out.size = len * i.size := by rw [h2]; simp [zeros]
    have hrow := hI.row out e
    have hrun : (execOp ρ o).run P w = .ok (.value (.slice (some ⟨w.heap.size, 0, none⟩) len len)) (w.alloc (.cells out e)) := by
      have hmax' : ¬ (2 ^ 24 < len * i.size) := by omega
      simp only [execOp, ho, Instr.buildSlice, run_underlying hu, run_sizeOf' hi, Sem.run_bind, Result.andThen_ok, Sem.run_ite]
      have hfill : Instr.fill (fun i_1 => some (i_1 * i.size, i.size)) (Array.map (fun x => z.cells[x % z.cells.size]!) (Array.range (len * i.size))) ((parts.map fun (p : Nat × Operand) => (p.1, ρ p.2)).toList) = some out := by
        rw [hparts]; exact h1
      by_cases h0 : len * i.size = 0
      · have hl0 : len = 0 := by rcases Nat.mul_eq_zero.1 h0 with h | h <;> omega
        have hp0 : parts = #[] := by
          apply Array.toList_inj.1
          exact List.eq_nil_of_length_eq_zero (by omega)
        have ho0 : out = #[] := Array.eq_empty_of_size_eq_zero (by omega)
        subst hp0
        subst ho0
        subst hl0
        simp [Instr.fill, newRow, show Array.range 0 = #[] from rfl]
      · have hz' : ((zeroValue e).run P w) = .ok z w := by simp [zeroValue, typeInfo, hi, hz]
        have hmap : (Array.map (fun (x : Nat × Operand) => match x with | (i_1, x) => (i_1, ρ x)) parts) = parts.map fun (p : Nat × Operand) => (p.1, ρ p.2) := rfl
        rw [Array.toList_map] at hfill
        simp [hmax', h0, hz', newRow]
        rw [hfill]
        simp
    refine ⟨.full es, S, _, _, _, .inl hrun, hK, ?_, hrow⟩
    have heslen : es.length = len := by omega
    rw [← heslen]
    refine .full es _ (.sl es w.heap.size 0 es.length i.size (fun a b => out.getD (a * i.size + b) undef) (fun k hk => ?_) (Nat.le_refl _) ?_ (fun a b ha hb => ?_) (fun a b ha hb => ?_))
    · exact hlen _ (by simp [List.getD_eq_getElem?_getD, hk])
    · rw [heslen]
      have : len ≤ len * i.size := Nat.le_mul_of_pos_right _ hsz
      unfold maxLen; omega
    · show (if w.heap.size = w.heap.size then out[0 + a * i.size + b]? else _) = _
      rw [if_pos rfl, Nat.zero_add]
      have : a * i.size + b < out.size := by
        rw [houts]
        have : (a + 1) * i.size ≤ len * i.size := Nat.mul_le_mul_right _ (by omega)
        rw [Nat.add_mul] at this; omega
      simp [this]
    · rw [h3 a b hb (by omega) (by omega)]
      have hc := (cells_rel (hvu a (by omega)) (hokk a (by omega))).2 b (by rw [← (toTs_spec (hesl.2 a (by omega))).1, hlen (es.getD a []) (by simp [List.getD_eq_getElem?_getD, ha])]; exact hb)
      have ht := (toTs_spec (hesl.2 a (by omega))).2 b (by rw [← (toTs_spec (hesl.2 a (by omega))).1, hlen (es.getD a []) (by simp [List.getD_eq_getElem?_getD, ha])]; exact hb)
      exact (toT_rel hc ht).mono hrow.ext.I
  · exact hK.elim


end
end E
end Go.Proofs.Ythfnaaeddlnckaa
