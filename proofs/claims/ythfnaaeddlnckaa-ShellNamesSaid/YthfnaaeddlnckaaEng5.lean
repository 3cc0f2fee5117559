/- The engine, part 5: every operation of the model does what the engine says of it. -/
import Derived.Test.YthfnaaeddlnckaaEng4
set_option linter.unusedSimpArgs false
set_option linter.unusedVariables false
namespace Go.Proofs.Ythfnaaeddlnckaa
namespace E

/-- The operation runs, and ends in a state that the engine's continuation takes. -/
def Sem1 (P : Program) (o : Oper) (ρ : Operand → Value) (g : Gh) (S : St) (w : World) (K : V → St → Prop) : Prop :=
  ∃ x S' g' v w', ((execOp ρ o).run P w = .ok (.value v) w' ∨ ((execOp ρ o).run P w = .ok .skip w' ∧ v = undef)) ∧ K x S' ∧ RelV g' S'.toks x v ∧ Mv g S w g' S' w'

/-- The operands' values, related. -/
def RelO (g : Gh) (tk : List Nat) (ρ : Operand → Value) (xs : List Operand) (vs : List V) : Prop :=
  vs.length = xs.length ∧ ∀ (j : Nat) (x : Operand), xs[j]? = some x → RelV g tk (vs.getD j .und) (ρ x)

section
variable {P : Program} {o : Oper} {ρ : Operand → Value} {g : Gh} {S : St} {w : World} {K : V → St → Prop}

theorem Sem1.still (hI : Inv g S w) {x : V} {v : Value} (hr : (execOp ρ o).run P w = .ok (.value v) w) (hv : RelV g S.toks x v) (hK : K x S) : Sem1 P o ρ g S w K :=
  ⟨x, S, g, v, w, .inl hr, hK, hv, Mv.refl hI⟩

theorem RelO.get {xs : List Operand} {vs : List V} (h : RelO g S.toks ρ xs vs) (j : Nat) (x : Operand) (hx : xs[j]? = some x) : RelV g S.toks (vs.getD j .und) (ρ x) := h.2 j x hx

theorem run_isAgg {t : TypeId} {d : TypeDesc} (hu : P.underlying t = some d) (w : World) : (isAgg t).run P w = .ok (aggD d) w := by
  simp [isAgg, run_underlying hu]
  cases d <;> rfl

theorem run_sizeOf' {t : TypeId} {i : TypeInfo} (h : P.info? t = some i) (w : World) : (sizeOf t).run P w = .ok i.size w := by
  simp [sizeOf, typeInfo, h]

theorem shapeOf_spec {t : TypeId} {n : Nat} {a : Bool} (h : shapeOf P t = some (n, a)) : ∃ i d, P.info? t = some i ∧ P.underlying t = some d ∧ i.size = n ∧ aggD d = a ∧ (a = true ∨ n = 1) := by
  unfold shapeOf at h
  split at h
  · rename_i i d hi hd
    split at h
    · rename_i hc
      simp only [Option.some.injEq, Prod.mk.injEq] at h
      refine ⟨i, d, hi, hd, h.1, h.2, ?_⟩
      rw [← h.1, ← h.2]
      simpa using hc
    · cases h
  · cases h

/-- A variable's value out of its cells. -/
theorem run_loadVar {t : TypeId} {n : Nat} {a : Bool} (h : shapeOf P t = some (n, a)) (b off : Nat) (f : Nat → Value) (hf : ∀ j, j < n → w.cell? ⟨b, off + j, none⟩ = some (f j)) :
    (loadVar t ⟨b, off, none⟩).run P w = .ok (if a then .agg ((List.range n).map f).toArray else f 0) w := by
  obtain ⟨i, d, hi, hd, rfl, rfl, hor⟩ := shapeOf_spec h
  cases ha : aggD d
  · rw [ha] at hor
    have h1 : i.size = 1 := by simpa using hor
    have h0 := hf 0 (by omega)
    simp only [Nat.add_zero] at h0
    simp [loadVar, run_isAgg hd, ha, run_load, h0]
  · have := run_loadCells (P := P) w ⟨b, off, none⟩ i.size f (fun j hj => by rw [Addr.add_lit]; exact hf j hj)
    simp [loadVar, run_isAgg hd, ha, run_sizeOf' hi, this]

/-- What was read is related, if each cell is. -/
theorem ldv_rel {a : Bool} {n : Nat} (hor : a = true ∨ n = 1) {cs : List V} {f : Nat → Value} (hn : n ≤ cs.length) (hr : ∀ j, j < n → RelV g S.toks (cs.getD j .junk) (f j)) :
    RelV g S.toks (ldv a n cs) (if a then .agg ((List.range n).map f).toArray else f 0) := by
  cases a
  · have h1 : n = 1 := by simpa using hor
    subst h1
    have := hr 0 (by omega)
    simp only [ldv, Bool.false_eq_true, if_false]
    cases cs with
    | nil => simp at hn
    | cons c cs => simpa using this
  · simp only [ldv, if_true]
    refine .agg _ _ (by simp [Nat.min_eq_left hn]) (fun j hj => ?_)
    have hj' : j < n := by simp at hj; omega
    have := hr j hj'
    simp only [List.getD_eq_getElem?_getD, List.getElem?_take, if_pos hj'] at this ⊢
    simpa [hj'] using this

theorem sound_load {t : TypeId} {n : Nat} {a : Bool} {x : Operand} (ho : o.op = .load t x) (hs : shapeOf P t = some (n, a)) (hI : Inv g S w) {v : V} (hv : RelV g S.toks v (ρ x))
    (hK : loadK n a v S K) : Sem1 P o ρ g S w K := by
  obtain ⟨i, d, hi, hd, hn, ha, hor⟩ := shapeOf_spec hs
  unfold loadK at hK
  split at hK
  · rename_i b off
    generalize hρ : ρ x = u at hv
    cases hv with
    | ptr _ _ blk hβ =>
    split at hK
    · rename_i cs hcs
      obtain ⟨hle, hK⟩ := hK
      obtain ⟨vs, ty, hh, hsz, hrel⟩ := hI.box b blk _ hβ hcs
      have hcell : ∀ j, j < n → w.cell? ⟨blk, off + j, none⟩ = some (vs.getD (off + j) undef) := by
        intro j hj
        rw [cell_of_row w blk (off + j) vs ty _ hh]
        have : off + j < vs.size := by omega
        simp [this]
      refine Sem1.still hI (x := ldv a n (cs.drop off)) (v := if a then .agg ((List.range n).map fun j => vs.getD (off + j) undef).toArray else vs.getD (off + 0) undef) ?_ ?_ hK
      · simp only [execOp, ho, hρ, Instr.loadAt, Instr.sureAddr, Sem.run_bind, Sem.run_pure, Result.andThen_ok, run_loadVar hs blk off (fun j => vs.getD (off + j) undef) hcell]
      · refine ldv_rel hor (by simp; omega) (f := fun j => vs.getD (off + j) undef) (fun j hj => ?_)
        have := hrel (off + j) (by omega)
        simpa [List.getD_eq_getElem?_getD, List.getElem?_drop] using this
    · exact hK.elim
  · rename_i e off
    generalize hρ : ρ x = u at hv
    cases hv with
    | tp _ _ blk base c hc hr =>
    obtain ⟨hle, hK⟩ := hK
    have hcell : ∀ j, j < n → w.cell? ⟨blk, base + off + j, none⟩ = some (c (off + j)) := by
      intro j hj
      rw [Nat.add_assoc]
      exact hI.imm _ _ _ (hc (off + j) (by omega))
    refine Sem1.still hI (x := ldv a n ((e.drop off).map V.t)) (v := if a then .agg ((List.range n).map fun j => c (off + j)).toArray else c (off + 0)) ?_ ?_ hK
    · simp only [execOp, ho, hρ, Instr.loadAt, Instr.sureAddr, Sem.run_bind, Sem.run_pure, Result.andThen_ok, run_loadVar hs blk (base + off) (fun j => c (off + j)) hcell]
    · refine ldv_rel hor (by simp; omega) (f := fun j => c (off + j)) (fun j hj => ?_)
      have := hr (off + j) (by omega)
      have hlt : off + j < e.length := by omega
      simp only [List.getD_eq_getElem?_getD, List.getElem?_map, List.getElem?_drop, List.getElem?_eq_getElem hlt, Option.map_some, Option.getD_some] at this ⊢
      exact .t _ _ this
  · exact hK.elim

theorem Ext.push (g : Gh) (tk : List Nat) (n : Nat) : Ext g tk { g with β := g.β ++ [n] } tk :=
  ⟨fun _ _ _ h => h, fun i x hx => by
    have := (List.getElem?_eq_some_iff.1 hx).1
    simp only [List.getElem?_append_left this]; exact hx, fun _ n h => ⟨n, h, Nat.le_refl _, fun _ => rfl⟩, rfl, rfl, fun _ _ _ h => .inl h⟩

theorem sound_box {t : TypeId} {x : Operand} (ho : o.op = .box t x) (hI : Inv g S w) {v : V} (hv : RelV g S.toks v (ρ x)) (hK : boxK v S K) : Sem1 P o ρ g S w K := by
  obtain ⟨hc, hK⟩ := hK
  obtain ⟨h1, h2⟩ := cells_rel hv (by simpa using hc)
  have hm := hI.push (.cells (ρ x).cells t) (.cells (cellsV v)) ⟨(ρ x).cells, t, heap_alloc_new w _, h1, fun j hj => (h2 j hj).mono (Ext.push g S.toks _)⟩
  refine ⟨.ptr S.boxes.length 0, _, _, .pointer (some ⟨w.heap.size, 0, none⟩), _, .inl ?_, hK, .ptr _ _ _ ?_, hm⟩
  · simp [execOp, ho, Instr.box, newVar, newRow]
  · simp only []
    rw [List.getElem?_append_right (by rw [hI.len]; exact Nat.le_refl _), hI.len]
    simp

theorem sound_alloc {t : TypeId} {i : TypeInfo} {z : Value} {zv : V} (ho : o.op = .alloc t) (hi : P.info? t = some i) (hz : i.zero = some z) (hzv : constV z = some zv) (hI : Inv g S w)
    (hK : K (.ptr S.boxes.length 0) { S with boxes := S.boxes ++ [.cells (cellsV zv)] }) : Sem1 P o ρ g S w K := by
  have hcv : isAggV zv = true ∨ cellB zv = true := by
    unfold constV at hzv
    split at hzv
    · rename_i cs
      cases hx : constVs cs.toList with
      | none => simp [hx] at hzv
      | some xs => simp [hx] at hzv; subst hzv; exact .inl rfl
    · unfold constV1 at hzv
      split at hzv <;> simp at hzv <;> subst hzv <;> exact .inr rfl
  have hrel : ∀ {g' : Gh} {tk : List Nat}, RelV g' tk zv z := constV_rel hzv
  have hm := hI.push (.cells z.cells t) (.cells (cellsV zv)) ⟨z.cells, t, heap_alloc_new w _, (cells_rel (hrel (g' := g) (tk := S.toks)) hcv).1, fun j hj => (cells_rel hrel hcv).2 j hj⟩
  refine ⟨.ptr S.boxes.length 0, _, _, .pointer (some ⟨w.heap.size, 0, none⟩), _, .inl ?_, hK, .ptr _ _ _ ?_, hm⟩
  · simp [execOp, ho, Instr.alloc, zeroValue, typeInfo, hi, hz, newVar, newRow]
  · simp only []
    rw [List.getElem?_append_right (by rw [hI.len]; exact Nat.le_refl _), hI.len]
    simp

theorem sound_store {t : TypeId} {n : Nat} {a : Bool} {x y : Operand} (ho : o.op = .store t x y) (hs : shapeOf P t = some (n, a)) (hI : Inv g S w) {ad v : V} (had : RelV g S.toks ad (ρ x)) (hv : RelV g S.toks v (ρ y))
    (hK : storeK n ad v S K) : Sem1 P o ρ g S w K := by
  obtain ⟨i, d, hi, hd, hn, ha, hor⟩ := shapeOf_spec hs
  unfold storeK at hK
  split at hK
  · rename_i b off
    generalize hρ : ρ x = u at had
    cases had with
    | ptr _ _ blk hβ =>
    split at hK
    · rename_i cs hcs
      obtain ⟨⟨hle, hlen, hok⟩, hK⟩ := hK
      obtain ⟨vs, ty, hh, hsz, hrel⟩ := hI.box b blk _ hβ hcs
      obtain ⟨c1, c2⟩ := cells_rel hv (okV_cases hok)
      have hone : ∀ u ∈ (ρ y).cells.toList, u.oneCell' = true := by
        intro u hu
        obtain ⟨j, hj⟩ := List.mem_iff_getElem?.1 hu
        have hjl : j < (ρ y).cells.size := by simpa using (List.getElem?_eq_some_iff.1 hj).1
        have h3 := c2 j (by omega)
        have hju : (ρ y).cells.getD j undef = u := by
          simp only [Array.getElem?_toList] at hj
          simp [hj]
        rw [hju] at h3
        refine oneCell_of h3 ?_
        have h4 := List.all_eq_true.1 hok ((cellsV v).getD j .junk) (by
          have : j < (cellsV v).length := by omega
          simp [List.getD_eq_getElem?_getD, this])
        exact h4
      have hst := run_storeCells_at P blk off ty (ρ y).cells.toList 0 vs w hh (by simp; omega) hone
      simp only [Nat.add_zero] at hst
      have hrun : (execOp ρ o).run P w = .ok .skip (w.setRow blk (vs.toList.take off ++ (ρ y).cells.toList ++ vs.toList.drop (off + (ρ y).cells.toList.length)).toArray) := by
        have hsz2 : (ρ y).cells.size = i.size := by rw [c1, hlen, hn]
        simp [execOp, ho, hρ, Instr.storeAt, Instr.sureAddr, storeVar, run_sizeOf' hi, hsz2]
        have := hst
        simp [hsz2] at this
        simp [this]
      have hm := hI.put b blk (.cells cs) (.cells (splice cs off (cellsV v))) hβ hcs (fun h => by cases h) (fun h => by cases h) (.cells #[] ty)
        (w.setRow blk (vs.toList.take off ++ (ρ y).cells.toList ++ vs.toList.drop (off + (ρ y).cells.toList.length)).toArray) (fun k hk => setRow_other w blk k _ hk) (by simp) rfl rfl rfl
        ⟨_, ty, setRow_heap w blk vs _ ty _ hh, by
            simp [splice, c1]; omega, fun j hj => by
          rw [length_splice _ _ _ (by omega)] at hj
          have e1 : ((vs.toList.take off ++ (ρ y).cells.toList ++ vs.toList.drop (off + (ρ y).cells.toList.length)).toArray).getD j undef =
              if off ≤ j ∧ j < off + (cellsV v).length then (ρ y).cells.getD (j - off) undef else vs.getD j undef := by
            have := getD_splice vs.toList off (ρ y).cells.toList undef (by simp; omega) j
            simp only [List.getD_eq_getElem?_getD, Array.getElem?_toList, Array.length_toList, c1] at this
            simp only [Array.getD_eq_getD_getElem?, List.getElem?_toArray, Array.length_toList, c1]
            exact this
          rw [e1, splice, getD_splice cs off (cellsV v) .junk (by omega) j]
          split
          · exact c2 _ (by omega)
          · exact hrel j (by omega)⟩
      exact ⟨.und, _, g, undef, _, .inr ⟨hrun, rfl⟩, hK, .und, hm⟩
    · exact hK.elim
  · exact hK.elim

end
end E
end Go.Proofs.Ythfnaaeddlnckaa
