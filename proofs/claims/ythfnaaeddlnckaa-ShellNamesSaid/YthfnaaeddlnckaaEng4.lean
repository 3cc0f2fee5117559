/- The engine, part 4: the moves of the invariant (a new box, a store, a new row, an append). -/
import Derived.Test.YthfnaaeddlnckaaEng3
set_option linter.unusedSimpArgs false
set_option linter.unusedVariables false
namespace Go.Proofs.Ythfnaaeddlnckaa
namespace E

theorem lt_of_cell {w : World} {b o : Nat} {c : Value} (h : w.cell? ⟨b, o, none⟩ = some c) : b < w.heap.size := World.block_lt_of_cell? w _ h

theorem Inv.Ilt {g : Gh} {S : St} {w : World} (h : Inv g S w) {b o : Nat} {c : Value} (hc : g.I b o = some c) : b < w.heap.size := lt_of_cell (h.imm b o c hc)
theorem Inv.Inew {g : Gh} {S : St} {w : World} (h : Inv g S w) (o : Nat) : g.I w.heap.size o = none := by
  cases hc : g.I w.heap.size o with
  | none => rfl
  | some c => exact absurd (h.Ilt hc) (Nat.lt_irrefl _)

theorem cell_old {w w' : World} {b o : Nat} (h : w'.heap[b]? = w.heap[b]?) : w'.cell? ⟨b, o, none⟩ = w.cell? ⟨b, o, none⟩ := World.cell?_of_block (w := w) h

theorem heap_alloc_lt {w : World} {o : Obj} {i : Nat} (h : i < w.heap.size) : (w.alloc o).heap[i]? = w.heap[i]? := heap_alloc_old w o h

/-- A new block that becomes a box. -/
theorem Inv.push {g : Gh} {S : St} {w : World} (h : Inv g S w) (ob : Obj) (bx : Bx)
    (hb : BoxAt { g with β := g.β ++ [w.heap.size] } S.toks (w.alloc ob) w.heap.size bx) :
    Mv g S w { g with β := g.β ++ [w.heap.size] } { S with boxes := S.boxes ++ [bx] } (w.alloc ob) := by
  have hext : Ext g S.toks { g with β := g.β ++ [w.heap.size] } S.toks :=
    ⟨fun _ _ _ h => h, fun i x hx => by
      have := (List.getElem?_eq_some_iff.1 hx).1
      simp only [List.getElem?_append_left this]
      exact hx, fun _ n h => ⟨n, h, Nat.le_refl _, fun _ => rfl⟩, rfl, rfl, fun _ _ _ h => .inl h⟩
  have hcase : ∀ (i blk : Nat), (g.β ++ [w.heap.size])[i]? = some blk → (g.β[i]? = some blk ∧ i < S.boxes.length) ∨ (i = S.boxes.length ∧ blk = w.heap.size) := by
    intro i blk hi
    rcases Nat.lt_or_ge i g.β.length with hlt | hge
    · rw [List.getElem?_append_left hlt] at hi
      exact .inl ⟨hi, by rw [← h.len]; exact hlt⟩
    · rw [List.getElem?_append_right hge] at hi
      have : i - g.β.length = 0 := by
        have := (List.getElem?_eq_some_iff.1 hi).1
        simp at this
        omega
      rw [this] at hi
      simp at hi
      exact .inr ⟨by have := h.len; omega, hi.symm⟩
  refine ⟨⟨?_, by simp [h.len], ?_, ?_, ?_, ?_, h.tlen, ?_, h.tnil, h.tdis, ?_, ?_⟩, hext, ⟨rfl, rfl, rfl, by simp, fun k hk _ => heap_alloc_lt (Nat.lt_of_lt_of_le hk h.lo)⟩⟩
  · intro b o c hc
    rw [cell_old (heap_alloc_lt (h.Ilt hc))]
    exact h.imm b o c hc
  · refine List.nodup_append.2 ⟨h.nodup, by simp, ?_⟩
    intro a ha b hb' heq
    simp at hb'
    subst hb'
    subst heq
    obtain ⟨i, hi⟩ := List.mem_iff_getElem?.1 ha
    exact absurd (h.bold i _ hi) (Nat.lt_irrefl _)
  · intro i blk bx' hi hbx
    rcases hcase i blk hi with ⟨h1, h2⟩ | ⟨rfl, rfl⟩
    · rw [List.getElem?_append_left h2] at hbx
      exact (h.box i blk bx' h1 hbx).mono hext (heap_alloc_lt (h.bold i blk h1))
    · simp at hbx
      subst hbx
      exact hb
  · intro i blk bx' hi hbx hd o
    rcases hcase i blk hi with ⟨h1, h2⟩ | ⟨rfl, rfl⟩
    · rw [List.getElem?_append_left h2] at hbx
      exact h.sep i blk bx' h1 hbx hd o
    · exact h.Inew o
  · intro i blk hi
    rcases hcase i blk hi with ⟨h1, h2⟩ | ⟨rfl, rfl⟩
    · exact h.bwr i blk h1
    · exact .inl h.lo
  · intro k n blk e z cap ht hn
    obtain ⟨⟨cur, h1, h2, h3, h4⟩, h5, h6, h7⟩ := h.tok k n blk e z cap ht hn
    have hlt : blk < w.heap.size := (Array.getElem?_eq_some_iff.1 h1).1
    refine ⟨⟨cur, by rw [heap_alloc_lt hlt]; exact h1, h2, h3, h4⟩, h5, ?_, h7⟩
    intro hm
    rcases List.mem_append.1 hm with hm | hm
    · exact h6 hm
    · simp at hm; omega
  · have := h.lo; simp; omega
  · intro i blk hi
    rcases hcase i blk hi with ⟨h1, h2⟩ | ⟨rfl, rfl⟩
    · have := h.bold i blk h1; simp; omega
    · simp

theorem getD_splice {α : Type} (cs : List α) (o : Nat) (vs : List α) (d : α) (h : o + vs.length ≤ cs.length) (j : Nat) :
    (cs.take o ++ vs ++ cs.drop (o + vs.length)).getD j d = if o ≤ j ∧ j < o + vs.length then vs.getD (j - o) d else cs.getD j d := by
  simp only [List.getD_eq_getElem?_getD]
  congr 1
  have hto : (cs.take o).length = o := by simp; omega
  split
  · rename_i hj
    rw [List.append_assoc, List.getElem?_append_right (by omega), hto, List.getElem?_append_left (by omega)]
  · rename_i hj
    rcases Nat.lt_or_ge j o with h1 | h1
    · rw [List.append_assoc, List.getElem?_append_left (by omega), List.getElem?_take, if_pos h1]
    · have h2 : o + vs.length ≤ j := by omega
      rw [List.getElem?_append_right (by rw [List.length_append, hto]; omega), List.getElem?_drop, List.length_append, hto, show o + vs.length + (j - (o + vs.length)) = j from by omega]

theorem length_splice (cs : List V) (o : Nat) (vs : List V) (h : o + vs.length ≤ cs.length) : (splice cs o vs).length = cs.length := by
  simp [splice]; omega

/-- One box's block is written: whatever its new content, if it fits. -/
theorem Inv.put {g : Gh} {S : St} {w : World} (h : Inv g S w) (b blk : Nat) (old bx : Bx) (hb : g.β[b]? = some blk) (ho : S.boxes[b]? = some old) (hd : old ≠ .dead) (hdx : bx ≠ .dead) (ob : Obj) (w' : World)
    (hw : ∀ k, k ≠ blk → w'.heap[k]? = w.heap[k]?) (hsz : w'.heap.size = w.heap.size) (hos : w'.os = w.os) (hta : w'.tape = w.tape) (hou : w'.output = w.output)
    (hbox : BoxAt g S.toks w' blk bx) : Mv g S w g { S with boxes := S.boxes.set b bx } w' := by
  have hne : ∀ (i blk' : Nat), g.β[i]? = some blk' → i ≠ b → blk' ≠ blk := by
    intro i blk' hi hib heq
    subst heq
    have h1 := List.getElem?_eq_some_iff.1 hi
    have h2 := List.getElem?_eq_some_iff.1 hb
    exact hib ((List.getElem_inj (h₀ := h1.1) (h₁ := h2.1) h.nodup).1 (h1.2.trans h2.2.symm))
  have hbl : b < S.boxes.length := (List.getElem?_eq_some_iff.1 ho).1
  refine ⟨⟨?_, by simp [h.len], h.nodup, ?_, ?_, h.bwr, h.tlen, ?_, h.tnil, h.tdis, by rw [hsz]; exact h.lo, fun i blk hi => by rw [hsz]; exact h.bold i blk hi⟩, Ext.refl _ _, ⟨hos, hta, hou, by omega, fun k h1 h2 => hw k ?_⟩⟩
  · intro b' o c hc
    rw [cell_old (hw b' ?_)]
    · exact h.imm b' o c hc
    · intro heq; subst heq
      rw [h.sep b b' old hb ho hd o] at hc
      cases hc
  · intro i blk' bx' hi hbx
    by_cases hib : i = b
    · subst hib
      rw [hb] at hi
      cases hi
      simp [hbl] at hbx
      subst hbx
      exact hbox
    · rw [List.getElem?_set_ne (fun e => hib e.symm)] at hbx
      exact (h.box i blk' bx' hi hbx).mono (Ext.refl _ _) (hw _ (hne i blk' hi hib))
  · intro i blk' bx' hi hbx hdd o
    by_cases hib : i = b
    · subst hib
      rw [hb] at hi
      cases hi
      exact h.sep i blk old hb ho hd o
    · rw [List.getElem?_set_ne (fun e => hib e.symm)] at hbx
      exact h.sep i blk' bx' hi hbx hdd o
  · intro k n blk' e z cap ht hn
    obtain ⟨⟨cur, h1, h2, h3, h4⟩, h5, h6, h7⟩ := h.tok k n blk' e z cap ht hn
    refine ⟨⟨cur, ?_, h2, h3, h4⟩, h5, h6, h7⟩
    rw [hw blk' (fun e => h6 (e ▸ List.mem_of_getElem? hb))]
    exact h1
  · intro heq
    subst heq
    rcases h.bwr b k hb with h3 | h3
    · omega
    · exact h2 h3

/-- A new block of immutable cells. -/
theorem Inv.row {g : Gh} {S : St} {w : World} (h : Inv g S w) (vs : Array Value) (ty : TypeId) :
    Mv g S w { g with I := fun b o => if b = w.heap.size then vs[o]? else g.I b o } S (w.alloc (.cells vs ty)) := by
  have hext : Ext g S.toks { g with I := fun b o => if b = w.heap.size then vs[o]? else g.I b o } S.toks := by
    refine ⟨fun b o c hc => ?_, fun _ _ h => h, fun _ n h => ⟨n, h, Nat.le_refl _, fun _ => rfl⟩, rfl, rfl, fun b o c hc => ?_⟩
    · have := h.Ilt hc
      simp only []
      rw [if_neg (by omega)]
      exact hc
    · simp only [] at hc
      split at hc
      · right; left; have := h.lo; omega
      · exact .inl hc
  refine ⟨⟨?_, h.len, h.nodup, ?_, ?_, h.bwr, h.tlen, ?_, h.tnil, h.tdis, by have := h.lo; simp; omega, fun i blk hi => by have := h.bold i blk hi; simp; omega⟩, hext, ⟨rfl, rfl, rfl, by simp, fun k hk _ => heap_alloc_lt (Nat.lt_of_lt_of_le hk h.lo)⟩⟩
  · intro b o c hc
    simp only [] at hc
    split at hc
    · rename_i hb
      subst hb
      rw [World.cell?_alloc_new]
      exact hc
    · rw [cell_old (heap_alloc_lt (h.Ilt hc))]
      exact h.imm b o c hc
  · intro i blk bx hi hbx
    exact (h.box i blk bx hi hbx).mono hext (heap_alloc_lt (h.bold i blk hi))
  · intro i blk bx hi hbx hd o
    have := h.bold i blk hi
    simp only []
    rw [if_neg (by omega)]
    exact h.sep i blk bx hi hbx hd o
  · intro k n blk e z cap ht hn
    obtain ⟨⟨cur, h1, h2, h3, h4⟩, h5, h6, h7⟩ := h.tok k n blk e z cap ht hn
    have hlt : blk < w.heap.size := (Array.getElem?_eq_some_iff.1 h1).1
    refine ⟨⟨cur, by rw [heap_alloc_lt hlt]; exact h1, h2, h3, h4⟩, fun o ho => ?_, h6, h7⟩
    simp only []
    rw [if_neg (by omega)]
    exact h5 o ho

/-- The cells of a list of elements, laid flat. -/
def flat (es : List (List T)) : List T := es.flatten

theorem flat_get {es : List (List T)} {z : Nat} (hz : ∀ i, i < es.length → (es.getD i []).length = z) : ∀ (i j : Nat), i < es.length → j < z → (flat es).getD (i * z + j) .nilp = (es.getD i []).getD j .nilp := by
  induction es with
  | nil => intro i j hi; simp at hi
  | cons e es ih =>
    intro i j hi hj
    have h0 : e.length = z := by simpa using hz 0 (by simp)
    cases i with
    | zero =>
      simp only [flat, List.flatten_cons, List.getD_eq_getElem?_getD, Nat.zero_mul, Nat.zero_add, List.getElem?_cons_zero, Option.getD_some]
      rw [List.getElem?_append_left (by omega)]
    | succ i =>
      have := ih (fun k hk => by have := hz (k + 1) (by simp; omega); simpa using this) i j (by simpa using hi) hj
      simp only [List.getD_eq_getElem?_getD, List.getElem?_cons_succ] at this ⊢
      rw [← this]
      simp only [flat, List.flatten_cons]
      rw [List.getElem?_append_right (by rw [h0, Nat.add_mul]; omega)]
      congr 2
      rw [h0, Nat.add_mul]
      omega

theorem flat_length {es : List (List T)} {z : Nat} (hz : ∀ e ∈ es, e.length = z) : (flat es).length = es.length * z := by
  induction es with
  | nil => simp [flat]
  | cons e es ih =>
    have := ih (fun x hx => hz x (by simp [hx]))
    simp only [flat, List.flatten_cons, List.length_append, List.length_cons] at this ⊢
    rw [this, hz e (by simp), Nat.add_mul]
    omega

end E
end Go.Proofs.Ythfnaaeddlnckaa
