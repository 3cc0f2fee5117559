/- The engine, part 8: append. -/
import Derived.Test.YthfnaaeddlnckaaEng7
set_option linter.unusedSimpArgs false
set_option linter.unusedVariables false
namespace Go.Proofs.Ythfnaaeddlnckaa
namespace E
section
variable {P : Program} {o : Oper} {ρ : Operand → Value} {g : Gh} {S : St} {w : World} {K : V → St → Prop}

theorem RelT.oneCell {I : Nat → Nat → Option Value} {x : T} {v : Value} (h : RelT I x v) : v.oneCell' = true := by cases h <;> rfl

theorem RelT.flat {I : Nat → Nat → Option Value} {es : List (List T)} {z : Nat} {b off : Nat} {c : Nat → Nat → Value} (hz : ∀ x ∈ es, x.length = z)
    (hI : ∀ i j, i < es.length → j < z → I b (off + i * z + j) = some (c i j)) (hr : ∀ i j, i < es.length → j < z → RelT I ((es.getD i []).getD j .nilp) (c i j)) :
    ∃ news : List Value, news.length = es.length * z ∧ (∀ (j : Nat) (u : Value), news[j]? = some u → I b (off + j) = some u) ∧
      (∀ i j, i < es.length → j < z → RelT I ((es.getD i []).getD j .nilp) (news.getD (i * z + j) undef)) ∧ ∀ u ∈ news, u.oneCell' = true := by
  by_cases hz0 : z = 0
  · subst hz0
    exact ⟨[], by simp, by simp, fun i j _ h => absurd h (Nat.not_lt_zero _), by simp⟩
  · have hpos : 0 < z := Nat.pos_of_ne_zero hz0
    have hdm : ∀ k, k < es.length * z → k / z < es.length ∧ k % z < z ∧ k / z * z + k % z = k := fun k hk =>
      ⟨(Nat.div_lt_iff_lt_mul hpos).2 hk, Nat.mod_lt _ hpos, by rw [Nat.mul_comm]; exact Nat.div_add_mod k z⟩
    refine ⟨(List.range (es.length * z)).map fun k => c (k / z) (k % z), by simp, fun j u hu => ?_, fun i j hi hj => ?_, fun u hu => ?_⟩
    · have hlt : j < es.length * z := by have := (List.getElem?_eq_some_iff.1 hu).1; simpa using this
      obtain ⟨h1, h2, h3⟩ := hdm j hlt
      simp [hlt] at hu
      have := hI _ _ h1 h2
      rw [Nat.add_assoc, h3] at this
      rw [this, hu]
    · have hlt : i * z + j < es.length * z := by
        have : (i + 1) * z ≤ es.length * z := Nat.mul_le_mul_right _ hi
        rw [Nat.add_mul] at this; omega
      have e1 : (i * z + j) / z = i := by rw [Nat.mul_comm, Nat.mul_add_div hpos, Nat.div_eq_of_lt hj]; omega
      have e2 : (i * z + j) % z = j := by rw [Nat.mul_comm, Nat.mul_add_mod, Nat.mod_eq_of_lt hj]
      have := hr i j hi hj
      simpa [List.getD_eq_getElem?_getD, hlt, e1, e2] using this
    · obtain ⟨k, hk, rfl⟩ := List.mem_map.1 hu
      have hlt : k < es.length * z := by simpa using hk
      obtain ⟨h1, h2, h3⟩ := hdm k hlt
      exact (hr _ _ h1 h2).oneCell

/-- What is appended lies in memory. -/
theorem src_spec {sz : Nat} {x : V} {v : Value} {new : List (List T)} (hsz : 0 < sz) (hI : Inv g S w) (hv : RelV g S.toks x v) (hs : srcK sz x S = some new) (hn : ∀ y ∈ new, y.length = sz) :
    (v = .slice none 0 0 ∧ new = []) ∨
    ∃ (b off c : Nat) (news : List Value), v = .slice (some ⟨b, off, none⟩) new.length c ∧ news.length = new.length * sz ∧ (∀ (j : Nat) (u : Value), news[j]? = some u → w.cell? ((⟨b, off, none⟩ : Addr).add j) = some u) ∧
      (∀ i j, i < new.length → j < sz → RelT g.I ((new.getD i []).getD j .nilp) (news.getD (i * sz + j) undef)) ∧ ∀ u ∈ news, u.oneCell' = true := by
  unfold srcK at hs
  split at hs
  · rename_i es hes
    simp only [Option.some.injEq] at hs
    subst hs
    have hrel := esOf_rel hv hes
    cases hrel with
    | slnil => exact .inl ⟨rfl, rfl⟩
    | sl _ b off cap z c hz hc hm hcell hr =>
      right
      by_cases h0 : es = []
      · subst h0
        exact ⟨b, off, cap, [], rfl, by simp, by simp, fun i j hi => by simp at hi, by simp⟩
      · have hpos : 0 < es.length := List.length_pos_iff.2 h0
        have hzz : z = sz := by
          rw [← hz 0 hpos]
          exact hn _ (by simp [List.getD_eq_getElem?_getD, hpos])
        subst hzz
        obtain ⟨news, n1, n2, n3, n4⟩ := RelT.flat hn hcell hr
        exact ⟨b, off, cap, news, rfl, n1, fun j u hu => by rw [Addr.add_lit]; exact hI.imm _ _ _ (n2 j u hu), n3, n4⟩
  · cases x with
    | vw b off n =>
      simp only [] at hs
      split at hs
      · rename_i cs hcs
        split at hs
        · rename_i ts hts
          split at hs
          · rename_i hlen
            simp only [Option.some.injEq] at hs
            right
            cases hv with
            | vw _ _ _ blk cap hβ hc hm =>
              obtain ⟨vs, ty, hh, hvsz, hrel⟩ := hI.box b blk _ hβ hcs
              obtain ⟨t1, t2⟩ := toTs_spec hts
              have hnl : new.length = n := by rw [← hs]; simp
              have hlen2 : ((cs.drop off).take (n * sz)).length = n * sz := by rw [← t1]; exact hlen
              have hle : off + n * sz ≤ cs.length ∨ n * sz = 0 := by
                simp at hlen2; omega
              have hcell : ∀ j, j < n * sz → RelT g.I (ts.getD j .nilp) (vs.getD (off + j) undef) := by
                intro j hj
                have h1 := t2 j (by rw [hlen2]; exact hj)
                have h2 := hrel (off + j) (by omega)
                refine toT_rel h2 ?_
                rw [← h1]
                simp [List.getD_eq_getElem?_getD, List.getElem?_take, hj]
              refine ⟨blk, off, cap, (List.range (n * sz)).map fun j => vs.getD (off + j) undef, by rw [hnl], by simp [hnl], fun j u hu => ?_, fun i j hi hj => ?_, fun u hu => ?_⟩
              · have hlt : j < n * sz := by have := (List.getElem?_eq_some_iff.1 hu).1; simpa using this
                rw [Addr.add_lit, cell_of_row w blk (off + j) vs ty _ hh]
                have : off + j < vs.size := by omega
                simp [hlt, this] at hu
                simp [this, hu]
              · have hin : i < n := by omega
                have hlt : i * sz + j < n * sz := by
                  have : (i + 1) * sz ≤ n * sz := Nat.mul_le_mul_right _ hin
                  rw [Nat.add_mul] at this; omega
                have h1 := hcell _ hlt
                have e1 : (new.getD i []).getD j .nilp = ts.getD (i * sz + j) .nilp := by
                  rw [← hs]
                  simp [List.getD_eq_getElem?_getD, hin, List.getElem?_take, hj]
                rw [e1]
                simpa [List.getD_eq_getElem?_getD, hlt] using h1
              · obtain ⟨k, hk, rfl⟩ := List.mem_map.1 hu
                exact (hcell k (by simpa using hk)).oneCell
          · cases hs
        · cases hs
      · cases hs
    | _ => simp at hs

/-- The tree of what two rows of cells hold, one behind the other. -/
theorem two_rows {I : Nat → Nat → Option Value} {es new : List (List T)} {sz : Nat} (hes : ∀ y ∈ es, y.length = sz) (hnew : ∀ y ∈ new, y.length = sz) {xs news : List Value} (hxl : xs.length = es.length * sz) (hnl : news.length = new.length * sz)
    (hx : ∀ i j, i < es.length → j < sz → RelT I ((es.getD i []).getD j .nilp) (xs.getD (i * sz + j) undef)) (hn : ∀ i j, i < new.length → j < sz → RelT I ((new.getD i []).getD j .nilp) (news.getD (i * sz + j) undef)) :
    ∀ i j, i < (es ++ new).length → j < sz → RelT I (((es ++ new).getD i []).getD j .nilp) ((xs ++ news).getD (i * sz + j) undef) := by
  intro i j hi hj
  rcases Nat.lt_or_ge i es.length with h | h
  · have h1 : (es ++ new).getD i [] = es.getD i [] := by simp [List.getD_eq_getElem?_getD, List.getElem?_append_left h]
    have hlt : i * sz + j < xs.length := by
      have : (i + 1) * sz ≤ es.length * sz := Nat.mul_le_mul_right _ h
      rw [Nat.add_mul] at this; omega
    have h2 : (xs ++ news).getD (i * sz + j) undef = xs.getD (i * sz + j) undef := by simp only [List.getD_eq_getElem?_getD, List.getElem?_append_left hlt]
    rw [h1, h2]
    exact hx i j h hj
  · have h1 : (es ++ new).getD i [] = new.getD (i - es.length) [] := by simp [List.getD_eq_getElem?_getD, List.getElem?_append_right h]
    have hge : xs.length ≤ i * sz + j := by
      have : es.length * sz ≤ i * sz := Nat.mul_le_mul_right _ h
      omega
    have h2 : (xs ++ news).getD (i * sz + j) undef = news.getD ((i - es.length) * sz + j) undef := by
      simp only [List.getD_eq_getElem?_getD, List.getElem?_append_right hge]
      congr 2
      rw [hxl, Nat.sub_mul]
      have : es.length * sz ≤ i * sz := Nat.mul_le_mul_right _ h
      omega
    rw [h1, h2]
    exact hn _ _ (by simp at hi; omega) hj

/-- A new block that a growable slice owns: the token q is the new one's. -/
theorem Inv.newTok (h : Inv g S w) (cells : Array Value) (e : TypeId) (sz n cap q : Nat) (hcs : cells.size = cap * sz) (hnc : n ≤ cap) (hcm : cap ≤ maxLen) (τ' : List (Option (Nat × TypeId × Nat × Nat))) (tk' : List Nat)
    (hlen : τ'.length = tk'.length) (hq : τ'[q]? = some (some (w.heap.size, e, sz, cap)) ∧ tk'[q]? = some n) (hold : ∀ k, k ≠ q → τ'[k]? = g.τ[k]? ∧ tk'[k]? = S.toks[k]?)
    (hgrow : ∀ m, S.toks[q]? = some m → m < n) :
    Mv g S w { g with I := fun b o => if b = w.heap.size then (if o < n * sz then cells[o]? else none) else g.I b o, τ := τ' } { S with toks := tk' } (w.drew.alloc (.cells cells e)) := by
  have hext : Ext g S.toks { g with I := fun b o => if b = w.heap.size then (if o < n * sz then cells[o]? else none) else g.I b o, τ := τ' } tk' := by
    refine ⟨fun b o c hc => ?_, fun _ _ h => h, fun k m hm => ?_, rfl, rfl, fun b o c hc => ?_⟩
    · have := h.Ilt hc
      simp only []
      rw [if_neg (by omega)]
      exact hc
    · by_cases hk : k = q
      · subst hk
        have := hgrow m hm
        exact ⟨n, hq.2, by omega, fun he => by omega⟩
      · exact ⟨m, by rw [(hold k hk).2]; exact hm, Nat.le_refl _, fun _ => (hold k hk).1⟩
    · simp only [] at hc
      split at hc
      · right; left; have := h.lo; omega
      · exact .inl hc
  have hlt : ∀ {k : Nat}, k < w.heap.size → (w.drew.alloc (.cells cells e)).heap[k]? = w.heap[k]? := fun {k} hk => heap_alloc_lt (w := w.drew) (by simpa using hk)
  refine ⟨⟨?_, h.len, h.nodup, ?_, ?_, h.bwr, hlen, ?_, ?_, ?_, by have := h.lo; simp; omega, fun i blk hi => by have := h.bold i blk hi; simp; omega⟩, hext, ⟨rfl, rfl, rfl, by simp, fun k hk _ => hlt (Nat.lt_of_lt_of_le hk h.lo)⟩⟩
  · intro b o c hc
    simp only [] at hc
    split at hc
    · rename_i hb
      subst hb
      split at hc
      · have := World.cell?_alloc_new (w := w.drew) cells e o
        exact this.trans hc
      · cases hc
    · rw [cell_old (hlt (h.Ilt hc))]
      exact h.imm b o c hc
  · intro i blk bx hi hbx
    exact (h.box i blk bx hi hbx).mono hext (hlt (h.bold i blk hi))
  · intro i blk bx hi hbx hd o
    have := h.bold i blk hi
    simp only []
    rw [if_neg (by omega)]
    exact h.sep i blk bx hi hbx hd o
  · intro k m blk e' z' cap' ht hm
    by_cases hk : k = q
    · subst hk
      simp only [] at ht hm
      rw [hq.1] at ht
      rw [hq.2] at hm
      simp only [Option.some.injEq, Prod.mk.injEq] at ht hm
      obtain ⟨rfl, rfl, rfl, rfl⟩ := ht
      subst hm
      refine ⟨⟨cells, heap_alloc_new w.drew _, hcs, hnc, hcm⟩, fun o ho => ?_, fun hmem => ?_, .inl h.lo⟩
      · simp only [if_true]
        rw [if_neg (by omega)]
      · obtain ⟨i, hi⟩ := List.mem_iff_getElem?.1 hmem
        exact absurd (h.bold i _ hi) (Nat.lt_irrefl _)
    · simp only [] at ht hm
      rw [(hold k hk).1] at ht
      rw [(hold k hk).2] at hm
      obtain ⟨⟨cur, h1, h2, h3, h4⟩, h5, h6, h7⟩ := h.tok k m blk e' z' cap' ht hm
      have hblt : blk < w.heap.size := (Array.getElem?_eq_some_iff.1 h1).1
      refine ⟨⟨cur, by rw [hlt hblt]; exact h1, h2, h3, h4⟩, fun o ho => ?_, h6, h7⟩
      simp only []
      rw [if_neg (by omega)]
      exact h5 o ho
  · intro k m ht hm
    by_cases hk : k = q
    · subst hk
      simp only [] at ht
      rw [hq.1] at ht
      simp at ht
    · simp only [] at ht hm
      rw [(hold k hk).1] at ht
      rw [(hold k hk).2] at hm
      exact h.tnil k m ht hm
  · intro k l x y hx hy hxy
    simp only [] at hx hy
    have oldlt : ∀ (k : Nat) (x : Nat × TypeId × Nat × Nat), k ≠ q → τ'[k]? = some (some x) → x.1 < w.heap.size := by
      intro k x hk hx
      have hkl : k < tk'.length := by rw [← hlen]; exact (List.getElem?_eq_some_iff.1 hx).1
      rw [(hold k hk).1] at hx
      have hm : S.toks[k]? = some tk'[k] := by rw [← (hold k hk).2]; simp [hkl]
      obtain ⟨⟨cur, h1, _⟩, _⟩ := h.tok k _ x.1 x.2.1 x.2.2.1 x.2.2.2 hx hm
      exact (Array.getElem?_eq_some_iff.1 h1).1
    by_cases hk : k = q <;> by_cases hl : l = q
    · rw [hk, hl]
    · subst hk
      rw [hq.1] at hx
      simp at hx
      have := oldlt l y hl hy
      rw [← hx] at hxy
      simp at hxy
      omega
    · subst hl
      rw [hq.1] at hy
      simp at hy
      have := oldlt k x hk hx
      rw [← hy] at hxy
      simp at hxy
      omega
    · rw [(hold k hk).1] at hx
      rw [(hold l hl).1] at hy
      exact h.tdis k l x y hx hy hxy

/-- A growable slice grows in place. -/
theorem Inv.room (h : Inv g S w) (k n m blk cap sz : Nat) (e : TypeId) (hτ : g.τ[k]? = some (some (blk, e, sz, cap))) (hn : S.toks[k]? = some n) (hroom : n + m ≤ cap) (cur : Array Value) (hcur : w.heap[blk]? = some (.cells cur e (0, 0)))
    (news : List Value) (hl : news.length = m * sz) :
    Mv g S w { g with I := fun b o => if b = blk ∧ n * sz ≤ o ∧ o < (n + m) * sz then news[o - n * sz]? else g.I b o } { S with toks := S.toks.set k (n + m) }
      (w.setRow blk (cur.toList.take (n * sz) ++ news ++ cur.toList.drop (n * sz + news.length)).toArray) := by
  obtain ⟨⟨cur', t1, t2, t3, t4⟩, t5, t6, t7⟩ := h.tok k n blk e sz cap hτ hn
  rw [hcur] at t1
  simp only [Option.some.injEq, Obj.cells.injEq, and_true] at t1
  obtain ⟨rfl, _⟩ := t1
  have hkl : k < S.toks.length := (List.getElem?_eq_some_iff.1 hn).1
  have hfit : n * sz + news.length ≤ cur.size := by
    rw [hl, t2, ← Nat.add_mul]; exact Nat.mul_le_mul_right _ hroom
  have hmul : (n + m) * sz = n * sz + m * sz := Nat.add_mul _ _ _
  have hext : Ext g S.toks { g with I := fun b o => if b = blk ∧ n * sz ≤ o ∧ o < (n + m) * sz then news[o - n * sz]? else g.I b o } (S.toks.set k (n + m)) := by
    refine ⟨fun b o c hc => ?_, fun _ _ h => h, fun i j hj => ?_, rfl, rfl, fun b o c hc => ?_⟩
    · simp only []
      rw [if_neg]
      · exact hc
      · rintro ⟨rfl, h1, _⟩
        rw [t5 o h1] at hc
        cases hc
    · by_cases hik : i = k
      · subst hik
        rw [hn] at hj
        cases hj
        exact ⟨n + m, by simp [hkl], by omega, fun _ => rfl⟩
      · exact ⟨j, by rw [List.getElem?_set_ne (fun e => hik e.symm)]; exact hj, Nat.le_refl _, fun _ => rfl⟩
    · simp only [] at hc
      split at hc
      · rename_i hb
        rw [hb.1]
        rcases t7 with t7 | t7
        · exact .inr (.inl t7)
        · exact .inr (.inr t7)
      · exact .inl hc
  have hother : ∀ {b : Nat}, b ≠ blk → (w.setRow blk (cur.toList.take (n * sz) ++ news ++ cur.toList.drop (n * sz + news.length)).toArray).heap[b]? = w.heap[b]? := fun {b} hb => setRow_other w blk b _ hb
  have hnew : (w.setRow blk (cur.toList.take (n * sz) ++ news ++ cur.toList.drop (n * sz + news.length)).toArray).heap[blk]? = some (.cells (cur.toList.take (n * sz) ++ news ++ cur.toList.drop (n * sz + news.length)).toArray e (0, 0)) := setRow_heap w blk cur _ e _ hcur
  have hget : ∀ j, (cur.toList.take (n * sz) ++ news ++ cur.toList.drop (n * sz + news.length)).getD j undef = if n * sz ≤ j ∧ j < n * sz + news.length then news.getD (j - n * sz) undef else cur.toList.getD j undef :=
    fun j => getD_splice cur.toList (n * sz) news undef (by simpa using hfit) j
  have hsz : (cur.toList.take (n * sz) ++ news ++ cur.toList.drop (n * sz + news.length)).length = cur.size := by simp; omega
  refine ⟨⟨?_, h.len, h.nodup, ?_, ?_, h.bwr, by simp [h.tlen], ?_, ?_, h.tdis, by have := h.lo; simpa using this, fun i b hi => by have := h.bold i b hi; simpa using this⟩, hext, ⟨rfl, rfl, rfl, by simp, fun b h1 h2 => hother ?_⟩⟩
  · intro b o c hc
    simp only [] at hc
    by_cases hb : b = blk
    · subst hb
      have hc' : ∀ d, (cur.toList.take (n * sz) ++ news ++ cur.toList.drop (n * sz + news.length)).getD o undef = d → o < cur.size → (w.setRow b (cur.toList.take (n * sz) ++ news ++ cur.toList.drop (n * sz + news.length)).toArray).cell? ⟨b, o, none⟩ = some d := by
        intro d hd ho
        rw [cell_of_row _ b o _ e _ hnew, List.getElem?_toArray, ← hd, List.getD_eq_getElem?_getD]
        have : o < (cur.toList.take (n * sz) ++ news ++ cur.toList.drop (n * sz + news.length)).length := by rw [hsz]; exact ho
        rw [List.getElem?_eq_getElem this]
        rfl
      split at hc
      · rename_i hr
        have hlt : o - n * sz < news.length := by omega
        refine hc' c ?_ (by omega)
        rw [hget o, if_pos (by omega), List.getD_eq_getElem?_getD, hc]
        rfl
      · rename_i hr
        have hold := h.imm b o c hc
        rw [cell_of_row w b o cur e _ hcur] at hold
        have ho : o < cur.size := (Array.getElem?_eq_some_iff.1 hold).1
        have hlt : o < n * sz := by
          rcases Nat.lt_or_ge o (n * sz) with h1 | h1
          · exact h1
          · rw [t5 o h1] at hc; cases hc
        refine hc' c ?_ ho
        rw [hget o, if_neg (by omega), List.getD_eq_getElem?_getD, Array.getElem?_toList, hold]
        rfl
    · rw [if_neg (fun h => hb h.1)] at hc
      rw [cell_old (hother hb)]
      exact h.imm b o c hc
  · intro i b bx hi hbx
    exact (h.box i b bx hi hbx).mono hext (hother (fun e => t6 (e ▸ List.mem_of_getElem? hi)))
  · intro i b bx hi hbx hd o
    simp only []
    rw [if_neg (fun (hh : b = blk ∧ n * sz ≤ o ∧ o < (n + m) * sz) => t6 (hh.1 ▸ List.mem_of_getElem? hi))]
    exact h.sep i b bx hi hbx hd o
  · intro i j b e' z' cap' ht hj
    by_cases hik : i = k
    · subst hik
      rw [hτ] at ht
      simp only [Option.some.injEq, Prod.mk.injEq] at ht
      obtain ⟨rfl, rfl, rfl, rfl⟩ := ht
      simp [hkl] at hj
      subst hj
      refine ⟨⟨_, hnew, by rw [List.size_toArray, hsz]; exact t2, hroom, t4⟩, fun o ho => ?_, t6, t7⟩
      simp only []
      rw [if_neg (by omega)]
      exact t5 o (by omega)
    · simp only [] at hj
      rw [List.getElem?_set_ne (fun e => hik e.symm)] at hj
      obtain ⟨⟨cur', h1, h2, h3, h4⟩, h5, h6, h7⟩ := h.tok i j b e' z' cap' ht hj
      have hbb : b ≠ blk := fun e => hik (h.tdis i k _ _ ht hτ e)
      refine ⟨⟨cur', by rw [hother hbb]; exact h1, h2, h3, h4⟩, fun o ho => ?_, h6, h7⟩
      simp only []
      rw [if_neg (fun (hh : b = blk ∧ n * sz ≤ o ∧ o < (n + m) * sz) => hbb hh.1)]
      exact h5 o ho
  · intro i j ht hj
    by_cases hik : i = k
    · subst hik
      rw [hτ] at ht
      simp at ht
    · simp only [] at hj
      rw [List.getElem?_set_ne (fun e => hik e.symm)] at hj
      exact h.tnil i j ht hj
  · intro e
    subst e
    rcases t7 with t7 | t7
    · omega
    · exact h2 t7

end
end E
end Go.Proofs.Ythfnaaeddlnckaa
