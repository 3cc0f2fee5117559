/- The engine, part 9: append as an operation; slices of slices; equality. -/
import Derived.Test.YthfnaaeddlnckaaEng8
set_option linter.unusedSimpArgs false
set_option linter.unusedVariables false
namespace Go.Proofs.Ythfnaaeddlnckaa
namespace E
section
variable {P : Program} {o : Oper} {ρ : Operand → Value} {g : Gh} {S : St} {w : World} {K : V → St → Prop}

theorem append_run {c : Call} {t : TypeId} {x y : Operand} (ho : o.op = .call c) (hc : c.callee = .builtin .append) (ht : c.argTypes.toList = [t, t]) (hx : c.args.toList = [x, y]) {v : Value} {w' : World}
    (h : (Builtin.append_ #[t, t] o.type #[ρ x, ρ y]).run P w = .ok v w') : (execOp ρ o).run P w = .ok (.value v) w' := by
  have ht' : c.argTypes = #[t, t] := Array.toList_inj.1 (by simpa using ht)
  have hx' : c.args = #[x, y] := Array.toList_inj.1 (by simpa using hx)
  unfold execOp
  simp only [ho, resolve, hc, invoke, builtin, Sem.run_bind, Sem.run_pure, Result.andThen_ok, ht', hx', List.map_toArray, List.map_cons, List.map_nil, h]

/-- A slice whose cells are known, in a new block that the call's growth made. -/
theorem rel_new {I : Nat → Nat → Option Value} {es : List (List T)} {sz b cap N : Nat} (hN : es.length = N) (hcap : es.length ≤ cap) (hcm : cap ≤ maxLen) (hes : ∀ y ∈ es, y.length = sz) {xs : List Value} (hxl : xs.length = es.length * sz)
    (hI : ∀ j, j < es.length * sz → I b j = xs[j]?) (hx : ∀ i j, i < es.length → j < sz → RelT I ((es.getD i []).getD j .nilp) (xs.getD (i * sz + j) undef)) :
    RelT I (.sl es) (.slice (some ⟨b, 0, none⟩) N cap) := by
  subst hN
  refine .sl es b 0 cap sz (fun i j => xs.getD (i * sz + j) undef) (fun i hi => hes _ (by simp [List.getD_eq_getElem?_getD, hi])) hcap hcm (fun i j hi hj => ?_) hx
  have hlt : i * sz + j < es.length * sz := by
    have : (i + 1) * sz ≤ es.length * sz := Nat.mul_le_mul_right _ hi
    rw [Nat.add_mul] at this; omega
  rw [Nat.zero_add, hI _ hlt]
  have : i * sz + j < xs.length := by omega
  simp [List.getD_eq_getElem?_getD, this]

theorem sound_app {c : Call} {t e : TypeId} {j : TypeInfo} {z : Value} {x y : Operand} (ho : o.op = .call c) (hc : c.callee = .builtin .append) (ht : c.argTypes.toList = [t, t]) (hxy : c.args.toList = [x, y]) (hu : P.underlying t = some (.slice e))
    (hj : P.info? e = some j) (hz : j.zero = some z) (hsz : 0 < j.size) (hzs : z.cells.size = j.size) (hI : Inv g S w) {vs vx : V} (hvs : RelV g S.toks vs (ρ x)) (hvx : RelV g S.toks vx (ρ y)) (hK : appK e j.size j.bytes vs vx S K) : Sem1 P o ρ g S w K := by
  unfold appK at hK
  split at hK
  · exact hK.elim
  · rename_i new hsrc
    obtain ⟨hnew, hK⟩ := hK
    have hsrc' := src_spec hsz hI hvx hsrc hnew
    have hml : maxLen = 9223372036854775807 := by decide
    -- a new block: what it holds and what follows
    have mk : ∀ (es : List (List T)) (xs : List Value) (b off cc old : Nat) (news : List Value) (q : Nat) (τ' : List (Option (Nat × TypeId × Nat × Nat))) (tk' : List Nat),
        (∀ u ∈ es, u.length = j.size) → xs.length = es.length * j.size → (∀ i k, i < es.length → k < j.size → RelT g.I ((es.getD i []).getD k .nilp) (xs.getD (i * j.size + k) undef)) →
        news.length = new.length * j.size → (∀ i k, i < new.length → k < j.size → RelT g.I ((new.getD i []).getD k .nilp) (news.getD (i * j.size + k) undef)) →
        es.length + new.length ≤ maxLen → τ'.length = tk'.length → τ'[q]? = some (some (w.heap.size, e, j.size, grownCap w (es.length + new.length) old e)) → tk'[q]? = some (es.length + new.length) →
        (∀ k, k ≠ q → τ'[k]? = g.τ[k]? ∧ tk'[k]? = S.toks[k]?) → (∀ m, S.toks[q]? = some m → m < es.length + new.length) →
        (execOp ρ o).run P w = .ok (.value (.slice (some ⟨w.heap.size, 0, none⟩) (es.length + new.length) (grownCap w (es.length + new.length) old e)))
          (w.drew.alloc (.cells (xs.toArray ++ news.toArray ++ Builtin.zeroCells z.cells (grownCap w (es.length + new.length) old e - (es.length + new.length))) e)) →
        K (.own q e j.size (es ++ new)) { S with toks := tk' } → Sem1 P o ρ g S w K := by
      intro es xs b off cc old news q τ' tk' hes hxl hx hnl hn hmax hlen hτq htq hold hlt hrun hKK
      have hge := grownCap_ge w (es.length + new.length) old e
      have hle := grownCap_le_maxLen w (es.length + new.length) old e hmax
      have hcells : (xs.toArray ++ news.toArray ++ Builtin.zeroCells z.cells (grownCap w (es.length + new.length) old e - (es.length + new.length))).size = grownCap w (es.length + new.length) old e * j.size := by
        simp only [Array.size_append, List.size_toArray, size_zeroCells, hzs, hxl, hnl, ← Nat.add_mul]
        congr 1
        omega
      have hm := hI.newTok (xs.toArray ++ news.toArray ++ Builtin.zeroCells z.cells (grownCap w (es.length + new.length) old e - (es.length + new.length))) e j.size (es.length + new.length) _ q hcells hge hle τ' tk' hlen ⟨hτq, htq⟩ hold hlt
      have hel : (es ++ new).length = es.length + new.length := by simp
      have hall : ∀ u ∈ es ++ new, u.length = j.size := fun u hu => by
        rcases List.mem_append.1 hu with h | h
        · exact hes u h
        · exact hnew u h
      have htwo := two_rows (I := g.I) hes hnew hxl hnl hx hn
      refine ⟨_, _, _, _, _, .inl hrun, hKK, ?_, hm⟩
      refine .own q e j.size (es ++ new) _ (es.length + new.length) (rel_new (xs := xs ++ news) hel (by rw [hel]; exact hge) hle hall (by rw [List.length_append, hxl, hnl, hel, Nat.add_mul]) (fun k hk => ?_) (fun i k hi hk => (htwo i k hi hk).mono hm.ext.I)) hall htq (by rw [hel]; exact Nat.le_refl _)
        (fun _ => .inr ⟨w.heap.size, _, hτq, by rw [hel]⟩)
      rw [hel] at hk
      show (if w.heap.size = w.heap.size then (if k < (es.length + new.length) * j.size then _ else _) else _) = _
      rw [if_pos rfl, if_pos hk]
      have h1 : k < (xs ++ news).length := by rw [List.length_append, hxl, hnl, ← Nat.add_mul]; exact hk
      have h2 : xs.toArray ++ news.toArray = (xs ++ news).toArray := by simp
      rw [h2, Array.getElem?_append_left (by simpa using h1)]
      simp
    cases vs with
    | snil =>
      simp only [] at hK
      obtain ⟨⟨hm, hb⟩, hK⟩ := hK
      have hρ : ρ x = .slice none 0 0 := by generalize ρ x = u at hvs; cases hvs; rfl
      have hnilK : new = [] → (execOp ρ o).run P w = .ok (.value (.slice none 0 0)) w → Sem1 P o ρ g S w K := by
        intro h0 hrun
        subst h0
        refine ⟨_, _, { g with τ := g.τ ++ [none] }, _, w, .inl hrun, hK, .own _ _ _ _ _ 0 .slnil (by simp) (by simp) (by simp) (fun _ => .inl ⟨by rw [← hI.tlen]; simp, rfl, rfl⟩), ?_⟩
        have hcase : ∀ (k : Nat) (v : Option (Nat × TypeId × Nat × Nat)), (g.τ ++ [none])[k]? = some v → (g.τ[k]? = some v ∧ k < S.toks.length) ∨ (k = S.toks.length ∧ v = none) := by
          intro k v hk
          rcases Nat.lt_or_ge k g.τ.length with h | h
          · rw [List.getElem?_append_left h] at hk; exact .inl ⟨hk, by rw [← hI.tlen]; exact h⟩
          · rw [List.getElem?_append_right h] at hk
            have hk0 : k - g.τ.length = 0 := by have := (List.getElem?_eq_some_iff.1 hk).1; simp at this; omega
            rw [hk0] at hk
            simp at hk
            exact .inr ⟨by have := hI.tlen; omega, hk.symm⟩
        have hext : Ext g S.toks { g with τ := g.τ ++ [none] } (S.toks ++ [0]) := ⟨fun _ _ _ h => h, fun _ _ h => h, fun k n hk => by
          have hkl := (List.getElem?_eq_some_iff.1 hk).1
          exact ⟨n, by rw [List.getElem?_append_left hkl]; exact hk, Nat.le_refl _, fun _ => by simp only []; rw [List.getElem?_append_left (by rw [hI.tlen]; exact hkl)]⟩, rfl, rfl, fun _ _ _ h => .inl h⟩
        refine ⟨⟨hI.imm, hI.len, hI.nodup, fun i blk bx h1 h2 => (hI.box i blk bx h1 h2).mono hext rfl, hI.sep, hI.bwr, by simp [hI.tlen], ?_, ?_, ?_, hI.lo, hI.bold⟩, hext, Frm.refl _ _⟩
        · intro k n blk e' z' cap' hk hn
          rcases hcase k _ hk with ⟨h1, h2⟩ | ⟨_, h2⟩
          · simp only [] at hn; rw [List.getElem?_append_left h2] at hn
            exact hI.tok k n blk e' z' cap' h1 hn
          · cases h2
        · intro k n hk hn
          rcases hcase k _ hk with ⟨h1, h2⟩ | ⟨h1, _⟩
          · simp only [] at hn; rw [List.getElem?_append_left h2] at hn
            exact hI.tnil k n h1 hn
          · subst h1; simp at hn; exact hn.symm
        · intro k l a b hk hl hab
          rcases hcase k _ hk with ⟨h1, _⟩ | ⟨_, h2⟩
          · rcases hcase l _ hl with ⟨h3, _⟩ | ⟨_, h4⟩
            · exact hI.tdis k l a b h1 h3 hab
            · cases h4
          · cases h2
      rcases hsrc' with ⟨hy, hn0⟩ | ⟨b, off, cc, news, hy, hnl, hcell, hrel, hone⟩
      · refine hnilK hn0 (append_run ho hc ht hxy ?_)
        rw [hρ, hy]
        exact run_append_owned_none (P := P) w 0 t o.type e j j.size hu hj _ 0 [] (World.ownsRow_nil w 0 e j.size)
      · by_cases h0 : new = []
        · subst h0
          refine hnilK rfl (append_run ho hc ht hxy ?_)
          rw [hρ, hy]
          simp at hnl
          have hn0 : news = [] := List.eq_nil_of_length_eq_zero (by simpa using hnl)
          simp [Builtin.append_, run_underlying hu, sizeOf, typeInfo, hj, Builtin.lenOf, Builtin.firstCells, loadCells, loadCellsFrom]
        · have hpos : 0 < new.length := List.length_pos_iff.2 h0
          have hr := run_append_nil (P := P) w t o.type e j z hu hj hz ⟨b, off, none⟩ new.length cc news hnl hcell hpos (by omega) (by omega)
          refine mk [] [] 0 0 0 0 news S.toks.length (g.τ ++ [some (w.heap.size, e, j.size, grownCap w (([] : List (List T)).length + new.length) 0 e)]) (S.toks ++ [([] : List (List T)).length + new.length]) (by simp) (by simp) (fun i k hi => by simp at hi) hnl hrel (by simpa using hm) (by simp [hI.tlen]) (by rw [← hI.tlen]; simp) (by simp)
            (fun k hk => ⟨?_, ?_⟩) (fun m hm' => by simp at hm') ?_ (by simpa using hK)
          · rcases Nat.lt_or_ge k g.τ.length with h | h
            · rw [List.getElem?_append_left h]
            · rw [List.getElem?_eq_none (by simp; have := hI.tlen; omega), List.getElem?_eq_none h]
          · rcases Nat.lt_or_ge k S.toks.length with h | h
            · rw [List.getElem?_append_left h]
            · rw [List.getElem?_eq_none (by simp; omega), List.getElem?_eq_none h]
          · refine append_run ho hc ht hxy ?_
            rw [hρ, hy]
            simpa using hr
    | full es =>
      simp only [] at hK
      obtain ⟨⟨hne, hes, hm, hb⟩, hK⟩ := hK
      have hpos : 0 < new.length := List.length_pos_iff.2 hne
      rcases hsrc' with ⟨hy, hn0⟩ | ⟨b, off, cc, news, hy, hnl, hcell, hrel, hone⟩
      · exact absurd hn0 hne
      · have key : ∀ (xs : List Value), xs.length = es.length * j.size → (∀ i k, i < es.length → k < j.size → RelT g.I ((es.getD i []).getD k .nilp) (xs.getD (i * j.size + k) undef)) →
            (Builtin.append_ #[t, t] o.type #[ρ x, ρ y]).run P w = .ok (.slice (some ⟨w.heap.size, 0, none⟩) (es.length + new.length) (grownCap w (es.length + new.length) es.length e))
              (w.drew.alloc (.cells (xs.toArray ++ news.toArray ++ Builtin.zeroCells z.cells (grownCap w (es.length + new.length) es.length e - (es.length + new.length))) e)) → Sem1 P o ρ g S w K := by
          intro xs hxl hx hr
          refine mk es xs 0 0 0 es.length news S.toks.length (g.τ ++ [some (w.heap.size, e, j.size, grownCap w (es.length + new.length) es.length e)]) (S.toks ++ [es.length + new.length]) hes hxl hx hnl hrel hm (by simp [hI.tlen]) (by rw [← hI.tlen]; simp) (by simp)
            (fun k hk => ⟨?_, ?_⟩) (fun m hm' => by simp at hm') (append_run ho hc ht hxy hr) hK
          · rcases Nat.lt_or_ge k g.τ.length with h | h
            · rw [List.getElem?_append_left h]
            · rw [List.getElem?_eq_none (by simp; have := hI.tlen; omega), List.getElem?_eq_none h]
          · rcases Nat.lt_or_ge k S.toks.length with h | h
            · rw [List.getElem?_append_left h]
            · rw [List.getElem?_eq_none (by simp; omega), List.getElem?_eq_none h]
        generalize hρ : ρ x = u at hvs
        cases hvs with
        | full _ a h =>
          cases h with
          | slnil =>
            have hr := run_append_nil (P := P) w t o.type e j z hu hj hz ⟨b, off, none⟩ new.length cc news hnl hcell hpos (by simp at hm; omega) (by simp at hb; omega)
            exact key [] (by simp) (fun i k hi => by simp at hi) (by rw [hρ, hy]; simpa using hr)
          | sl _ b2 off2 _ z2 c2 hz2 hc2 hm2 hI2 hr2 =>
            have hz2' : ∀ y ∈ es, y.length = j.size := hes
            by_cases h0 : es = []
            · subst h0
              have hr := run_append_grow (P := P) w t o.type e j z hu hj hz ⟨b2, off2, none⟩ 0 0 [] (by simp) (by simp) ⟨b, off, none⟩ new.length cc news hnl hcell (by omega) (by simp at hm ⊢; omega) (growslice_fits (by omega) (by simpa using hb))
              exact key [] (by simp) (fun i k hi => by simp at hi) (by rw [hρ, hy]; simpa using hr)
            · have hp : 0 < es.length := List.length_pos_iff.2 h0
              have hzz : z2 = j.size := by
                rw [← hz2 0 hp]; exact hes _ (by simp [List.getD_eq_getElem?_getD, hp])
              subst hzz
              obtain ⟨xs, n1, n2, n3, n4⟩ := RelT.flat hes hI2 hr2
              have hr := run_append_grow (P := P) w t o.type e j z hu hj hz ⟨b2, off2, none⟩ es.length es.length xs n1 (fun k u hu => by rw [Addr.add_lit]; exact hI.imm _ _ _ (n2 k u hu)) ⟨b, off, none⟩ new.length cc news hnl hcell (by omega) (by omega) (growslice_fits (by omega) hb)
              exact key xs n1 n3 (by rw [hρ, hy]; exact hr)
    | own k e' z' es =>
      simp only [] at hK
      obtain ⟨⟨rfl, rfl, hk, hm, hb⟩, hK⟩ := hK
      have hkl : k < S.toks.length := (List.getElem?_eq_some_iff.1 hk).1
      generalize hρ : ρ x = u at hvs
      cases hvs with
      | own _ _ _ _ _ n hrel' hzz hn hle hg =>
      rw [hk] at hn
      cases hn
      have hset0 : new = [] → S.toks.set k (es.length + new.length) = S.toks := by
        intro h0; subst h0
        simp only [List.length_nil, Nat.add_zero]
        apply List.ext_getElem?
        intro i
        by_cases hik : i = k
        · subst hik; rw [List.getElem?_set_self hkl, hk]
        · rw [List.getElem?_set_ne (Ne.symm hik)]
      have hsame : new = [] → (execOp ρ o).run P w = .ok (.value u) w → Sem1 P o ρ g S w K := by
        intro h0 hrun
        have h1 := hset0 h0
        subst h0
        rw [h1] at hK
        exact Sem1.still hI hrun (.own k e' j.size (es ++ []) u es.length (by simpa using hrel') (by simpa using hzz) hk (by simp) (by simpa using hg)) hK
      rcases hg rfl with ⟨g1, rfl, rfl⟩ | ⟨blk, cap, g1, rfl⟩
      · -- nil so far
        rcases hsrc' with ⟨hy, hn0⟩ | ⟨b, off, cc, news, hy, hnl, hcell, hrel, hone⟩
        · refine hsame hn0 (append_run ho hc ht hxy ?_)
          rw [hρ, hy]
          exact run_append_owned_none (P := P) w 0 t o.type e' j j.size hu hj _ 0 [] (World.ownsRow_nil w 0 e' j.size)
        · by_cases h0 : new = []
          · subst h0
            refine hsame rfl (append_run ho hc ht hxy ?_)
            rw [hρ, hy]
            have hn0 : news = [] := List.eq_nil_of_length_eq_zero (by simpa using hnl)
            simp [Builtin.append_, run_underlying hu, sizeOf, typeInfo, hj, Builtin.lenOf, Builtin.firstCells, loadCells, loadCellsFrom]
          · have hpos : 0 < new.length := List.length_pos_iff.2 h0
            have hr := run_append_nil (P := P) w t o.type e' j z hu hj hz ⟨b, off, none⟩ new.length cc news hnl hcell hpos (by simp at hm; omega) (by simp at hb; omega)
            refine mk [] [] 0 0 0 0 news k (g.τ.set k (some (w.heap.size, e', j.size, grownCap w (([] : List (List T)).length + new.length) 0 e'))) (S.toks.set k (([] : List (List T)).length + new.length)) (by simp) (by simp) (fun i k hi => by simp at hi) hnl hrel (by simpa using hm) (by simp [hI.tlen])
              (by rw [List.getElem?_set_self (by rw [hI.tlen]; exact hkl)]) (by rw [List.getElem?_set_self hkl]) (fun i hi => ⟨List.getElem?_set_ne (Ne.symm hi), List.getElem?_set_ne (Ne.symm hi)⟩) (fun m hm' => by rw [hk] at hm'; cases hm'; simpa using hpos) ?_ (by simpa using hK)
            refine append_run ho hc ht hxy ?_
            rw [hρ, hy]
            simpa using hr
      · obtain ⟨⟨cur, t1, t2, t3, t4⟩, t5, t6, t7⟩ := hI.tok k es.length blk e' j.size cap g1 hk
        -- the cells that are there
        have hxs : ∃ xs : List Value, xs.length = es.length * j.size ∧ (∀ (q : Nat) (u : Value), xs[q]? = some u → w.cell? ((⟨blk, 0, none⟩ : Addr).add q) = some u) ∧
            (∀ i q, i < es.length → q < j.size → RelT g.I ((es.getD i []).getD q .nilp) (xs.getD (i * j.size + q) undef)) ∧ (∀ q, q < es.length * j.size → g.I blk q = xs[q]?) := by
          cases hrel' with
          | sl _ _ _ _ z2 c2 hz2 hc2 hm2 hI2 hr2 =>
            by_cases h0 : es = []
            · subst h0; exact ⟨[], by simp, by simp, fun i q hi => by simp at hi, fun q hq => by simp at hq⟩
            · have hp : 0 < es.length := List.length_pos_iff.2 h0
              have hzz2 : z2 = j.size := by
                rw [← hz2 0 hp]; exact hzz _ (by simp [List.getD_eq_getElem?_getD, hp])
              subst hzz2
              obtain ⟨xs, n1, n2, n3, n4⟩ := RelT.flat hzz hI2 hr2
              refine ⟨xs, n1, fun q u hu => by rw [Addr.add_lit]; exact hI.imm _ _ _ (n2 q u hu), n3, fun q hq => ?_⟩
              have hql : q < xs.length := by omega
              have := n2 q xs[q] (by simp [hql])
              rw [Nat.zero_add] at this
              rw [this]; simp [hql]
        obtain ⟨xs, x1, x2, x3, x4⟩ := hxs
        rcases hsrc' with ⟨hy, hn0⟩ | ⟨b, off, cc, news, hy, hnl, hcell, hrel, hone⟩
        · refine hsame hn0 (append_run ho hc ht hxy ?_)
          rw [hρ, hy]
          simp [Builtin.append_, run_underlying hu, sizeOf, typeInfo, hj, Builtin.lenOf, Builtin.firstCells, t3, storeCells]
        · by_cases hroom : es.length + new.length ≤ cap
          · have hfit : es.length * j.size + news.length ≤ cur.size := by rw [hnl, t2, ← Nat.add_mul]; exact Nat.mul_le_mul_right _ hroom
            have hr := run_append_room (P := P) w t o.type e' j hu hj blk es.length cap cur t1 ⟨b, off, none⟩ new.length cc news hnl hcell hone hroom hfit
            have hmv := hI.room k es.length new.length blk cap j.size e' g1 hk hroom cur t1 news hnl
            have hel : (es ++ new).length = es.length + new.length := by simp
            have hall : ∀ u ∈ es ++ new, u.length = j.size := fun u hu => by
              rcases List.mem_append.1 hu with h | h
              · exact hzz u h
              · exact hnew u h
            have htwo := two_rows (I := g.I) hzz hnew x1 hnl x3 hrel
            refine ⟨_, _, _, _, _, .inl (append_run ho hc ht hxy (by rw [hρ, hy]; exact hr)), hK, ?_, hmv⟩
            refine .own k e' j.size (es ++ new) _ (es.length + new.length) (rel_new (xs := xs ++ news) hel (by rw [hel]; exact hroom) t4 hall (by rw [List.length_append, x1, hnl, hel, Nat.add_mul]) (fun q hq => ?_) (fun i q hi hq => (htwo i q hi hq).mono hmv.ext.I)) hall
              (List.getElem?_set_self hkl) (by rw [hel]; exact Nat.le_refl _) (fun _ => .inr ⟨blk, cap, g1, by rw [hel]⟩)
            rw [hel] at hq
            show (if blk = blk ∧ es.length * j.size ≤ q ∧ q < (es.length + new.length) * j.size then news[q - es.length * j.size]? else g.I blk q) = _
            rcases Nat.lt_or_ge q (es.length * j.size) with h | h
            · rw [if_neg (by omega), x4 q h, List.getElem?_append_left (by omega)]
            · rw [if_pos ⟨rfl, h, hq⟩, List.getElem?_append_right (by omega), x1]
          · have hlt : cap < es.length + new.length := by omega
            have hr := run_append_grow (P := P) w t o.type e' j z hu hj hz ⟨blk, 0, none⟩ es.length cap xs x1 x2 ⟨b, off, none⟩ new.length cc news hnl hcell hlt (by omega) (growslice_fits hlt hb)
            have hnpos : 0 < new.length := by omega
            exact mk es xs 0 0 0 cap news k (g.τ.set k (some (w.heap.size, e', j.size, grownCap w (es.length + new.length) cap e'))) (S.toks.set k (es.length + new.length)) hzz x1 x3 hnl hrel hm (by simp [hI.tlen])
              (by rw [List.getElem?_set_self (by rw [hI.tlen]; exact hkl)]) (by rw [List.getElem?_set_self hkl]) (fun i hi => ⟨List.getElem?_set_ne (Ne.symm hi), List.getElem?_set_ne (Ne.symm hi)⟩) (fun m hm' => by rw [hk] at hm'; cases hm'; omega)
              (append_run ho hc ht hxy (by rw [hρ, hy]; exact hr)) hK
    | _ => simp at hK

end
end E
end Go.Proofs.Ythfnaaeddlnckaa
