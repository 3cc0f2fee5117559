/- The engine, part 13: one operation of a region, with its guard, on the concrete side. -/
import Derived.Test.YthfnaaeddlnckaaEng12
set_option linter.unusedSimpArgs false
set_option linter.unusedVariables false
namespace Go.Proofs.Ythfnaaeddlnckaa
namespace E
section
variable {P : Program} {o : Oper} {ρ : Operand → Value} {g : Gh} {S : St} {w : World} {K : V → St → Prop}

theorem RelO.at0 {x : Operand} {xs : List Operand} {vs : List V} (h : RelO g S.toks ρ (x :: xs) vs) : RelV g S.toks (vs.getD 0 .und) (ρ x) := h.2 0 x rfl
theorem RelO.at1 {x y : Operand} {xs : List Operand} {vs : List V} (h : RelO g S.toks ρ (x :: y :: xs) vs) : RelV g S.toks (vs.getD 1 .und) (ρ y) := h.2 1 y rfl
theorem RelO.at2 {x y z : Operand} {xs : List Operand} {vs : List V} (h : RelO g S.toks ρ (x :: y :: z :: xs) vs) : RelV g S.toks (vs.getD 2 .und) (ρ z) := h.2 2 z rfl

theorem bsl_ok {sz : Nat} {vs : List V} (h : bslK sz vs S K) : ∀ v ∈ vs, isAggV v = true ∨ cellB v = true := by
  unfold bslK at h
  split at h
  · rename_i es hes
    clear h
    induction vs generalizing es with
    | nil => simp
    | cons v vs ih =>
      simp only [List.mapM_cons, Option.bind_eq_bind, Option.pure_def] at hes
      cases h1 : toTs (cellsV v) with
      | none => simp [h1] at hes
      | some ts =>
        cases h2 : vs.mapM (fun v => toTs (cellsV v)) with
        | none => simp [h1, h2] at hes
        | some rs =>
          intro u hu
          rcases List.mem_cons.1 hu with rfl | hu
          · cases u <;> simp [isAggV, cellB] <;> simp [cellsV, toTs, toT] at h1
          · exact ih rs h2 u hu
  · exact h.elim

set_option maxRecDepth 2000 in
theorem sound_step {k : EK} {xs : List Operand} (hk : kindOf P o = some (k, xs)) (hI : Inv g S w) {vs : List V} (hv : RelO g S.toks ρ xs vs) (hK : estepK k vs S K) : Sem1 P o ρ g S w K := by
  unfold kindOf at hk
  split at hk
  all_goals try (rename_i ho)
  · simp only [Option.some.injEq, Prod.mk.injEq] at hk; obtain ⟨rfl, rfl⟩ := hk; exact sound_mv (.inl ho) hI hv.at0 hK
  · simp only [Option.some.injEq, Prod.mk.injEq] at hk; obtain ⟨rfl, rfl⟩ := hk; exact sound_mv (.inr ho) hI hv.at0 hK
  · simp only [Option.some.injEq, Prod.mk.injEq] at hk; obtain ⟨rfl, rfl⟩ := hk; exact sound_pick ho hI hv.at0 hv.at1 hv.at2 hK
  · simp only [Option.some.injEq, Prod.mk.injEq] at hk; obtain ⟨rfl, rfl⟩ := hk; exact sound_box ho hI hv.at0 hK
  · -- alloc
    split at hk
    · rename_i i hi
      split at hk
      · rename_i z hz
        cases hc : constV z with
        | none => simp [hc] at hk
        | some zv => simp [hc] at hk; obtain ⟨rfl, rfl⟩ := hk; exact sound_alloc ho hi hz hc hI hK
      · cases hk
    · cases hk
  · -- build
    split at hk
    · rename_i i hi
      split at hk
      · rename_i z hz
        split at hk
        · rename_i v ps hc hps
          split at hk
          · rename_i hcond
            simp only [Option.some.injEq, Prod.mk.injEq] at hk; obtain ⟨rfl, rfl⟩ := hk
            simp only [estepK] at hK
            split at hK
            · rename_i cs hf
              refine sound_build ho hi hz hc hps (hcond) hI hv (fun u hu => ?_) hf hK.2
              have := List.all_eq_true.1 hK.1 u hu
              simpa using this
            · exact hK.elim
          · cases hk
        · cases hk
      · cases hk
    · cases hk
  · -- buildSlice
    split at hk
    · rename_i e hu
      split at hk
      · rename_i i hi
        split at hk
        · rename_i z hz
          split at hk
          · rename_i hc
            simp only [Option.some.injEq, Prod.mk.injEq] at hk; obtain ⟨rfl, rfl⟩ := hk
            exact sound_bsl ho hu hi hz hc.1 hc.2.1 hc.2.2.1 hc.2.2.2 hI hv (bsl_ok hK) hK
          · cases hk
        · cases hk
      · cases hk
    · cases hk
  · -- load
    split at hk
    · rename_i n a hs
      simp only [Option.some.injEq, Prod.mk.injEq] at hk; obtain ⟨rfl, rfl⟩ := hk; exact sound_load ho hs hI hv.at0 hK
    · cases hk
  · -- store
    split at hk
    · rename_i n a hs
      simp only [Option.some.injEq, Prod.mk.injEq] at hk; obtain ⟨rfl, rfl⟩ := hk; exact sound_store ho hs hI hv.at0 hv.at1 hK
    · cases hk
  · split at hk
    · rename_i off n a hf
      simp only [Option.some.injEq, Prod.mk.injEq] at hk; obtain ⟨rfl, rfl⟩ := hk; exact sound_faddr ho hf hI hv.at0 hK
    · cases hk
  · split at hk
    · rename_i off n a hf
      simp only [Option.some.injEq, Prod.mk.injEq] at hk; obtain ⟨rfl, rfl⟩ := hk; exact sound_fld ho hf hI hv.at0 hK
    · cases hk
  · split at hk
    · rename_i e hu
      split at hk
      · rename_i j hj
        simp only [Option.some.injEq, Prod.mk.injEq] at hk; obtain ⟨rfl, rfl⟩ := hk; exact sound_iaS ho hu hj hI hv.at0 hv.at1 hK
      · cases hk
    · rename_i len e hu
      split at hk
      · rename_i j hj
        simp only [Option.some.injEq, Prod.mk.injEq] at hk; obtain ⟨rfl, rfl⟩ := hk; exact sound_iaA ho hu hj hI hv.at0 hv.at1 hK
      · cases hk
    · cases hk
  · split at hk
    · rename_i len e hu
      split at hk
      · rename_i n a hs
        simp only [Option.some.injEq, Prod.mk.injEq] at hk; obtain ⟨rfl, rfl⟩ := hk; exact sound_ixA ho hu hs hI hv.at0 hv.at1 hK
      · cases hk
    · rename_i hu
      simp only [Option.some.injEq, Prod.mk.injEq] at hk; obtain ⟨rfl, rfl⟩ := hk; exact sound_ixS ho hu hI hv.at0 hv.at1 hK
    · cases hk
  · -- binOp
    split at hk
    · split at hk
      · cases hk
      · rename_i hop
        simp only [Option.some.injEq, Prod.mk.injEq] at hk; obtain ⟨rfl, rfl⟩ := hk
        exact sound_bin ho ⟨fun e => hop (by rw [e]; rfl), fun e => hop (by rw [e]; rfl)⟩ hI hv.at0 hv.at1 hK
    · split at hk
      · cases hk
      · rename_i hop
        simp only [Option.some.injEq, Prod.mk.injEq] at hk; obtain ⟨rfl, rfl⟩ := hk
        exact sound_bin ho ⟨fun e => hop (by rw [e]; rfl), fun e => hop (by rw [e]; rfl)⟩ hI hv.at0 hv.at1 hK
    · rename_i d hni hns hd
      split at hk
      · rename_i n hn
        split at hk
        · cases hk
        · rename_i hg
          simp only [Option.some.injEq, Prod.mk.injEq] at hk; obtain ⟨rfl, rfl⟩ := hk
          exact sound_eqv (neg := false) ho rfl hn hd (fun k e => hni k e) (fun e => hns e) (by simpa using hg) hI hv.at0 hv.at1 hK
      · rename_i n hn
        split at hk
        · cases hk
        · rename_i hg
          simp only [Option.some.injEq, Prod.mk.injEq] at hk; obtain ⟨rfl, rfl⟩ := hk
          exact sound_eqv (neg := true) ho rfl hn hd (fun k e => hni k e) (fun e => hns e) (by simpa using hg) hI hv.at0 hv.at1 hK
      · cases hk
    · cases hk
  · simp only [Option.some.injEq, Prod.mk.injEq] at hk; obtain ⟨rfl, rfl⟩ := hk; exact sound_un ho hI hv.at0 hK
  · -- convert
    split at hk
    · rename_i k1 k2 h1 h2
      simp only [Option.some.injEq, Prod.mk.injEq] at hk; obtain ⟨rfl, rfl⟩ := hk; exact sound_cvI ho h1 h2 hI hv.at0 hK
    · rename_i h1 h2
      simp only [Option.some.injEq, Prod.mk.injEq] at hk; obtain ⟨rfl, rfl⟩ := hk; exact sound_cvS ho h1 h2 hI hv.at0 hK
    · cases hk
  · simp only [Option.some.injEq, Prod.mk.injEq] at hk; obtain ⟨rfl, rfl⟩ := hk; exact sound_ext ho hI hv.at0 hK
  · simp only [Option.some.injEq, Prod.mk.injEq] at hk; obtain ⟨rfl, rfl⟩ := hk; exact sound_nilc ho hI hv.at0 hK
  · split at hk
    · rename_i hf
      simp only [Option.some.injEq, Prod.mk.injEq] at hk; obtain ⟨rfl, rfl⟩ := hk
      have : ∀ (l : Array Operand), l.isEmpty = true → l = #[] := fun l h => by simpa using h
      rw [this _ hf] at ho
      exact sound_mkfn ho hI hv hK
    · cases hk
  · -- slice
    split at hk
    · rename_i len e hu
      split at hk
      · rename_i j hj
        split at hk
        · cases hk
        · rename_i hm
          simp only [Option.some.injEq, Prod.mk.injEq] at hk; obtain ⟨rfl, rfl⟩ := hk
          simp at hm
          subst hm
          exact sound_slA ho hu hj hI hv hK
      · cases hk
    · rename_i hu
      split at hk
      · cases hk
      · rename_i hm
        simp only [Option.some.injEq, Prod.mk.injEq] at hk; obtain ⟨rfl, rfl⟩ := hk
        simp at hm
        subst hm
        exact sound_slS ho hu hI hv hK
    · rename_i e hu
      split at hk
      · rename_i j hj
        split at hk
        · cases hk
        · rename_i hm
          simp only [Option.some.injEq, Prod.mk.injEq] at hk; obtain ⟨rfl, rfl⟩ := hk
          simp at hm
          subst hm
          exact sound_slL ho hu hj hI hv hK
      · cases hk
    · cases hk
  · -- call
    rename_i c
    split at hk
    · simp only [Option.some.injEq, Prod.mk.injEq] at hk; obtain ⟨rfl, rfl⟩ := hk; exact hK.elim
    · simp only [Option.some.injEq, Prod.mk.injEq] at hk; obtain ⟨rfl, rfl⟩ := hk; exact hK.elim
    · rename_i hc
      split at hk
      · rename_i t x ht hx
        split at hk
        · rename_i hu
          simp only [Option.some.injEq, Prod.mk.injEq] at hk; obtain ⟨rfl, rfl⟩ := hk
          exact sound_lenS ho hc ht hx hu hI hv.at0 hK
        · rename_i e hu
          simp only [Option.some.injEq, Prod.mk.injEq] at hk; obtain ⟨rfl, rfl⟩ := hk
          exact sound_lenL ho hc ht hx hu hI hv.at0 hK
        · rename_i n e hu
          simp only [Option.some.injEq, Prod.mk.injEq] at hk; obtain ⟨rfl, rfl⟩ := hk
          exact sound_lenA ho hc ht hx hu hI hK
        · cases hk
      · cases hk
    · rename_i hc
      split at hk
      · rename_i t u x y ht hx
        split at hk
        · rename_i e hu htu
          split at hk
          · rename_i j hj
            split at hk
            · rename_i z hz
              split at hk
              · rename_i hcond
                simp only [Option.some.injEq, Prod.mk.injEq] at hk; obtain ⟨rfl, rfl⟩ := hk
                have : t = u := by simpa using htu
                subst this
                exact sound_app ho hc ht hx hu hj hz hcond.1 hcond.2 hI hv.at0 hv.at1 hK
              · cases hk
            · cases hk
          · cases hk
        · cases hk
      · cases hk
    · cases hk
  · cases hk

end
end E
end Go.Proofs.Ythfnaaeddlnckaa
