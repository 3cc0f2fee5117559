/- The engine, part 10: slices of arrays, strings and slices. -/
import Derived.Test.YthfnaaeddlnckaaEng9
set_option linter.unusedSimpArgs false
set_option linter.unusedVariables false
namespace Go.Proofs.Ythfnaaeddlnckaa
namespace E
section
variable {P : Program} {o : Oper} {ρ : Operand → Value} {g : Gh} {S : St} {w : World} {K : V → St → Prop}

/-- The bounds of a slice expression, read off the operands. -/
theorem run_bounds (isS : Bool) (len cap : Nat) (lo hi : Option Operand) {vs : List V} (hv : RelO g S.toks ρ (lo.toList ++ hi.toList) vs) (l h : Int)
    (hl : loI lo.isSome vs 0 = l) (hh : loI hi.isSome (vs.drop (if lo.isSome then 1 else 0)) len = h) (h0 : 0 ≤ l) (h1 : l ≤ h) (h2 : h ≤ len) (h3 : len ≤ cap) :
    (Instr.sliceBounds isS len cap (lo.map ρ) (hi.map ρ) none).run P w = .ok (l.toNat, h.toNat, cap) w := by
  have bnd : ∀ (x : Operand) (v : V) (n : Int) (c : BoundsCode) (y : Nat), RelV g S.toks v (ρ x) → (match v with | .t (.int _ m) => m | _ => -1) = n → 0 ≤ n → n ≤ y → (Instr.sliceBound (ρ x) y c).run P w = .ok n.toNat w := by
    intro x v n c y hr hm hn0 hny
    split at hm
    · subst hm
      generalize ρ x = u at hr
      cases hr with
      | t _ _ hh => cases hh with
      | int => simp [Instr.sliceBound, asIntOf, hn0, hny]
    · omega
  cases lo with
  | none =>
    simp [loI] at hl
    subst hl
    cases hi with
    | none =>
      simp [loI] at hh
      subst hh
      simp [Instr.sliceBounds]
    | some y =>
      have hy := hv.2 0 y (by simp)
      simp [loI] at hh
      have e : vs.headD .und = vs.getD 0 .und := by cases vs <;> rfl
      have := bnd y (vs.getD 0 .und) h (if isS then .sliceAcap else .sliceAlen) cap hy (by rw [← hh, ← e]; cases vs <;> rfl) (by omega) (by omega)
      simp [Instr.sliceBounds, this]
  | some x =>
    have hx := hv.2 0 x (by simp)
    simp [loI] at hl
    have e : vs.headD .und = vs.getD 0 .und := by cases vs <;> rfl
    cases hi with
    | none =>
      simp [loI] at hh
      subst hh
      have := bnd x (vs.getD 0 .und) l .sliceB len hx (by rw [← hl, ← e]; cases vs <;> rfl) h0 (by omega)
      simp [Instr.sliceBounds, this]
    | some y =>
      have hy := hv.2 1 y (by simp)
      simp [loI] at hh
      have e2 : (vs.drop 1).headD .und = vs.getD 1 .und := by cases vs with | nil => rfl | cons a vs => cases vs <;> rfl
      have b1 := bnd y (vs.getD 1 .und) h (if isS then .sliceAcap else .sliceAlen) cap hy (by rw [← hh]; cases vs with | nil => rfl | cons a t => cases t <;> rfl) (by omega) (by omega)
      have b2 := bnd x (vs.getD 0 .und) l .sliceB h.toNat hx (by rw [← hl, ← e]; cases vs <;> rfl) h0 (by omega)
      simp [Instr.sliceBounds, b1, b2]

theorem RelO.tail {x : Operand} {xs : List Operand} {vs : List V} (h : RelO g S.toks ρ (x :: xs) vs) : RelO g S.toks ρ xs (vs.drop 1) := by
  refine ⟨by have := h.1; simp at this ⊢; omega, fun j y hy => ?_⟩
  have := h.2 (j + 1) y (by simpa using hy)
  simpa [List.getD_eq_getElem?_getD, Nat.add_comm] using this

theorem sound_slA {t e : TypeId} {len : Nat} {j : TypeInfo} {x : Operand} {lo hi : Option Operand} (ho : o.op = .slice t x lo hi none) (hu : P.underlying t = some (.array len e)) (hj : P.info? e = some j) (hI : Inv g S w) {vs : List V}
    (hv : RelO g S.toks ρ (x :: (lo.toList ++ hi.toList)) vs) (hK : estepK (.slA len j.size lo.isSome hi.isSome) vs S K) : Sem1 P o ρ g S w K := by
  simp only [estepK] at hK
  have hx := hv.2 0 x (by simp)
  split at hK
  · rename_i b off hb
    rw [hb] at hx
    obtain ⟨⟨h0, h1, h2, h3, h4⟩, hK⟩ := hK
    generalize hρ : ρ x = u at hx
    cases hx with
    | ptr _ _ blk hβ =>
    have hd : (vs.drop 1).drop (if lo.isSome = true then 1 else 0) = vs.drop (if lo.isSome = true then 2 else 1) := by
      cases lo.isSome <;> simp [List.drop_drop]
    have hb := run_bounds (P := P) (w := w) false len len lo hi hv.tail _ _ rfl (by rw [hd]) h0 h1 h2 (Nat.le_refl _)
    generalize hl : loI lo.isSome (vs.drop 1) 0 = l at *
    generalize hh : loI hi.isSome (vs.drop (if lo.isSome = true then 2 else 1)) len = h at *
    refine Sem1.still hI (v := .slice (some (if len = l.toNat then ⟨blk, off, none⟩ else ⟨blk, off + l.toNat * j.size, none⟩)) (h.toNat - l.toNat) (len - l.toNat)) ?_ ?_ hK
    · simp only [execOp, ho, hρ, Instr.sliceAt, run_underlying hu, Instr.sureAddr, hb, run_sizeOf' hj, Sem.run_bind, Sem.run_pure, Result.andThen_ok, Addr.add_lit, Option.map_none]
    · have e1 : (h - l).toNat = h.toNat - l.toNat := by omega
      rw [e1]
      rw [if_neg (by omega)]
      exact .vw _ _ _ blk _ hβ (by omega) (by omega)
  · exact hK.elim

theorem sound_slS {t : TypeId} {x : Operand} {lo hi : Option Operand} (ho : o.op = .slice t x lo hi none) (hu : P.underlying t = some .string) (hI : Inv g S w) {vs : List V}
    (hv : RelO g S.toks ρ (x :: (lo.toList ++ hi.toList)) vs) (hK : estepK (.slS lo.isSome hi.isSome) vs S K) : Sem1 P o ρ g S w K := by
  simp only [estepK] at hK
  have hx := hv.2 0 x (by simp)
  split at hK
  · rename_i s hb
    rw [hb] at hx
    obtain ⟨⟨h0, h1, h2⟩, hK⟩ := hK
    generalize hρ : ρ x = u at hx
    cases hx with
    | t _ _ hh => cases hh with
    | str =>
    have hd : (vs.drop 1).drop (if lo.isSome = true then 1 else 0) = vs.drop (if lo.isSome = true then 2 else 1) := by
      cases lo.isSome <;> simp [List.drop_drop]
    have hb := run_bounds (P := P) (w := w) false s.length s.length lo hi hv.tail _ _ rfl (by rw [hd]) h0 h1 h2 (Nat.le_refl _)
    generalize hl : loI lo.isSome (vs.drop 1) 0 = l at *
    generalize hh : loI hi.isSome (vs.drop (if lo.isSome = true then 2 else 1)) s.length = h at *
    have hex : (⟨s.toArray⟩ : ByteArray).extract l.toNat h.toNat = ⟨((s.take h.toNat).drop l.toNat).toArray⟩ := by
      apply ByteArray.ext
      apply Array.ext'
      simp [List.drop_take]
    refine Sem1.still hI (v := .string ⟨((s.take h.toNat).drop l.toNat).toArray⟩) ?_ (.t _ _ (.str _)) hK
    simp only [execOp, ho, hρ, Instr.sliceAt, Instr.slice, run_underlying hu, size_mk, hb, hex, Sem.run_bind, Sem.run_pure, Result.andThen_ok, Option.map_none, Option.isSome_none, Bool.false_eq_true, if_false]
  · exact hK.elim

theorem sound_slL {t e : TypeId} {j : TypeInfo} {x : Operand} {lo hi : Option Operand} (ho : o.op = .slice t x lo hi none) (hu : P.underlying t = some (.slice e)) (hj : P.info? e = some j) (hI : Inv g S w) {vs : List V}
    (hv : RelO g S.toks ρ (x :: (lo.toList ++ hi.toList)) vs) (hK : estepK (.slL j.size lo.isSome hi.isSome false) vs S K) : Sem1 P o ρ g S w K := by
  simp only [estepK] at hK
  have hx := hv.2 0 x (by simp)
  split at hK
  · rename_i es hes
    obtain ⟨⟨_, h0, h1, h2, hsz⟩, hK⟩ := hK
    have hrel := esOf_rel hx hes
    have hd : (vs.drop 1).drop (if lo.isSome = true then 1 else 0) = vs.drop (if lo.isSome = true then 2 else 1) := by
      cases lo.isSome <;> simp [List.drop_drop]
    have hbn := fun cap hc => run_bounds (P := P) (w := w) true es.length cap lo hi hv.tail _ _ rfl (by rw [hd]) h0 h1 h2 hc
    generalize hl : loI lo.isSome (vs.drop 1) 0 = l at *
    generalize hh : loI hi.isSome (vs.drop (if lo.isSome = true then 2 else 1)) es.length = h at *
    have hlen : ((es.take h.toNat).drop l.toNat).length = h.toNat - l.toNat := by simp; omega
    generalize hρ : ρ x = u at hrel
    cases hrel with
    | slnil =>
      have hb := hbn 0 (by simp)
      have hh0 : h = 0 := by simp at h2; omega
      have hl0 : l = 0 := by omega
      refine Sem1.still hI (v := .slice none 0 0) ?_ (.t _ _ (by simpa using RelT.slnil)) hK
      simp at hb
      simp [execOp, ho, hρ, Instr.sliceAt, Instr.slice, run_underlying hu, run_sizeOf' hj, hb, hh0, hl0]
    | sl _ b off cap z c hz hc hm hcell hr =>
      have hb := hbn cap hc
      refine Sem1.still hI (v := .slice (some (if cap = l.toNat then ⟨b, off, none⟩ else ⟨b, off + l.toNat * j.size, none⟩)) (h.toNat - l.toNat) (cap - l.toNat)) ?_ (.t _ _ ?_) hK
      · simp only [execOp, ho, hρ, Instr.sliceAt, Instr.slice, run_underlying hu, hb, run_sizeOf' hj, Sem.run_bind, Sem.run_pure, Result.andThen_ok, Option.map_none, Option.map_some, Addr.add_lit]
        by_cases hcl : cap = l.toNat <;> simp [hcl]
      · rw [← hlen]
        by_cases hcl : cap = l.toNat
        · have hnil : (es.take h.toNat).drop l.toNat = [] := List.eq_nil_of_length_eq_zero (by omega)
          rw [hnil, if_pos hcl]
          exact .sl [] b off (cap - l.toNat) j.size (fun _ _ => undef) (by simp) (by simp) (by omega) (by simp) (by simp)
        · rw [if_neg hcl]
          by_cases hnil : (es.take h.toNat).drop l.toNat = []
          · rw [hnil]
            exact .sl [] b (off + l.toNat * j.size) (cap - l.toNat) j.size (fun _ _ => undef) (by simp) (by simp) (by omega) (by simp) (by simp)
          · have hpos : 0 < ((es.take h.toNat).drop l.toNat).length := List.length_pos_iff.2 hnil
            have hzz : z = j.size := by
              rw [← hz 0 (by omega)]
              exact hsz _ (by have : 0 < es.length := by omega
                              simp [List.getD_eq_getElem?_getD, this])
            subst hzz
            have hget : ∀ i, i < h.toNat - l.toNat → ((es.take h.toNat).drop l.toNat).getD i [] = es.getD (l.toNat + i) [] := by
              intro i hi
              simp only [List.getD_eq_getElem?_getD, List.getElem?_drop, List.getElem?_take]
              rw [if_pos (by omega)]
            refine .sl _ b (off + l.toNat * j.size) (cap - l.toNat) j.size (fun i q => c (l.toNat + i) q) (fun i hi => ?_) (by omega) (by omega) (fun i q hi hq => ?_) (fun i q hi hq => ?_)
            · rw [hget i (by omega)]; exact hz _ (by omega)
            · have := hcell (l.toNat + i) q (by omega) hq
              rw [← this]
              congr 1
              rw [Nat.add_mul]; omega
            · rw [hget i (by omega)]; exact hr _ q (by omega) hq
  · exact hK.elim

end
end E
end Go.Proofs.Ythfnaaeddlnckaa
