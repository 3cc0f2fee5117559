/- Chapter 32: the parser of expressions as a contract; steps of a reading in states. -/
import Derived.Test.YtpggidmbnjfmaaaGreatDoorPsc
set_option linter.unusedSimpArgs false
set_option linter.unusedVariables false
set_option maxHeartbeats 4000000
set_option maxRecDepth 8000
namespace Go.Proofs.YtpggidmbnjfmaaaGreatDoor
open E

def Dd {β : Type} (L : List Tok) (i : Nat) (bd : Bool) (E : List Tok → Option (Rd β)) (res : Rd β) : Prop := i ≤ L.length ∧ ((bd = false ∧ E (L.drop i) = some res) ∨ (bd = true ∧ res = .er (L.drop i)))
section
variable {β : Type} {b : Nat} {L : List Tok} {e : Int} {res : Rd β}
theorem Dd.want {s : List UInt8} (hs : s ≠ []) {i : Nat} {bd : Bool} {E : List Tok → Option (Rd β)} (h : Dd L i bd (fun r => bndO (some (wantT s r)) fun _ r => E r) res) : ∃ i' b', needF L [s] i bd = (i', b') ∧ i ≤ i' ∧ Dd L i' b' E res := by
 obtain ⟨hi, h | h⟩ := h
 ·obtain ⟨rfl, h⟩ := h
  rw [needF1]
  by_cases hT : hdT (L.drop i) = s
  ·have hlt := drop_hd (L := L) (i := i) (by rw [hT]; exact hs)
   refine ⟨i + 1, false, by rw [if_pos hT], by omega, by omega, .inl ⟨rfl, ?_⟩⟩
   simp only [wantT, if_pos hT, bndO, List.tail_drop] at h
   exact h
  ·refine ⟨i, true, by rw [if_neg hT], Nat.le_refl _, hi, .inr ⟨rfl, ?_⟩⟩
   simp only [wantT, if_neg hT, bndO] at h
   exact (Option.some.inj h).symm
 ·obtain ⟨rfl, h⟩ := h
  exact ⟨i, true, needF_bad L _ i, Nat.le_refl _, hi, .inr ⟨rfl, h⟩⟩
theorem Dd.lev {n : Nat} (hlev : LevC b L e n) {i : Nat} {bd : Bool} {E : Xp → List Tok → Option (Rd β)} (h : Dd L i bd (fun r => bndO (par n (.lev 0) r) fun a r => E a r) res) : ∃ y i' b', LvA b L e 0 i bd y i' b' ∧ i ≤ i' ∧ Dd L i' b' (E y) res := by
 obtain ⟨hi, h | h⟩ := h
 ·obtain ⟨rfl, h⟩ := h
  replace h : (bndO (par n (.lev 0) (L.drop i)) fun a r => E a r) = some res := h
  cases hq : par n (.lev 0) (L.drop i) with
  | none => rw [hq] at h; cases h
  | some q =>
   rw [hq] at h
   obtain ⟨y, i2, bd2, r1, r2, r3, r4⟩ := (hlev 0 i q hq hi).any
   refine ⟨y, i2, bd2, r3, r1, r2, ?_⟩
   rcases r4 with ⟨rfl, rfl⟩ | ⟨rfl, rfl⟩
   ·exact .inl ⟨rfl, h⟩
   ·exact .inr ⟨rfl, (Option.some.inj h).symm⟩
 ·obtain ⟨rfl, h⟩ := h
  exact ⟨x0, i, true, lvA_bad b L e 0 i, Nat.le_refl _, hi, .inr ⟨rfl, h⟩⟩
theorem Dd.num {lo hi' : Int} {i : Nat} {bd : Bool} {E : Int → List Tok → Option (Rd β)} (h : Dd L i bd (fun r => bndO (some (numT lo hi' r)) fun a r => E a r) res) :
  ∃ v i' b', ((nuO lo hi' L i bd).getD 0 = v ∧ (if (nuO lo hi' L i bd).isSome then i + 1 else i) = i' ∧ (if (nuO lo hi' L i bd).isSome then bd else true) = b') ∧ i ≤ i' ∧ Dd L i' b' (E v) res := by
 refine ⟨_, _, _, ⟨rfl, rfl, rfl⟩, by split <;> omega, ?_⟩
 obtain ⟨hi, h | h⟩ := h
 ·obtain ⟨rfl, h⟩ := h
  replace h : (bndO (some (numT lo hi' (L.drop i))) fun a r => E a r) = some res := h
  obtain ⟨n1, n2⟩ := nuO_num (a := lo) (b := hi') (L := L) (i := i)
  cases hn : numT lo hi' (L.drop i) with
  | ok v r =>
   obtain ⟨m1, rfl, m3⟩ := n1 v r hn
   rw [hn] at h
   rw [m1]
   exact ⟨by simp; omega, .inl ⟨rfl, h⟩⟩
  | er r =>
   obtain ⟨m1, rfl⟩ := n2 r hn
   rw [hn] at h
   rw [m1]
   exact ⟨hi, .inr ⟨rfl, (Option.some.inj h).symm⟩⟩
 ·obtain ⟨rfl, h⟩ := h
  have : nuO lo hi' L i true = none := rfl
  rw [this]
  exact ⟨hi, .inr ⟨rfl, h⟩⟩
theorem Dd.name {i : Nat} {bd : Bool} {E : List UInt8 → List Tok → Option (Rd β)} (h : Dd L i bd (fun r => bndO (some (nameT r)) fun a r => E a r) res) :
  ∃ v i' b', ((nmO L i bd).getD [] = v ∧ (if (nmO L i bd).isSome then i + 1 else i) = i' ∧ (if (nmO L i bd).isSome then bd else true) = b') ∧ i ≤ i' ∧ Dd L i' b' (E v) res := by
 refine ⟨_, _, _, ⟨rfl, rfl, rfl⟩, by split <;> omega, ?_⟩
 obtain ⟨hi, h | h⟩ := h
 ·obtain ⟨rfl, h⟩ := h
  replace h : (bndO (some (nameT (L.drop i))) fun a r => E a r) = some res := h
  obtain ⟨n1, n2⟩ := nmO_name (L := L) (i := i)
  cases hn : nameT (L.drop i) with
  | ok v r =>
   obtain ⟨m1, rfl, m3⟩ := n1 v r hn
   rw [hn] at h
   rw [m1]
   exact ⟨by simp; omega, .inl ⟨rfl, h⟩⟩
  | er r =>
   obtain ⟨m1, rfl⟩ := n2 r hn
   rw [hn] at h
   rw [m1]
   exact ⟨hi, .inr ⟨rfl, (Option.some.inj h).symm⟩⟩
 ·obtain ⟨rfl, h⟩ := h
  have : nmO L i true = none := rfl
  rw [this]
  exact ⟨hi, .inr ⟨rfl, h⟩⟩
theorem Dd.fin {i : Nat} {bd : Bool} {x : β} (h : Dd L i bd (fun r => some (.ok x r)) res) : i ≤ L.length ∧ ((bd = false ∧ res = .ok x (L.drop i)) ∨ (bd = true ∧ res = .er (L.drop i))) := by
 obtain ⟨hi, ⟨rfl, h⟩ | h⟩ := h
 ·exact ⟨hi, .inl ⟨rfl, (Option.some.inj h).symm⟩⟩
 ·exact ⟨hi, .inr h⟩
end
theorem prmC (b : Nat) (L : List Tok) (hL : TokL L) (e : Int) (n : Nat) (ih : ∀ m, m < n → LevC b L e m) : PrmC b L e n := by
 intro i res h hi
 obtain _ | n := n
 ·cases h
 have ihn := ih n (Nat.lt_succ_self n)
 refine RdS.of ?_
 rw [par] at h
 split at h
 ·rename_i c
  cases h
  exact ⟨x0, i, true, Nat.le_refl _, hi, wpr_end hL hi c, .inr ⟨rfl, by rw [c]⟩⟩
 rename_i c0
 have hlt : i < L.length := by
  rcases Nat.lt_or_ge i L.length with q | q
  ·exact q
  ·exact absurd (List.drop_eq_nil_of_le q) c0
 have ht : (L.drop i).tail = L.drop (i + 1) := List.tail_drop
 have htx := hL.ne _ (List.getElem_mem hlt)
 simp only [bnd_O, ht] at h
 split at h
 ·rename_i c
  have d0 : Dd L (i + 1) false (fun r => bndO (par n (.lev 0) r) fun x r => bndO (some (wantT [41] r)) fun _ r => some (.ok x r)) res := ⟨by omega, .inl ⟨rfl, h⟩⟩
  obtain ⟨y, i2, b2, p1, p2, d1⟩ := d0.lev ihn
  obtain ⟨i3, b3, q1, q2, d2⟩ := d1.want (by decide)
  exact ⟨y, i3, b3, by omega, d2.fin.1, wpr_lpar hL hi c p1 q1, d2.fin.2⟩
 split at h
 ·rename_i c
  have d0 : ∀ k, (k = if hdT (L.drop i) = sMax then 11 else 10) → Dd L (i + 1) false (fun r => bndO (some (wantT [40] r)) fun _ r => bndO (par n (.lev 0) r) fun x r => bndO (some (wantT [44] r)) fun _ r => bndO (par n (.lev 0) r) fun y r => bndO (some (wantT [41] r)) fun _ r => some (.ok (two k x y) r)) res := fun k hk => ⟨by omega, .inl ⟨rfl, by rw [hk]; exact h⟩⟩
  by_cases hm : hdT (L.drop i) = sMax
  ·obtain ⟨i1, b1, o1, o2, d1⟩ := (d0 11 (by rw [if_pos hm])).want (by decide)
   obtain ⟨x, i2, b2, p1, p2, d2⟩ := d1.lev ihn
   obtain ⟨i3, b3, q1, q2, d3⟩ := d2.want (by decide)
   obtain ⟨y, i4, b4, r1, r2, d4⟩ := d3.lev ihn
   obtain ⟨i5, b5, s1, s2, d5⟩ := d4.want (by decide)
   exact ⟨two 11 x y, i5, b5, by omega, d5.fin.1, wpr_max hL hi hm o1 p1 q1 r1 s1, d5.fin.2⟩
  ·have hm2 := c.resolve_right hm
   obtain ⟨i1, b1, o1, o2, d1⟩ := (d0 10 (by rw [if_neg hm])).want (by decide)
   obtain ⟨x, i2, b2, p1, p2, d2⟩ := d1.lev ihn
   obtain ⟨i3, b3, q1, q2, d3⟩ := d2.want (by decide)
   obtain ⟨y, i4, b4, r1, r2, d4⟩ := d3.lev ihn
   obtain ⟨i5, b5, s1, s2, d5⟩ := d4.want (by decide)
   exact ⟨two 10 x y, i5, b5, by omega, d5.fin.1, wpr_min hL hi hm2 o1 p1 q1 r1 s1, d5.fin.2⟩
 rename_i nm
 split at h
 ·rename_i c
  have d0 : ∀ k, (k = if hdT (L.drop i) = sShare then 5 else 4) → Dd L (i + 1) false (fun r => bndO (some (wantT [40] r)) fun _ r => bndO (par n (.lev 0) r) fun x r => bndO (some (wantT [41] r)) fun _ r => some (.ok (one k x) r)) res := fun k hk => ⟨by omega, .inl ⟨rfl, by rw [hk]; exact h⟩⟩
  by_cases hm : hdT (L.drop i) = sShare
  ·obtain ⟨i1, b1, o1, o2, d1⟩ := (d0 5 (by rw [if_pos hm])).want (by decide)
   obtain ⟨y, i2, b2, p1, p2, d2⟩ := d1.lev ihn
   obtain ⟨i3, b3, q1, q2, d3⟩ := d2.want (by decide)
   exact ⟨one 5 y, i3, b3, by omega, d3.fin.1, wpr_share hL hi hm o1 p1 q1, d3.fin.2⟩
  ·have hm2 := c.resolve_right hm
   obtain ⟨i1, b1, o1, o2, d1⟩ := (d0 4 (by rw [if_neg hm])).want (by decide)
   obtain ⟨y, i2, b2, p1, p2, d2⟩ := d1.lev ihn
   obtain ⟨i3, b3, q1, q2, d3⟩ := d2.want (by decide)
   exact ⟨one 4 y, i3, b3, by omega, d3.fin.1, wpr_abs hL hi hm2 o1 p1 q1, d3.fin.2⟩
 rename_i na
 split at h
 ·rename_i c
  have d0 : ∀ k, (k = if hdT (L.drop i) = sPart then 22 else 21) → Dd L (i + 1) false (fun r => bndO (some (wantT [40] r)) fun _ r => bndO (some (numT 1 99999 r)) fun f r => bndO (some (wantT [46, 46] r)) fun _ r => bndO (some (numT 1 99999 r)) fun t r => bndO (some (wantT [41] r)) fun _ r => some (.ok (Xp.mk k 0 f t [] []) r)) res := fun k hk => ⟨by omega, .inl ⟨rfl, by rw [hk]; exact h⟩⟩
  by_cases hm : hdT (L.drop i) = sPart
  ·obtain ⟨i1, b1, o1, o2, d1⟩ := (d0 22 (by rw [if_pos hm])).want (by decide)
   obtain ⟨f, i2, b2, p1, p2, d2⟩ := d1.num
   obtain ⟨i3, b3, q1, q2, d3⟩ := d2.want (by decide)
   obtain ⟨t, i4, b4, r1, r2, d4⟩ := d3.num
   obtain ⟨i5, b5, s1, s2, d5⟩ := d4.want (by decide)
   exact ⟨_, i5, b5, by omega, d5.fin.1, wpr_part hL hi hm o1 p1 q1 r1 s1, d5.fin.2⟩
  ·have hm2 := c.resolve_right hm
   obtain ⟨i1, b1, o1, o2, d1⟩ := (d0 21 (by rw [if_neg hm])).want (by decide)
   obtain ⟨f, i2, b2, p1, p2, d2⟩ := d1.num
   obtain ⟨i3, b3, q1, q2, d3⟩ := d2.want (by decide)
   obtain ⟨t, i4, b4, r1, r2, d4⟩ := d3.num
   obtain ⟨i5, b5, s1, s2, d5⟩ := d4.want (by decide)
   exact ⟨_, i5, b5, by omega, d5.fin.1, wpr_bal hL hi hm2 o1 p1 q1 r1 s1, d5.fin.2⟩
 rename_i nb
 have hT : hdT (L.drop i) = L[i].text := by rw [drop_at hlt]; rfl
 have hne : hdT (L.drop i) ≠ [] ∧ hdT (L.drop i) ≠ [40] ∧ hdT (L.drop i) ≠ sMin ∧ hdT (L.drop i) ≠ sMax ∧ hdT (L.drop i) ≠ sAbs ∧ hdT (L.drop i) ≠ sShare ∧ hdT (L.drop i) ≠ sBal ∧ hdT (L.drop i) ≠ sPart :=
  ⟨by rw [hT]; exact htx, by assumption, fun q => nm (.inl q), fun q => nm (.inr q), fun q => na (.inl q), fun q => na (.inr q), fun q => nb (.inl q), fun q => nb (.inr q)⟩
 split at h
 ·rename_i c
  have d0 : Dd L i false (fun r => bndO (some (numT 0 1000000000000 r)) fun v r => some (.ok (Xp.mk 1 v 0 0 [] []) r)) res := ⟨hi, .inl ⟨rfl, h⟩⟩
  obtain ⟨v, i2, b2, p1, p2, d1⟩ := d0.num
  exact ⟨_, i2, b2, p2, d1.fin.1, wpr_num hL hi hne c p1, d1.fin.2⟩
 ·rename_i c
  have d0 : Dd L i false (fun r => bndO (some (nameT r)) fun v r => some (.ok (Xp.mk 2 0 0 0 v []) r)) res := ⟨hi, .inl ⟨rfl, h⟩⟩
  obtain ⟨v, i2, b2, p1, p2, d1⟩ := d0.name
  exact ⟨_, i2, b2, p2, d1.fin.1, wpr_name hL hi hne c p1, d1.fin.2⟩
theorem w_lev (b : Nat) (L : List Tok) (hL : TokL L) (e : Int) (n : Nat) : LevC b L e n := levC b L hL e (fun n ih => prmC b L hL e n ih) n
end Go.Proofs.YtpggidmbnjfmaaaGreatDoor
