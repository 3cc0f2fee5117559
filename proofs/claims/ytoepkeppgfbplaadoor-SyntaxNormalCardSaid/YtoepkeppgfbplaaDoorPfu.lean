/- Chapter 32: the parser's fuel is enough, and more fuel changes nothing. -/
import Derived.Test.YtoepkeppgfbplaaDoorPar
set_option linter.unusedSimpArgs false
set_option linter.unusedVariables false
set_option maxHeartbeats 1000000
namespace Go.Proofs.YtoepkeppgfbplaaDoor
open E

theorem bndO_mono {α β : Type} {x x' : Option (Rd α)} {f f' : α → List Tok → Option (Rd β)} {res : Rd β} (h : bndO x f = some res) (hx : ∀ r, x = some r → x' = some r) (hf : ∀ a r q, f a r = some q → f' a r = some q) : bndO x' f' = some res := by
 cases x with
 | none => cases h
 | some r =>
  rw [hx r rfl]
  cases r with
  | ok a r => exact hf a r res h
  | er r => exact h
theorem par_mono : ∀ (n : Nat) (j : Job) (ts : List Tok) (res : Rd Xp), par n j ts = some res → par (n + 1) j ts = some res
 | 0, j, ts, res, h => by cases h
 | n + 1, .lev k, ts, res, h => by
  rw [par] at h ⊢
  split at h
  ·rename_i c; rw [if_pos c]; exact bndO_mono h (fun r => par_mono n _ _ r) (fun a r q => par_mono n _ _ q)
  rename_i c; rw [if_neg c]
  split at h
  ·rename_i c; rw [if_pos c]; exact bndO_mono h (fun r => par_mono n _ _ r) (fun a r q => par_mono n _ _ q)
  rename_i c; rw [if_neg c]
  split at h
  ·rename_i c; rw [if_pos c]
   split at h
   ·rename_i c; rw [if_pos c]; exact bndO_mono h (fun r => par_mono n _ _ r) (fun a r q hq => hq)
   ·rename_i c; rw [if_neg c]; exact par_mono n _ _ _ h
  rename_i c; rw [if_neg c]
  split at h
  ·rename_i c; rw [if_pos c]
   refine bndO_mono h (fun r => par_mono n _ _ r) (fun a r q hq => ?_)
   cases ho : opT 4 (hdT r) with
   | none => rw [ho] at hq; exact hq
   | some o => rw [ho] at hq; exact bndO_mono hq (fun r => par_mono n _ _ r) (fun a r q hq => hq)
  rename_i c; rw [if_neg c]
  split at h
  ·rename_i c; rw [if_pos c]; exact bndO_mono h (fun r => par_mono n _ _ r) (fun a r q hq => hq)
  ·rename_i c; rw [if_neg c]; exact par_mono n _ _ _ h
 | n + 1, .lp k x, ts, res, h => by
  rw [par] at h ⊢
  split at h
  ·rename_i c; rw [if_pos c]
   cases hn : numT 1 1000000000000 ts.tail with
   | ok v r => rw [hn] at h; exact par_mono n _ _ _ h
   | er r => rw [hn] at h; exact h
  ·rename_i c; rw [if_neg c]
   cases ho : opT k (hdT ts) with
   | none => rw [ho] at h; exact h
   | some o => rw [ho] at h; exact bndO_mono h (fun r => par_mono n _ _ r) (fun a r q => par_mono n _ _ q)
 | n + 1, .prm, ts, res, h => by
  rw [par] at h ⊢
  split at h
  ·rename_i c; rw [if_pos c]; exact h
  rename_i c; rw [if_neg c]
  split at h
  ·rename_i c; rw [if_pos c]; exact bndO_mono h (fun r => par_mono n _ _ r) (fun a r q hq => hq)
  rename_i c; rw [if_neg c]
  split at h
  ·rename_i c; rw [if_pos c]
   exact bndO_mono h (fun r hr => hr) (fun a r q hq => bndO_mono hq (fun r => par_mono n _ _ r) (fun a r q hq => bndO_mono hq (fun r hr => hr) (fun a r q hq => bndO_mono hq (fun r => par_mono n _ _ r) (fun a r q hq => hq))))
  rename_i c; rw [if_neg c]
  split at h
  ·rename_i c; rw [if_pos c]
   exact bndO_mono h (fun r hr => hr) (fun a r q hq => bndO_mono hq (fun r => par_mono n _ _ r) (fun a r q hq => hq))
  rename_i c; rw [if_neg c]
  exact h
theorem par_more {n m : Nat} {j : Job} {ts : List Tok} {res : Rd Xp} (h : par n j ts = some res) (hm : n ≤ m) : par m j ts = some res := by
 obtain ⟨d, rfl⟩ : ∃ d, m = n + d := ⟨m - n, by omega⟩
 clear hm
 induction d with
 | zero => exact h
 | succ d ih => rw [← Nat.add_assoc]; exact par_mono _ _ _ _ ih
def Left (j : Job) (ts : List Tok) : Rd Xp → Prop
 | .ok _ r => match j with | .lp _ _ => r.length ≤ ts.length | _ => r.length < ts.length
 | .er r => r.length ≤ ts.length
theorem want_left (s : List UInt8) (hs : s ≠ []) (ts : List Tok) : (∃ r, wantT s ts = .ok () r ∧ r.length < ts.length) ∨ ∃ r, wantT s ts = .er r ∧ r.length ≤ ts.length := by
 unfold wantT
 split
 ·rename_i h
  cases ts with
  | nil => exact absurd h.symm hs
  | cons t ts => exact .inl ⟨ts, rfl, by simp⟩
 ·exact .inr ⟨ts, rfl, Nat.le_refl _⟩
theorem num_left (a b : Int) (ts : List Tok) : (∃ v r, numT a b ts = .ok v r ∧ r.length < ts.length) ∨ ∃ r, numT a b ts = .er r ∧ r.length ≤ ts.length := by
 cases ts with
 | nil => exact .inr ⟨[], rfl, by simp⟩
 | cons t r =>
  rw [numT]
  split
  ·exact .inl ⟨_, r, rfl, by simp⟩
  ·exact .inr ⟨_, rfl, by simp⟩
theorem name_left (ts : List Tok) : (∃ v r, nameT ts = .ok v r ∧ r.length < ts.length) ∨ ∃ r, nameT ts = .er r ∧ r.length ≤ ts.length := by
 cases ts with
 | nil => exact .inr ⟨[], rfl, by simp⟩
 | cons t r =>
  rw [nameT]
  split
  ·exact .inl ⟨_, r, rfl, by simp⟩
  ·exact .inr ⟨_, rfl, by simp⟩
theorem opT_ne {k : Nat} {o : Int} {ts : List Tok} (h : opT k (hdT ts) = some o) : ts ≠ [] := by
 rintro rfl
 unfold opT at h
 split at h <;> simp [hdT, sOr, sAnd] at h
theorem hd_ne {s : List UInt8} (hs : s ≠ []) {ts : List Tok} (h : hdT ts = s) : ts ≠ [] := by
 rintro rfl; exact hs h.symm
theorem tail_lt {ts : List Tok} (h : ts ≠ []) : ts.tail.length < ts.length := by
 cases ts with
 | nil => exact absurd rfl h
 | cons t r => simp
theorem bndO_left {α β : Type} {x : Option (Rd α)} {f : α → List Tok → Option (Rd β)} {n : Nat} {Q : Rd β → Prop} (hx : (∃ a r, x = some (.ok a r) ∧ r.length < n ∧ ∃ q, f a r = some q ∧ Q q) ∨ ∃ r, x = some (.er r) ∧ Q (.er r)) : ∃ q, bndO x f = some q ∧ Q q := by
 rcases hx with ⟨a, r, rfl, _, q, hq, hQ⟩ | ⟨r, rfl, hQ⟩
 ·exact ⟨q, hq, hQ⟩
 ·exact ⟨_, rfl, hQ⟩
theorem par_left : ∀ (n : Nat) (j : Job) (ts : List Tok), fuelJ j ts.length ≤ n → ∃ res, par n j ts = some res ∧ Left j ts res
 | 0, j, ts, h => by cases j <;> simp [fuelJ] at h <;> omega
 | n + 1, .lev k, ts, h => by
  simp only [fuelJ] at h
  have lev : ∀ k' (ts' : List Tok), ts'.length < ts.length ∨ (ts'.length = ts.length ∧ k < k' ∧ k < 8) → (∃ a r, par n (.lev k') ts' = some (.ok a r) ∧ r.length < ts'.length) ∨ ∃ r, par n (.lev k') ts' = some (.er r) ∧ r.length ≤ ts'.length := by
   intro k' ts' hk
   obtain ⟨res, h1, h2⟩ := par_left n (.lev k') ts' (by simp only [fuelJ]; omega)
   cases res with
   | ok a r => exact .inl ⟨a, r, h1, h2⟩
   | er r => exact .inr ⟨r, h1, h2⟩
  have lp : ∀ k' x (ts' : List Tok), ts'.length < ts.length → ∃ res, par n (.lp k' x) ts' = some res ∧ res.rest.length ≤ ts'.length := by
   intro k' x ts' hk
   obtain ⟨res, h1, h2⟩ := par_left n (.lp k' x) ts' (by simp only [fuelJ]; omega)
   cases res with
   | ok a r => exact ⟨_, h1, h2⟩
   | er r => exact ⟨_, h1, h2⟩
  have bin : ∀ k0 k1, k < k1 → k < 8 → ∃ res, bndO (par n (.lev k1) ts) (fun x r => par n (.lp k0 x) r) = some res ∧ Left (.lev k) ts res := by
   intro k0 k1 hk hk8
   rcases lev k1 ts (.inr ⟨rfl, hk, hk8⟩) with ⟨a, r, h1, h2⟩ | ⟨r, h1, h2⟩
   ·obtain ⟨res, h3, h4⟩ := lp k0 a r h2
    refine ⟨res, by rw [h1]; exact h3, ?_⟩
    cases res with
    | ok a r => simp only [Rd.rest] at h4; show r.length < ts.length; omega
    | er r => simp only [Rd.rest] at h4; show r.length ≤ ts.length; omega
   ·exact ⟨.er r, by rw [h1]; rfl, h2⟩
  have prm : ∃ res, 7 ≤ k → par n .prm ts = some res ∧ Left (.lev k) ts res := by
   by_cases hk : 7 ≤ k
   ·obtain ⟨res, h1, h2⟩ := par_left n .prm ts (by simp only [fuelJ]; omega)
    refine ⟨res, fun _ => ⟨h1, ?_⟩⟩
    cases res with
    | ok a r => exact h2
    | er r => exact h2
   ·exact ⟨.er [], fun q => absurd q hk⟩
  rw [par]
  split
  ·exact bin 1 2 (by omega) (by omega)
  rename_i c1
  split
  ·rename_i c; exact bin k (k + 1) (by omega) (by omega)
  rename_i c2
  split
  ·rename_i c3
   split
   ·rename_i c
    have hne := hd_ne (by decide) c
    have htl := tail_lt hne
    rcases lev 3 ts.tail (.inl htl) with ⟨a, r, h1, h2⟩ | ⟨r, h1, h2⟩
    ·exact ⟨_, by rw [h1]; rfl, by show r.length < ts.length; omega⟩
    ·exact ⟨.er r, by rw [h1]; rfl, by show r.length ≤ ts.length; omega⟩
   ·rcases lev 4 ts (.inr ⟨rfl, by omega, by omega⟩) with ⟨a, r, h1, h2⟩ | ⟨r, h1, h2⟩
    ·exact ⟨_, h1, h2⟩
    ·exact ⟨_, h1, h2⟩
  rename_i c3
  split
  ·rename_i c4
   rcases lev 5 ts (.inr ⟨rfl, by omega, by omega⟩) with ⟨a, r, h1, h2⟩ | ⟨r, h1, h2⟩
   ·rw [h1]
    simp only [bndO]
    cases ho : opT 4 (hdT r) with
    | none => exact ⟨_, rfl, h2⟩
    | some o =>
     have htl := tail_lt (opT_ne ho)
     simp only []
     rcases lev 5 r.tail (.inl (by omega)) with ⟨a2, r2, h3, h4⟩ | ⟨r2, h3, h4⟩
     ·exact ⟨_, by rw [h3] <;> rfl, by show r2.length < ts.length; omega⟩
     ·exact ⟨.er r2, by rw [h3] <;> rfl, by show r2.length ≤ ts.length; omega⟩
   ·exact ⟨.er r, by rw [h1]; rfl, h2⟩
  rename_i c4
  split
  ·rename_i c
   have hne := hd_ne (by decide) c.2
   have htl := tail_lt hne
   rcases lev 7 ts.tail (.inl htl) with ⟨a, r, h1, h2⟩ | ⟨r, h1, h2⟩
   ·exact ⟨_, by rw [h1]; rfl, by show r.length < ts.length; omega⟩
   ·exact ⟨.er r, by rw [h1]; rfl, by show r.length ≤ ts.length; omega⟩
  ·obtain ⟨res, hr⟩ := prm
   obtain ⟨h1, h2⟩ := hr (by omega)
   exact ⟨res, h1, h2⟩
 | n + 1, .lp k x, ts, h => by
  simp only [fuelJ] at h
  have lp : ∀ x (ts' : List Tok), ts'.length < ts.length → ∃ res, par n (.lp k x) ts' = some res ∧ Left (.lp k x) ts res := by
   intro x' ts' hk
   obtain ⟨res, h1, h2⟩ := par_left n (.lp k x') ts' (by simp only [fuelJ]; omega)
   refine ⟨res, h1, ?_⟩
   cases res with
   | ok a r => have : r.length ≤ ts'.length := h2; show r.length ≤ ts.length; omega
   | er r => have : r.length ≤ ts'.length := h2; show r.length ≤ ts.length; omega
  rw [par]
  split
  ·rename_i c
   have htl := tail_lt (hd_ne (by decide) c.2)
   rcases num_left 1 1000000000000 ts.tail with ⟨v, r, h1, h2⟩ | ⟨r, h1, h2⟩
   ·rw [h1]; exact lp _ r (by omega)
   ·rw [h1]; exact ⟨_, rfl, by show r.length ≤ ts.length; omega⟩
  ·cases ho : opT k (hdT ts) with
   | none => exact ⟨_, rfl, Nat.le_refl _⟩
   | some o =>
    have htl := tail_lt (opT_ne ho)
    simp only []
    obtain ⟨res, h1, h2⟩ := par_left n (.lev (k + 1)) ts.tail (by simp only [fuelJ]; omega)
    rw [h1]
    cases res with
    | ok a r =>
     have : r.length < ts.tail.length := h2
     exact lp _ r (by omega)
    | er r =>
     have : r.length ≤ ts.tail.length := h2
     exact ⟨_, rfl, by show r.length ≤ ts.length; omega⟩
 | n + 1, .prm, ts, h => by
  simp only [fuelJ] at h
  have lev : ∀ (ts' : List Tok), ts'.length < ts.length → (∃ a r, par n (.lev 0) ts' = some (.ok a r) ∧ r.length < ts'.length) ∨ ∃ r, par n (.lev 0) ts' = some (.er r) ∧ r.length ≤ ts'.length := by
   intro ts' hk
   obtain ⟨res, h1, h2⟩ := par_left n (.lev 0) ts' (by simp only [fuelJ]; omega)
   cases res with
   | ok a r => exact .inl ⟨a, r, h1, h2⟩
   | er r => exact .inr ⟨r, h1, h2⟩
  rw [par]
  split
  ·rename_i c; subst c; exact ⟨_, rfl, Nat.le_refl _⟩
  rename_i hne
  have htl := tail_lt hne
  split
  ·rcases lev ts.tail htl with ⟨a, r, h1, h2⟩ | ⟨r, h1, h2⟩
   ·rw [h1]
    simp only [bndO]
    rcases want_left [41] (by decide) r with ⟨r2, h3, h4⟩ | ⟨r2, h3, h4⟩
    ·exact ⟨_, by rw [h3] <;> rfl, by show r2.length < ts.length; omega⟩
    ·exact ⟨.er r2, by rw [h3]; rfl, by show r2.length ≤ ts.length; omega⟩
   ·exact ⟨.er r, by rw [h1]; rfl, by show r.length ≤ ts.length; omega⟩
  split
  ·rcases want_left [40] (by decide) ts.tail with ⟨r0, h1, h2⟩ | ⟨r0, h1, h2⟩
   ·rw [h1]
    simp only [bndO]
    rcases lev r0 (by omega) with ⟨a, r, h3, h4⟩ | ⟨r, h3, h4⟩
    ·rw [h3]
     simp only [bndO]
     rcases want_left [44] (by decide) r with ⟨r2, h5, h6⟩ | ⟨r2, h5, h6⟩
     ·rw [h5]
      simp only [bndO]
      rcases lev r2 (by omega) with ⟨b, r3, h7, h8⟩ | ⟨r3, h7, h8⟩
      ·rw [h7]
       simp only [bndO]
       rcases want_left [41] (by decide) r3 with ⟨r4, h9, h10⟩ | ⟨r4, h9, h10⟩
       ·exact ⟨_, by rw [h9] <;> rfl, by show r4.length < ts.length; omega⟩
       ·exact ⟨.er r4, by rw [h9]; rfl, by show r4.length ≤ ts.length; omega⟩
      ·exact ⟨.er r3, by rw [h7] <;> rfl, by show r3.length ≤ ts.length; omega⟩
     ·exact ⟨.er r2, by rw [h5] <;> rfl, by show r2.length ≤ ts.length; omega⟩
    ·exact ⟨.er r, by rw [h3] <;> rfl, by show r.length ≤ ts.length; omega⟩
   ·exact ⟨.er r0, by rw [h1]; rfl, by show r0.length ≤ ts.length; omega⟩
  split
  ·rcases want_left [40] (by decide) ts.tail with ⟨r0, h1, h2⟩ | ⟨r0, h1, h2⟩
   ·rw [h1]
    simp only [bndO]
    rcases lev r0 (by omega) with ⟨a, r, h3, h4⟩ | ⟨r, h3, h4⟩
    ·rw [h3]
     simp only [bndO]
     rcases want_left [41] (by decide) r with ⟨r2, h5, h6⟩ | ⟨r2, h5, h6⟩
     ·exact ⟨_, by rw [h5] <;> rfl, by show r2.length < ts.length; omega⟩
     ·exact ⟨.er r2, by rw [h5]; rfl, by show r2.length ≤ ts.length; omega⟩
    ·exact ⟨.er r, by rw [h3] <;> rfl, by show r.length ≤ ts.length; omega⟩
   ·exact ⟨.er r0, by rw [h1]; rfl, by show r0.length ≤ ts.length; omega⟩
  split
  ·rcases want_left [40] (by decide) ts.tail with ⟨r0, h1, h2⟩ | ⟨r0, h1, h2⟩
   ·rw [h1]
    simp only [Rd.bnd]
    unfold accT
    rcases num_left 1 99999 r0 with ⟨f, r1, h3, h4⟩ | ⟨r1, h3, h4⟩
    ·rw [h3]
     simp only []
     rcases want_left [46, 46] (by decide) r1 with ⟨r2, h5, h6⟩ | ⟨r2, h5, h6⟩
     ·rw [h5]
      simp only []
      rcases num_left 1 99999 r2 with ⟨t, r3, h7, h8⟩ | ⟨r3, h7, h8⟩
      ·rw [h7]
       simp only []
       rcases want_left [41] (by decide) r3 with ⟨r4, h9, h10⟩ | ⟨r4, h9, h10⟩
       ·exact ⟨_, by rw [h9], by show r4.length < ts.length; omega⟩
       ·exact ⟨.er r4, by rw [h9], by show r4.length ≤ ts.length; omega⟩
      ·exact ⟨.er r3, by rw [h7], by show r3.length ≤ ts.length; omega⟩
     ·exact ⟨.er r2, by rw [h5], by show r2.length ≤ ts.length; omega⟩
    ·exact ⟨.er r1, by rw [h3], by show r1.length ≤ ts.length; omega⟩
   ·exact ⟨.er r0, by rw [h1]; rfl, by show r0.length ≤ ts.length; omega⟩
  split
  ·rcases num_left 0 1000000000000 ts with ⟨v, r, h1, h2⟩ | ⟨r, h1, h2⟩
   ·exact ⟨.ok _ r, by rw [h1]; rfl, h2⟩
   ·exact ⟨.er r, by rw [h1]; rfl, h2⟩
  ·rcases name_left ts with ⟨v, r, h1, h2⟩ | ⟨r, h1, h2⟩
   ·exact ⟨.ok _ r, by rw [h1]; rfl, h2⟩
   ·exact ⟨.er r, by rw [h1]; rfl, h2⟩
theorem par_total (j : Job) (ts : List Tok) : ∃ res, parX j ts = some res ∧ Left j ts res := par_left _ j ts (Nat.le_refl _)
end Go.Proofs.YtoepkeppgfbplaaDoor
