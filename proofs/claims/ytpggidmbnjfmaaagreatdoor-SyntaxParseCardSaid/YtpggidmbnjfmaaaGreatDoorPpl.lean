/- Chapter 32: the parser as a plain function on tokens: definitions, fuel, what it looks at, programs. -/
import Derived.Test.YtpggidmbnjfmaaaGreatDoorIdx
import Derived.Test.YtpggidmbnjfmaaaGreatDoorIdf
import Derived.Test.YtpggidmbnjfmaaaGreatDoorSye
section
set_option linter.unusedSimpArgs false
set_option linter.unusedVariables false
set_option maxHeartbeats 1000000
namespace Go.Proofs.YtpggidmbnjfmaaaGreatDoor
open E

inductive Rd (α : Type) where
 | ok (x : α) (r : List Tok)
 | er (r : List Tok)
namespace Rd
def rest {α : Type} : Rd α → List Tok
 | .ok _ r => r
 | .er r => r
def bnd {α β : Type} : Rd α → (α → List Tok → Rd β) → Rd β
 | .ok x r, f => f x r
 | .er r, _ => .er r
end Rd
def bndO {α β : Type} : Option (Rd α) → (α → List Tok → Option (Rd β)) → Option (Rd β)
 | some (.ok x r), f => f x r
 | some (.er r), _ => some (.er r)
 | none, _ => none
def hdT : List Tok → List UInt8
 | [] => []
 | t :: _ => t.text
def kdT : List Tok → Int
 | [] => 0
 | t :: _ => t.kind
def wantT (s : List UInt8) (ts : List Tok) : Rd Unit := if hdT ts = s then .ok () ts.tail else .er ts
def nameT : List Tok → Rd (List UInt8)
 | [] => .er []
 | t :: r => if t.kind = 1 ∧ kwB t.text = false then .ok t.text r else .er (t :: r)
def numT (least most : Int) : List Tok → Rd Int
 | [] => .er []
 | t :: r => if (valR t.kind t.text).2 = true ∧ least ≤ (valR t.kind t.text).1 ∧ (valR t.kind t.text).1 ≤ most then .ok (valR t.kind t.text).1 r else .er (t :: r)
def accT : List Tok → Rd Int := numT 1 99999
def sRule : List UInt8 := [114, 117, 108, 101]
def sEach : List UInt8 := [101, 97, 99, 104]
def sEnt : List UInt8 := [101, 110, 116, 105, 116, 121]
def sPair : List UInt8 := [112, 97, 105, 114]
def sLet : List UInt8 := [108, 101, 116]
def sReq : List UInt8 := [114, 101, 113, 117, 105, 114, 101]
def sPost : List UInt8 := [112, 111, 115, 116]
def sTo : List UInt8 := [116, 111]
def sPer : List UInt8 := [112, 101, 114]
def sAnd : List UInt8 := [97, 110, 100]
def sOr : List UInt8 := [111, 114]
def sNot : List UInt8 := [110, 111, 116]
def sMin : List UInt8 := [109, 105, 110]
def sMax : List UInt8 := [109, 97, 120]
def sAbs : List UInt8 := [97, 98, 115]
def sShare : List UInt8 := [115, 104, 97, 114, 101]
def sBal : List UInt8 := [98, 97, 108, 97, 110, 99, 101]
def sPart : List UInt8 := [112, 97, 114, 116, 110, 101, 114]
def opT (k : Nat) (s : List UInt8) : Option Int :=
 match k with
 | 1 => if s = sOr then some 13 else none
 | 2 => if s = sAnd then some 12 else none
 | 4 => if s = [60] then some 14 else if s = [60, 61] then some 15 else if s = [61] then some 16 else if s = [33, 61] then some 17 else if s = [62, 61] then some 18 else if s = [62] then some 19 else none
 | 5 => if s = [43] then some 7 else if s = [45] then some 8 else none
 | 6 => if s = [42] then some 9 else none
 | _ => none
def one (k : Int) (x : Xp) : Xp := .mk k 0 0 0 [] [x]
def two (k : Int) (x y : Xp) : Xp := .mk k 0 0 0 [] [x, y]
def perX (v : Int) (x : Xp) : Xp := .mk 20 v 0 0 [] [x]
inductive Job where
 | lev (k : Nat)
 | lp (k : Nat) (x : Xp)
 | prm
def par : Nat → Job → List Tok → Option (Rd Xp)
 | 0, _, _ => none
 | n + 1, .lev k, ts =>
  if k ≤ 1 then bndO (par n (.lev 2) ts) fun x r => par n (.lp 1 x) r
  else if k = 2 ∨ k = 5 ∨ k = 6 then bndO (par n (.lev (k + 1)) ts) fun x r => par n (.lp k x) r
  else if k = 3 then (if hdT ts = sNot then bndO (par n (.lev 3) ts.tail) fun x r => some (.ok (one 6 x) r) else par n (.lev 4) ts)
  else if k = 4 then bndO (par n (.lev 5) ts) fun x r => match opT 4 (hdT r) with
   | some o => bndO (par n (.lev 5) r.tail) fun y r' => some (.ok (two o x y) r')
   | none => some (.ok x r)
  else if k = 7 ∧ hdT ts = [45] then bndO (par n (.lev 7) ts.tail) fun x r => some (.ok (one 3 x) r)
  else par n .prm ts
 | n + 1, .lp k x, ts =>
  if k = 6 ∧ hdT ts = sPer then (match numT 1 1000000000000 ts.tail with
   | .ok v r => par n (.lp k (perX v x)) r
   | .er r => some (.er r))
  else match opT k (hdT ts) with
   | some o => bndO (par n (.lev (k + 1)) ts.tail) fun y r => par n (.lp k (two o x y)) r
   | none => some (.ok x ts)
 | n + 1, .prm, ts =>
  if ts = [] then some (.er [])
  else if hdT ts = [40] then bndO (par n (.lev 0) ts.tail) fun x r => some ((wantT [41] r).bnd fun _ r => .ok x r)
  else if hdT ts = sMin ∨ hdT ts = sMax then
   bndO (some (wantT [40] ts.tail)) fun _ r => bndO (par n (.lev 0) r) fun a r => bndO (some (wantT [44] r)) fun _ r => bndO (par n (.lev 0) r) fun b r => some ((wantT [41] r).bnd fun _ r => .ok (two (if hdT ts = sMax then 11 else 10) a b) r)
  else if hdT ts = sAbs ∨ hdT ts = sShare then
   bndO (some (wantT [40] ts.tail)) fun _ r => bndO (par n (.lev 0) r) fun a r => some ((wantT [41] r).bnd fun _ r => .ok (one (if hdT ts = sShare then 5 else 4) a) r)
  else if hdT ts = sBal ∨ hdT ts = sPart then
   some ((wantT [40] ts.tail).bnd fun _ r => (accT r).bnd fun f r => (wantT [46, 46] r).bnd fun _ r => (accT r).bnd fun t r => (wantT [41] r).bnd fun _ r => .ok (.mk (if hdT ts = sPart then 22 else 21) 0 f t [] []) r)
  else if kdT ts = 2 then some ((numT 0 1000000000000 ts).bnd fun v r => .ok (.mk 1 v 0 0 [] []) r)
  else some ((nameT ts).bnd fun s r => .ok (.mk 2 0 0 0 s []) r)
def fuelJ (j : Job) (len : Nat) : Nat := match j with
 | .lev k => 10 * len + 10 - min k 8
 | .lp _ _ => 10 * len + 9
 | .prm => 10 * len + 1
def parX (j : Job) (ts : List Tok) : Option (Rd Xp) := par (fuelJ j ts.length) j ts
end Go.Proofs.YtpggidmbnjfmaaaGreatDoor
end
section
set_option linter.unusedSimpArgs false
set_option linter.unusedVariables false
set_option maxHeartbeats 1000000
namespace Go.Proofs.YtpggidmbnjfmaaaGreatDoor
open E

theorem bndO_mono {α β : Type} {x x' : Option (Rd α)} {f f' : α → List Tok → Option (Rd β)} {res : Rd β} (h : bndO x f = some res) (hx : ∀ r, x = some r → x' = some r) (hf : ∀ a r q, f a r = some q → f' a r = some q) : bndO x' f' = some res := by
 cases x with
 | none => cases h
 | some r =>
  rw [hx r rfl]
  cases r with
  | ok a r => exact hf a r res h
  | er r => exact h
theorem par_mono : ∀ (n : Nat) (j : Job) (ts : List Tok) (res : Rd Xp), par n j ts = some res → par (n + 1) j ts = some res
 | 0, j, ts, res, h => by cases h
 | n + 1, .lev k, ts, res, h => by
  rw [par] at h ⊢
  split at h
  ·rename_i c; rw [if_pos c]; exact bndO_mono h (fun r => par_mono n _ _ r) (fun a r q => par_mono n _ _ q)
  rename_i c; rw [if_neg c]
  split at h
  ·rename_i c; rw [if_pos c]; exact bndO_mono h (fun r => par_mono n _ _ r) (fun a r q => par_mono n _ _ q)
  rename_i c; rw [if_neg c]
  split at h
  ·rename_i c; rw [if_pos c]
   split at h
   ·rename_i c; rw [if_pos c]; exact bndO_mono h (fun r => par_mono n _ _ r) (fun a r q hq => hq)
   ·rename_i c; rw [if_neg c]; exact par_mono n _ _ _ h
  rename_i c; rw [if_neg c]
  split at h
  ·rename_i c; rw [if_pos c]
   refine bndO_mono h (fun r => par_mono n _ _ r) (fun a r q hq => ?_)
   cases ho : opT 4 (hdT r) with
   | none => rw [ho] at hq; exact hq
   | some o => rw [ho] at hq; exact bndO_mono hq (fun r => par_mono n _ _ r) (fun a r q hq => hq)
  rename_i c; rw [if_neg c]
  split at h
  ·rename_i c; rw [if_pos c]; exact bndO_mono h (fun r => par_mono n _ _ r) (fun a r q hq => hq)
  ·rename_i c; rw [if_neg c]; exact par_mono n _ _ _ h
 | n + 1, .lp k x, ts, res, h => by
  rw [par] at h ⊢
  split at h
  ·rename_i c; rw [if_pos c]
   cases hn : numT 1 1000000000000 ts.tail with
   | ok v r => rw [hn] at h; exact par_mono n _ _ _ h
   | er r => rw [hn] at h; exact h
  ·rename_i c; rw [if_neg c]
   cases ho : opT k (hdT ts) with
   | none => rw [ho] at h; exact h
   | some o => rw [ho] at h; exact bndO_mono h (fun r => par_mono n _ _ r) (fun a r q => par_mono n _ _ q)
 | n + 1, .prm, ts, res, h => by
  rw [par] at h ⊢
  split at h
  ·rename_i c; rw [if_pos c]; exact h
  rename_i c; rw [if_neg c]
  split at h
  ·rename_i c; rw [if_pos c]; exact bndO_mono h (fun r => par_mono n _ _ r) (fun a r q hq => hq)
  rename_i c; rw [if_neg c]
  split at h
  ·rename_i c; rw [if_pos c]
   exact bndO_mono h (fun r hr => hr) (fun a r q hq => bndO_mono hq (fun r => par_mono n _ _ r) (fun a r q hq => bndO_mono hq (fun r hr => hr) (fun a r q hq => bndO_mono hq (fun r => par_mono n _ _ r) (fun a r q hq => hq))))
  rename_i c; rw [if_neg c]
  split at h
  ·rename_i c; rw [if_pos c]
   exact bndO_mono h (fun r hr => hr) (fun a r q hq => bndO_mono hq (fun r => par_mono n _ _ r) (fun a r q hq => hq))
  rename_i c; rw [if_neg c]
  exact h
theorem par_more {n m : Nat} {j : Job} {ts : List Tok} {res : Rd Xp} (h : par n j ts = some res) (hm : n ≤ m) : par m j ts = some res := by
 obtain ⟨d, rfl⟩ : ∃ d, m = n + d := ⟨m - n, by omega⟩
 clear hm
 induction d with
 | zero => exact h
 | succ d ih => rw [← Nat.add_assoc]; exact par_mono _ _ _ _ ih
def Left (j : Job) (ts : List Tok) : Rd Xp → Prop
 | .ok _ r => match j with | .lp _ _ => r.length ≤ ts.length | _ => r.length < ts.length
 | .er r => r.length ≤ ts.length
theorem want_left (s : List UInt8) (hs : s ≠ []) (ts : List Tok) : (∃ r, wantT s ts = .ok () r ∧ r.length < ts.length) ∨ ∃ r, wantT s ts = .er r ∧ r.length ≤ ts.length := by
 unfold wantT
 split
 ·rename_i h
  cases ts with
  | nil => exact absurd h.symm hs
  | cons t ts => exact .inl ⟨ts, rfl, by simp⟩
 ·exact .inr ⟨ts, rfl, Nat.le_refl _⟩
theorem num_left (a b : Int) (ts : List Tok) : (∃ v r, numT a b ts = .ok v r ∧ r.length < ts.length) ∨ ∃ r, numT a b ts = .er r ∧ r.length ≤ ts.length := by
 cases ts with
 | nil => exact .inr ⟨[], rfl, by simp⟩
 | cons t r =>
  rw [numT]
  split
  ·exact .inl ⟨_, r, rfl, by simp⟩
  ·exact .inr ⟨_, rfl, by simp⟩
theorem name_left (ts : List Tok) : (∃ v r, nameT ts = .ok v r ∧ r.length < ts.length) ∨ ∃ r, nameT ts = .er r ∧ r.length ≤ ts.length := by
 cases ts with
 | nil => exact .inr ⟨[], rfl, by simp⟩
 | cons t r =>
  rw [nameT]
  split
  ·exact .inl ⟨_, r, rfl, by simp⟩
  ·exact .inr ⟨_, rfl, by simp⟩
theorem opT_ne {k : Nat} {o : Int} {ts : List Tok} (h : opT k (hdT ts) = some o) : ts ≠ [] := by
 rintro rfl
 unfold opT at h
 split at h <;> simp [hdT, sOr, sAnd] at h
theorem hd_ne {s : List UInt8} (hs : s ≠ []) {ts : List Tok} (h : hdT ts = s) : ts ≠ [] := by
 rintro rfl; exact hs h.symm
theorem tail_lt {ts : List Tok} (h : ts ≠ []) : ts.tail.length < ts.length := by
 cases ts with
 | nil => exact absurd rfl h
 | cons t r => simp
theorem par_left : ∀ (n : Nat) (j : Job) (ts : List Tok), fuelJ j ts.length ≤ n → ∃ res, par n j ts = some res ∧ Left j ts res
 | 0, j, ts, h => by cases j <;> simp [fuelJ] at h <;> omega
 | n + 1, .lev k, ts, h => by
  simp only [fuelJ] at h
  have lev : ∀ k' (ts' : List Tok), ts'.length < ts.length ∨ (ts'.length = ts.length ∧ k < k' ∧ k < 8) → (∃ a r, par n (.lev k') ts' = some (.ok a r) ∧ r.length < ts'.length) ∨ ∃ r, par n (.lev k') ts' = some (.er r) ∧ r.length ≤ ts'.length := by
   intro k' ts' hk
   obtain ⟨res, h1, h2⟩ := par_left n (.lev k') ts' (by simp only [fuelJ]; omega)
   cases res with
   | ok a r => exact .inl ⟨a, r, h1, h2⟩
   | er r => exact .inr ⟨r, h1, h2⟩
  have lp : ∀ k' x (ts' : List Tok), ts'.length < ts.length → ∃ res, par n (.lp k' x) ts' = some res ∧ res.rest.length ≤ ts'.length := by
   intro k' x ts' hk
   obtain ⟨res, h1, h2⟩ := par_left n (.lp k' x) ts' (by simp only [fuelJ]; omega)
   cases res with
   | ok a r => exact ⟨_, h1, h2⟩
   | er r => exact ⟨_, h1, h2⟩
  have bin : ∀ k0 k1, k < k1 → k < 8 → ∃ res, bndO (par n (.lev k1) ts) (fun x r => par n (.lp k0 x) r) = some res ∧ Left (.lev k) ts res := by
   intro k0 k1 hk hk8
   rcases lev k1 ts (.inr ⟨rfl, hk, hk8⟩) with ⟨a, r, h1, h2⟩ | ⟨r, h1, h2⟩
   ·obtain ⟨res, h3, h4⟩ := lp k0 a r h2
    refine ⟨res, by rw [h1]; exact h3, ?_⟩
    cases res with
    | ok a r => simp only [Rd.rest] at h4; show r.length < ts.length; omega
    | er r => simp only [Rd.rest] at h4; show r.length ≤ ts.length; omega
   ·exact ⟨.er r, by rw [h1]; rfl, h2⟩
  have prm : ∃ res, 7 ≤ k → par n .prm ts = some res ∧ Left (.lev k) ts res := by
   by_cases hk : 7 ≤ k
   ·obtain ⟨res, h1, h2⟩ := par_left n .prm ts (by simp only [fuelJ]; omega)
    refine ⟨res, fun _ => ⟨h1, ?_⟩⟩
    cases res with
    | ok a r => exact h2
    | er r => exact h2
   ·exact ⟨.er [], fun q => absurd q hk⟩
  rw [par]
  split
  ·exact bin 1 2 (by omega) (by omega)
  rename_i c1
  split
  ·rename_i c; exact bin k (k + 1) (by omega) (by omega)
  rename_i c2
  split
  ·rename_i c3
   split
   ·rename_i c
    have hne := hd_ne (by decide) c
    have htl := tail_lt hne
    rcases lev 3 ts.tail (.inl htl) with ⟨a, r, h1, h2⟩ | ⟨r, h1, h2⟩
    ·exact ⟨_, by rw [h1]; rfl, by show r.length < ts.length; omega⟩
    ·exact ⟨.er r, by rw [h1]; rfl, by show r.length ≤ ts.length; omega⟩
   ·rcases lev 4 ts (.inr ⟨rfl, by omega, by omega⟩) with ⟨a, r, h1, h2⟩ | ⟨r, h1, h2⟩
    ·exact ⟨_, h1, h2⟩
    ·exact ⟨_, h1, h2⟩
  rename_i c3
  split
  ·rename_i c4
   rcases lev 5 ts (.inr ⟨rfl, by omega, by omega⟩) with ⟨a, r, h1, h2⟩ | ⟨r, h1, h2⟩
   ·rw [h1]
    simp only [bndO]
    cases ho : opT 4 (hdT r) with
    | none => exact ⟨_, rfl, h2⟩
    | some o =>
     have htl := tail_lt (opT_ne ho)
     simp only []
     rcases lev 5 r.tail (.inl (by omega)) with ⟨a2, r2, h3, h4⟩ | ⟨r2, h3, h4⟩
     ·exact ⟨_, by rw [h3] <;> rfl, by show r2.length < ts.length; omega⟩
     ·exact ⟨.er r2, by rw [h3] <;> rfl, by show r2.length ≤ ts.length; omega⟩
   ·exact ⟨.er r, by rw [h1]; rfl, h2⟩
  rename_i c4
  split
  ·rename_i c
   have hne := hd_ne (by decide) c.2
   have htl := tail_lt hne
   rcases lev 7 ts.tail (.inl htl) with ⟨a, r, h1, h2⟩ | ⟨r, h1, h2⟩
   ·exact ⟨_, by rw [h1]; rfl, by show r.length < ts.length; omega⟩
   ·exact ⟨.er r, by rw [h1]; rfl, by show r.length ≤ ts.length; omega⟩
  ·obtain ⟨res, hr⟩ := prm
   obtain ⟨h1, h2⟩ := hr (by omega)
   exact ⟨res, h1, h2⟩
 | n + 1, .lp k x, ts, h => by
  simp only [fuelJ] at h
  have lp : ∀ x (ts' : List Tok), ts'.length < ts.length → ∃ res, par n (.lp k x) ts' = some res ∧ Left (.lp k x) ts res := by
   intro x' ts' hk
   obtain ⟨res, h1, h2⟩ := par_left n (.lp k x') ts' (by simp only [fuelJ]; omega)
   refine ⟨res, h1, ?_⟩
   cases res with
   | ok a r => have : r.length ≤ ts'.length := h2; show r.length ≤ ts.length; omega
   | er r => have : r.length ≤ ts'.length := h2; show r.length ≤ ts.length; omega
  rw [par]
  split
  ·rename_i c
   have htl := tail_lt (hd_ne (by decide) c.2)
   rcases num_left 1 1000000000000 ts.tail with ⟨v, r, h1, h2⟩ | ⟨r, h1, h2⟩
   ·rw [h1]; exact lp _ r (by omega)
   ·rw [h1]; exact ⟨_, rfl, by show r.length ≤ ts.length; omega⟩
  ·cases ho : opT k (hdT ts) with
   | none => exact ⟨_, rfl, Nat.le_refl _⟩
   | some o =>
    have htl := tail_lt (opT_ne ho)
    simp only []
    obtain ⟨res, h1, h2⟩ := par_left n (.lev (k + 1)) ts.tail (by simp only [fuelJ]; omega)
    rw [h1]
    cases res with
    | ok a r =>
     have : r.length < ts.tail.length := h2
     exact lp _ r (by omega)
    | er r =>
     have : r.length ≤ ts.tail.length := h2
     exact ⟨_, rfl, by show r.length ≤ ts.length; omega⟩
 | n + 1, .prm, ts, h => by
  simp only [fuelJ] at h
  have lev : ∀ (ts' : List Tok), ts'.length < ts.length → (∃ a r, par n (.lev 0) ts' = some (.ok a r) ∧ r.length < ts'.length) ∨ ∃ r, par n (.lev 0) ts' = some (.er r) ∧ r.length ≤ ts'.length := by
   intro ts' hk
   obtain ⟨res, h1, h2⟩ := par_left n (.lev 0) ts' (by simp only [fuelJ]; omega)
   cases res with
   | ok a r => exact .inl ⟨a, r, h1, h2⟩
   | er r => exact .inr ⟨r, h1, h2⟩
  rw [par]
  split
  ·rename_i c; subst c; exact ⟨_, rfl, Nat.le_refl _⟩
  rename_i hne
  have htl := tail_lt hne
  split
  ·rcases lev ts.tail htl with ⟨a, r, h1, h2⟩ | ⟨r, h1, h2⟩
   ·rw [h1]
    simp only [bndO]
    rcases want_left [41] (by decide) r with ⟨r2, h3, h4⟩ | ⟨r2, h3, h4⟩
    ·exact ⟨_, by rw [h3] <;> rfl, by show r2.length < ts.length; omega⟩
    ·exact ⟨.er r2, by rw [h3]; rfl, by show r2.length ≤ ts.length; omega⟩
   ·exact ⟨.er r, by rw [h1]; rfl, by show r.length ≤ ts.length; omega⟩
  split
  ·rcases want_left [40] (by decide) ts.tail with ⟨r0, h1, h2⟩ | ⟨r0, h1, h2⟩
   ·rw [h1]
    simp only [bndO]
    rcases lev r0 (by omega) with ⟨a, r, h3, h4⟩ | ⟨r, h3, h4⟩
    ·rw [h3]
     simp only [bndO]
     rcases want_left [44] (by decide) r with ⟨r2, h5, h6⟩ | ⟨r2, h5, h6⟩
     ·rw [h5]
      simp only [bndO]
      rcases lev r2 (by omega) with ⟨b, r3, h7, h8⟩ | ⟨r3, h7, h8⟩
      ·rw [h7]
       simp only [bndO]
       rcases want_left [41] (by decide) r3 with ⟨r4, h9, h10⟩ | ⟨r4, h9, h10⟩
       ·exact ⟨_, by rw [h9] <;> rfl, by show r4.length < ts.length; omega⟩
       ·exact ⟨.er r4, by rw [h9]; rfl, by show r4.length ≤ ts.length; omega⟩
      ·exact ⟨.er r3, by rw [h7] <;> rfl, by show r3.length ≤ ts.length; omega⟩
     ·exact ⟨.er r2, by rw [h5] <;> rfl, by show r2.length ≤ ts.length; omega⟩
    ·exact ⟨.er r, by rw [h3] <;> rfl, by show r.length ≤ ts.length; omega⟩
   ·exact ⟨.er r0, by rw [h1]; rfl, by show r0.length ≤ ts.length; omega⟩
  split
  ·rcases want_left [40] (by decide) ts.tail with ⟨r0, h1, h2⟩ | ⟨r0, h1, h2⟩
   ·rw [h1]
    simp only [bndO]
    rcases lev r0 (by omega) with ⟨a, r, h3, h4⟩ | ⟨r, h3, h4⟩
    ·rw [h3]
     simp only [bndO]
     rcases want_left [41] (by decide) r with ⟨r2, h5, h6⟩ | ⟨r2, h5, h6⟩
     ·exact ⟨_, by rw [h5] <;> rfl, by show r2.length < ts.length; omega⟩
     ·exact ⟨.er r2, by rw [h5]; rfl, by show r2.length ≤ ts.length; omega⟩
    ·exact ⟨.er r, by rw [h3] <;> rfl, by show r.length ≤ ts.length; omega⟩
   ·exact ⟨.er r0, by rw [h1]; rfl, by show r0.length ≤ ts.length; omega⟩
  split
  ·rcases want_left [40] (by decide) ts.tail with ⟨r0, h1, h2⟩ | ⟨r0, h1, h2⟩
   ·rw [h1]
    simp only [Rd.bnd]
    unfold accT
    rcases num_left 1 99999 r0 with ⟨f, r1, h3, h4⟩ | ⟨r1, h3, h4⟩
    ·rw [h3]
     simp only []
     rcases want_left [46, 46] (by decide) r1 with ⟨r2, h5, h6⟩ | ⟨r2, h5, h6⟩
     ·rw [h5]
      simp only []
      rcases num_left 1 99999 r2 with ⟨t, r3, h7, h8⟩ | ⟨r3, h7, h8⟩
      ·rw [h7]
       simp only []
       rcases want_left [41] (by decide) r3 with ⟨r4, h9, h10⟩ | ⟨r4, h9, h10⟩
       ·exact ⟨_, by rw [h9], by show r4.length < ts.length; omega⟩
       ·exact ⟨.er r4, by rw [h9], by show r4.length ≤ ts.length; omega⟩
      ·exact ⟨.er r3, by rw [h7], by show r3.length ≤ ts.length; omega⟩
     ·exact ⟨.er r2, by rw [h5], by show r2.length ≤ ts.length; omega⟩
    ·exact ⟨.er r1, by rw [h3], by show r1.length ≤ ts.length; omega⟩
   ·exact ⟨.er r0, by rw [h1]; rfl, by show r0.length ≤ ts.length; omega⟩
  split
  ·rcases num_left 0 1000000000000 ts with ⟨v, r, h1, h2⟩ | ⟨r, h1, h2⟩
   ·exact ⟨.ok _ r, by rw [h1]; rfl, h2⟩
   ·exact ⟨.er r, by rw [h1]; rfl, h2⟩
  ·rcases name_left ts with ⟨v, r, h1, h2⟩ | ⟨r, h1, h2⟩
   ·exact ⟨.ok _ r, by rw [h1]; rfl, h2⟩
   ·exact ⟨.er r, by rw [h1]; rfl, h2⟩
theorem par_total (j : Job) (ts : List Tok) : ∃ res, parX j ts = some res ∧ Left j ts res := par_left _ j ts (Nat.le_refl _)
end Go.Proofs.YtpggidmbnjfmaaaGreatDoor
end
section
set_option linter.unusedSimpArgs false
set_option linter.unusedVariables false
set_option maxHeartbeats 1000000
namespace Go.Proofs.YtpggidmbnjfmaaaGreatDoor
open E

namespace Rd
def mapR {α : Type} (h : List Tok → List Tok) : Rd α → Rd α
 | .ok x r => .ok x (h r)
 | .er r => .er (h r)
end Rd
def hk : List Tok → Option (Int × List UInt8)
 | [] => none
 | t :: _ => some (t.kind, t.text)
def Plc (g : Tok → Tok) : Prop := ∀ t, (g t).kind = t.kind ∧ (g t).text = t.text
structure Loc {α : Type} (f : List Tok → Option (Rd α)) : Prop where
 lo : ∀ ts res, f ts = some res → match res with
  | .ok x r => ∃ pre, ts = pre ++ r ∧ ∀ t r', r = t :: r' → ∀ more, f (pre ++ t :: more) = some (.ok x (t :: more))
  | .er r => ∃ pre, ts = pre ++ r ∧ ∀ t r', r = t :: r' → ∀ more, f (pre ++ t :: more) = some (.er (t :: more))
 nt : ∀ g, Plc g → ∀ ts, f (ts.map g) = (f ts).map (Rd.mapR (List.map g))
theorem Loc.bnd {α β : Type} {f : List Tok → Option (Rd α)} {g : α → List Tok → Option (Rd β)} (hf : Loc f) (hg : ∀ x, Loc (g x)) : Loc fun ts => bndO (f ts) g := by
 refine ⟨fun ts res h => ?_, fun p hp ts => ?_⟩
 case refine_2 =>
  show bndO _ _ = _
  rw [hf.nt p hp ts]
  cases hq : f ts with
  | none => rfl
  | some q =>
   cases q with
   | er r => rfl
   | ok x r => exact (hg x).nt p hp r
 replace h : bndO (f ts) g = some res := h
 cases hq : f ts with
 | none => rw [hq] at h; cases h
 | some q =>
  have h1 := hf.lo ts q hq
  rw [hq] at h
  cases q with
  | er r =>
   cases h
   obtain ⟨pre, e1, e2⟩ := h1
   exact ⟨pre, e1, fun t r' hr more => by show bndO _ _ = _; rw [e2 t r' hr more]; rfl⟩
  | ok x r =>
   obtain ⟨pre, e1, e2⟩ := h1
   have h2 := (hg x).lo r res h
   have key : ∀ pre2 r2, r = pre2 ++ r2 → ∀ t r', r2 = t :: r' → ∀ more, f (pre ++ pre2 ++ t :: more) = some (.ok x (pre2 ++ t :: more)) := by
    intro pre2 r2 hr t r' ht more
    subst ht
    cases pre2 with
    | nil => rw [List.append_nil, List.nil_append]; exact e2 t r' (by simpa using hr) more
    | cons u p2 =>
     have := e2 u (p2 ++ t :: r') (by simpa using hr) (p2 ++ t :: more)
     simpa using this
   cases res with
   | ok y r2 =>
    obtain ⟨pre2, e3, e4⟩ := h2
    refine ⟨pre ++ pre2, by rw [e1, e3, List.append_assoc], fun t r' hr more => ?_⟩
    show bndO _ _ = _
    rw [key pre2 r2 e3 t r' hr more]
    exact e4 t r' hr more
   | er r2 =>
    obtain ⟨pre2, e3, e4⟩ := h2
    refine ⟨pre ++ pre2, by rw [e1, e3, List.append_assoc], fun t r' hr more => ?_⟩
    show bndO _ _ = _
    rw [key pre2 r2 e3 t r' hr more]
    exact e4 t r' hr more
theorem Loc.ret {α : Type} (x : α) : Loc fun ts => some (.ok x ts) := by
 refine ⟨fun ts res h => ?_, fun p hp ts => rfl⟩
 cases h
 exact ⟨[], rfl, fun t r' hr more => rfl⟩
theorem Loc.tail {α : Type} {f : List Tok → Option (Rd α)} (hf : Loc f) : Loc fun ts => f ts.tail := by
 refine ⟨fun ts res h => ?_, fun p hp ts => by rw [← hf.nt p hp, List.map_tail]⟩
 have h1 := hf.lo _ _ h
 cases ts with
 | nil =>
  cases res with
  | ok x r =>
   obtain ⟨pre, e1, e2⟩ := h1
   have e3 : r = [] := by cases pre <;> cases r <;> simp_all
   exact ⟨[], by rw [e3]; rfl, fun t r' hr => by rw [e3] at hr; cases hr⟩
  | er r =>
   obtain ⟨pre, e1, e2⟩ := h1
   have e3 : r = [] := by cases pre <;> cases r <;> simp_all
   exact ⟨[], by rw [e3]; rfl, fun t r' hr => by rw [e3] at hr; cases hr⟩
 | cons u ts =>
  cases res with
  | ok x r =>
   obtain ⟨pre, e1, e2⟩ := h1
   exact ⟨u :: pre, by rw [List.tail_cons] at e1; rw [e1]; rfl, fun t r' hr more => e2 t r' hr more⟩
  | er r =>
   obtain ⟨pre, e1, e2⟩ := h1
   exact ⟨u :: pre, by rw [List.tail_cons] at e1; rw [e1]; rfl, fun t r' hr more => e2 t r' hr more⟩
def hd1 : Option (Int × List UInt8) → List UInt8
 | none => []
 | some t => t.2
theorem Loc.congr {α : Type} {f g : List Tok → Option (Rd α)} (hf : Loc f) (h : ∀ ts, g ts = f ts) : Loc g := by
 rw [show g = f from funext h]; exact hf
theorem bnd_O {α β : Type} (x : Rd α) (f : α → List Tok → Rd β) : some (x.bnd f) = bndO (some x) fun a r => some (f a r) := by cases x <;> rfl
end Go.Proofs.YtpggidmbnjfmaaaGreatDoor
end
section
set_option linter.unusedSimpArgs false
set_option linter.unusedVariables false
set_option maxHeartbeats 1000000
namespace Go.Proofs.YtpggidmbnjfmaaaGreatDoor
open E

abbrev wantO (s : List UInt8) (ts : List Tok) : Option (Rd Unit) := some (wantT s ts)
def stmO (n : Nat) (ts : List Tok) : Option (Rd Stm) :=
 if hdT ts = sLet then bndO (some (nameT ts.tail)) fun s r => bndO (wantO [61] r) fun _ r => bndO (par n (.lev 0) r) fun x r => bndO (wantO [59] r) fun _ r => some (.ok ⟨1, 0, s, x⟩ r)
 else if hdT ts = sReq then bndO (par n (.lev 0) ts.tail) fun x r => bndO (wantO [59] r) fun _ r => some (.ok ⟨2, 0, [], x⟩ r)
 else if hdT ts = sPost then bndO (some (accT ts.tail)) fun a r => bndO (par n (.lev 0) r) fun x r => bndO (wantO [59] r) fun _ r => some (.ok ⟨3, a, [], x⟩ r)
 else some (.er ts)
def stmsO (n : Nat) : Nat → List Stm → List Tok → Option (Rd (List Stm))
 | 0, _, _ => none
 | m + 1, acc, ts => if hdT ts = sTo then some (.ok acc ts) else bndO (stmO n ts) fun s r => stmsO n m (acc ++ [s]) r
def pairO (ts : List Tok) : Option (Rd Bool) := if hdT ts = sPair then some (.ok true ts.tail) else bndO (wantO sEnt ts) fun _ r => some (.ok false r)
def rulF (n : Nat) (ts : List Tok) : Option (Rd Rul) :=
 bndO (wantO sRule ts) fun _ r => bndO (some (nameT r)) fun nm r => bndO (wantO sEach r) fun _ r => bndO (pairO r) fun pr r => bndO (wantO [123] r) fun _ r =>
 bndO (stmsO n n [] r) fun ss r => bndO (wantO sTo r) fun _ r => bndO (some (accT r)) fun a r => bndO (wantO [59] r) fun _ r => some (.ok ⟨nm, pr, ss, a⟩ r)
def rulO (n : Nat) (ts : List Tok) : Option (Rd Rul) := bndO (rulF n ts) fun y r => bndO (wantO [125] r) fun _ r => some (.ok y r)
def prgO (n : Nat) : Nat → List Rul → List Tok → Option (Rd (List Rul))
 | 0, _, _ => none
 | m + 1, acc, ts => if ts = [] then some (.ok acc ts) else bndO (rulO n ts) fun s r => prgO n m (acc ++ [s]) r
def fuelP (ts : List Tok) : Nat := 10 * ts.length + 10
def prgT (ts : List Tok) : Rd (List Rul) := (prgO (fuelP ts) (fuelP ts) [] ts).getD (.er ts)
def placeT (e : Nat) : List Tok → Int
 | [] => e
 | t :: _ => t.frm
def parsT (len : Nat) (ts : List Tok) : List Rul × Int × Int := match prgT ts with
 | .er r => ([], placeT len r, 3)
 | .ok p _ => if prgB p = true then (p, 0, 0) else ([], 0, 6)
def parseR (s : List UInt8) : List Rul × Int × Int := if (tokensR s).2.2 = 0 then parsT s.length (tokensR s).1 else ([], (tokensR s).2.1, (tokensR s).2.2)

theorem stm_mono {n : Nat} {ts : List Tok} {res : Rd Stm} (h : stmO n ts = some res) {n' : Nat} (hn : n ≤ n') : stmO n' ts = some res := by
 have hp : ∀ ts r, par n (.lev 0) ts = some r → par n' (.lev 0) ts = some r := fun ts r h => par_more h hn
 unfold stmO at h ⊢
 split at h
 ·rename_i c; rw [if_pos c]
  exact bndO_mono h (fun r hr => hr) fun a r q hq => bndO_mono hq (fun r hr => hr) fun a r q hq => bndO_mono hq (hp _) fun a r q hq => hq
 rename_i c; rw [if_neg c]
 split at h
 ·rename_i c; rw [if_pos c]
  exact bndO_mono h (hp _) fun a r q hq => hq
 rename_i c; rw [if_neg c]
 split at h
 ·rename_i c; rw [if_pos c]
  exact bndO_mono h (fun r hr => hr) fun a r q hq => bndO_mono hq (hp _) fun a r q hq => hq
 rename_i c; rw [if_neg c]
 exact h
theorem stms_mono {n n' : Nat} (hn : n ≤ n') : ∀ (m : Nat) (acc : List Stm) (ts : List Tok) (res : Rd (List Stm)), stmsO n m acc ts = some res → ∀ m', m ≤ m' → stmsO n' m' acc ts = some res
 | 0, acc, ts, res, h, m', hm => by cases h
 | m + 1, acc, ts, res, h, m', hm => by
  obtain ⟨k, rfl⟩ : ∃ k, m' = k + 1 := ⟨m' - 1, by omega⟩
  rw [stmsO] at h ⊢
  split at h
  ·rename_i c; rw [if_pos c]; exact h
  rename_i c; rw [if_neg c]
  exact bndO_mono h (fun r hr => stm_mono hr hn) fun a r q hq => stms_mono hn m _ _ _ hq k (by omega)
theorem rulF_mono {n n' : Nat} (hn : n ≤ n') {ts : List Tok} {res : Rd Rul} (h : rulF n ts = some res) : rulF n' ts = some res := by
 unfold rulF at h ⊢
 exact bndO_mono h (fun r hr => hr) fun _ _ _ h => bndO_mono h (fun r hr => hr) fun _ _ _ h => bndO_mono h (fun r hr => hr) fun _ _ _ h => bndO_mono h (fun r hr => hr) fun _ _ _ h => bndO_mono h (fun r hr => hr) fun _ _ _ h =>
  bndO_mono h (fun r hr => stms_mono hn _ _ _ _ hr _ hn) fun _ _ _ h => h
theorem rul_mono {n n' : Nat} (hn : n ≤ n') {ts : List Tok} {res : Rd Rul} (h : rulO n ts = some res) : rulO n' ts = some res := by
 unfold rulO at h ⊢
 exact bndO_mono h (fun r hr => rulF_mono hn hr) fun _ _ _ h => h
theorem prg_mono {n n' : Nat} (hn : n ≤ n') : ∀ (m : Nat) (acc : List Rul) (ts : List Tok) (res : Rd (List Rul)), prgO n m acc ts = some res → ∀ m', m ≤ m' → prgO n' m' acc ts = some res
 | 0, acc, ts, res, h, m', hm => by cases h
 | m + 1, acc, ts, res, h, m', hm => by
  obtain ⟨k, rfl⟩ : ∃ k, m' = k + 1 := ⟨m' - 1, by omega⟩
  rw [prgO] at h ⊢
  split at h
  ·rename_i c; rw [if_pos c]; exact h
  rename_i c; rw [if_neg c]
  exact bndO_mono h (fun r hr => rul_mono hn hr) fun a r q hq => prg_mono hn m _ _ _ hq k (by omega)
def Fed {α : Type} (f : List Tok → Option (Rd α)) (strict : Bool) (n : Nat) : Prop := ∀ ts : List Tok, ts.length ≤ n → (∃ x r, f ts = some (.ok x r) ∧ r.length + (if strict then 1 else 0) ≤ ts.length) ∨ ∃ r, f ts = some (.er r) ∧ r.length ≤ ts.length
theorem Fed.bnd {α β : Type} {f : List Tok → Option (Rd α)} {g : α → List Tok → Option (Rd β)} {a b c : Bool} {n : Nat} (hf : Fed f a n) (hg : ∀ x, Fed (g x) b n) (hc : c = (a || b)) : Fed (fun ts => bndO (f ts) g) c n := by
 intro ts hn
 rcases hf ts hn with ⟨x, r, h1, h2⟩ | ⟨r, h1, h2⟩
 ·rcases hg x r (by omega) with ⟨y, q, h3, h4⟩ | ⟨q, h3, h4⟩
  ·refine .inl ⟨y, q, by simp only [h1, bndO]; exact h3, ?_⟩
   subst hc
   cases a <;> cases b <;> simp at h2 h4 ⊢ <;> omega
  ·exact .inr ⟨q, by simp only [h1, bndO]; exact h3, by omega⟩
 ·exact .inr ⟨r, by simp only [h1, bndO], h2⟩
theorem Fed.ret {α : Type} (x : α) (n : Nat) : Fed (fun ts => some (.ok x ts)) false n := fun ts _ => .inl ⟨x, ts, rfl, by simp⟩
theorem Fed.weak {α : Type} {f : List Tok → Option (Rd α)} {n : Nat} (h : Fed f true n) : Fed f false n := fun ts hn => by
 rcases h ts hn with ⟨x, r, h1, h2⟩ | ⟨r, h1, h2⟩
 ·exact .inl ⟨x, r, h1, by simp at h2 ⊢; omega⟩
 ·exact .inr ⟨r, h1, h2⟩
theorem fed_want (s : List UInt8) (hs : s ≠ []) (n : Nat) : Fed (wantO s) true n := fun ts _ => by
 rcases want_left s hs ts with ⟨r, h1, h2⟩ | ⟨r, h1, h2⟩
 ·exact .inl ⟨(), r, by rw [wantO, h1], by simp; omega⟩
 ·exact .inr ⟨r, by rw [wantO, h1], h2⟩
theorem fed_num (a b : Int) (n : Nat) : Fed (fun ts => some (numT a b ts)) true n := fun ts _ => by
 rcases num_left a b ts with ⟨v, r, h1, h2⟩ | ⟨r, h1, h2⟩
 ·exact .inl ⟨v, r, by simp only [h1], by simp; omega⟩
 ·exact .inr ⟨r, by simp only [h1], h2⟩
theorem fed_name (n : Nat) : Fed (fun ts => some (nameT ts)) true n := fun ts _ => by
 rcases name_left ts with ⟨v, r, h1, h2⟩ | ⟨r, h1, h2⟩
 ·exact .inl ⟨v, r, by simp only [h1], by simp; omega⟩
 ·exact .inr ⟨r, by simp only [h1], h2⟩
theorem fed_par {N n : Nat} (h : 10 * n + 10 ≤ N) : Fed (par N (.lev 0)) true n := fun ts hn => by
 obtain ⟨res, h1, h2⟩ := par_total (.lev 0) ts
 have h3 := par_more h1 (m := N) (by simp only [fuelJ]; omega)
 cases res with
 | ok x r => exact .inl ⟨x, r, h3, by have : r.length < ts.length := h2; simp; omega⟩
 | er r => exact .inr ⟨r, h3, h2⟩
theorem Fed.tail {α : Type} {f : List Tok → Option (Rd α)} {n : Nat} (h : Fed f true n) {ts : List Tok} (hn : ts.length ≤ n) : (∃ x r, f ts.tail = some (.ok x r) ∧ r.length + 1 ≤ ts.length) ∨ ∃ r, f ts.tail = some (.er r) ∧ r.length ≤ ts.length := by
 have := List.length_tail (l := ts)
 rcases h ts.tail (by omega) with ⟨x, r, h1, h2⟩ | ⟨r, h1, h2⟩
 ·exact .inl ⟨x, r, h1, by simp at h2; omega⟩
 ·exact .inr ⟨r, h1, by omega⟩
theorem fed_stm {N n : Nat} (h : 10 * n + 10 ≤ N) : Fed (stmO N) true n := fun ts hn => by
 have w1 := fun s hs => fed_want s hs n
 have e := fed_par h
 unfold stmO
 split
 ·exact Fed.tail (Fed.bnd (fed_name n) (fun s => Fed.bnd (w1 [61] (by simp)) (fun _ => Fed.bnd e (fun x => Fed.bnd (w1 [59] (by simp)) (fun _ => Fed.ret (⟨1, 0, s, x⟩ : Stm) n) rfl) rfl) rfl) rfl) hn
 split
 ·exact Fed.tail (Fed.bnd e (fun x => Fed.bnd (w1 [59] (by simp)) (fun _ => Fed.ret (⟨2, 0, [], x⟩ : Stm) n) rfl) rfl) hn
 split
 ·exact Fed.tail (Fed.bnd (fed_num 1 99999 n) (fun a => Fed.bnd e (fun x => Fed.bnd (w1 [59] (by simp)) (fun _ => Fed.ret (⟨3, a, [], x⟩ : Stm) n) rfl) rfl) rfl) hn
 ·exact .inr ⟨ts, rfl, Nat.le_refl _⟩
theorem fed_stms {N n : Nat} (h : 10 * n + 10 ≤ N) : ∀ (m : Nat) (acc : List Stm) (ts : List Tok), ts.length ≤ n → ts.length < m → (∃ x r, stmsO N m acc ts = some (.ok x r) ∧ r.length ≤ ts.length) ∨ ∃ r, stmsO N m acc ts = some (.er r) ∧ r.length ≤ ts.length
 | 0, acc, ts, _, hm => by omega
 | m + 1, acc, ts, hn, hm => by
  rw [stmsO]
  split
  ·exact .inl ⟨acc, ts, rfl, Nat.le_refl _⟩
  rcases fed_stm h ts hn with ⟨x, r, h1, h2⟩ | ⟨r, h1, h2⟩
  ·rw [h1]
   simp at h2
   rcases fed_stms h m (acc ++ [x]) r (by omega) (by omega) with ⟨y, q, h3, h4⟩ | ⟨q, h3, h4⟩
   ·exact .inl ⟨y, q, h3, by omega⟩
   ·exact .inr ⟨q, h3, by omega⟩
  ·exact .inr ⟨r, by rw [h1]; rfl, h2⟩
theorem fed_pair (n : Nat) : Fed pairO false n := fun ts hn => by
 unfold pairO
 split
 ·exact .inl ⟨true, ts.tail, rfl, by simp⟩
 ·exact Fed.weak (Fed.bnd (fed_want sEnt (by decide) n) (fun _ => Fed.ret false n) rfl) ts hn
theorem fed_rul {N n : Nat} (h : 10 * n + 10 ≤ N) : Fed (rulO N) true n := by
 have w1 := fun s hs => fed_want s hs n
 have hs : Fed (stmsO N N []) false n := fun ts hn => fed_stms h N [] ts hn (by omega)
 exact Fed.bnd (a := true) (b := true) (Fed.bnd (w1 _ (by decide)) (fun _ => Fed.bnd (fed_name n) (fun nm => Fed.bnd (w1 _ (by decide)) (fun _ => Fed.bnd (fed_pair n) (fun pr => Fed.bnd (w1 _ (by decide)) (fun _ => Fed.bnd hs (fun ss => Fed.bnd (w1 _ (by decide)) (fun _ => Fed.bnd (fed_num _ _ n) (fun a => Fed.bnd (w1 _ (by decide)) (fun _ => Fed.ret (⟨nm, pr, ss, a⟩ : Rul) n) rfl) rfl) rfl) rfl) rfl) rfl) rfl) rfl) rfl)
  (fun y => Fed.bnd (w1 _ (by decide)) (fun _ => Fed.ret y n) rfl) rfl
theorem fed_prg {N n : Nat} (h : 10 * n + 10 ≤ N) : ∀ (m : Nat) (acc : List Rul) (ts : List Tok), ts.length ≤ n → ts.length < m → (∃ x, prgO N m acc ts = some (.ok x [])) ∨ ∃ r, prgO N m acc ts = some (.er r) ∧ r.length ≤ ts.length
 | 0, acc, ts, _, hm => by omega
 | m + 1, acc, ts, hn, hm => by
  rw [prgO]
  split
  ·rename_i c; subst c; exact .inl ⟨acc, rfl⟩
  rcases fed_rul h ts hn with ⟨x, r, h1, h2⟩ | ⟨r, h1, h2⟩
  ·rw [h1]
   simp at h2
   rcases fed_prg h m (acc ++ [x]) r (by omega) (by omega) with ⟨y, h3⟩ | ⟨q, h3, h4⟩
   ·exact .inl ⟨y, h3⟩
   ·exact .inr ⟨q, h3, by omega⟩
  ·exact .inr ⟨r, by rw [h1]; rfl, h2⟩
theorem prgT_spec (ts : List Tok) : prgO (fuelP ts) (fuelP ts) [] ts = some (prgT ts) := by
 unfold prgT
 rcases fed_prg (N := fuelP ts) (n := ts.length) (Nat.le_refl _) (fuelP ts) [] ts (Nat.le_refl _) (by unfold fuelP; omega) with ⟨x, h⟩ | ⟨r, h, _⟩ <;> rw [h] <;> rfl
theorem prgT_of {n m : Nat} {ts : List Tok} {res : Rd (List Rul)} (h : prgO n m [] ts = some res) : prgT ts = res := by
 have h1 := prg_mono (Nat.le_max_left n (fuelP ts)) _ _ _ _ h (max m (fuelP ts)) (Nat.le_max_left _ _)
 have h2 := prg_mono (Nat.le_max_right n (fuelP ts)) _ _ _ _ (prgT_spec ts) (max m (fuelP ts)) (Nat.le_max_right _ _)
 rw [h1] at h2
 exact (Option.some.inj h2).symm
end Go.Proofs.YtpggidmbnjfmaaaGreatDoor
end
