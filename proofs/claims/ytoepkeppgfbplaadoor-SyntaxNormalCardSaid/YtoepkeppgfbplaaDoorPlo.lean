/- Chapter 32: the reader of expressions looks no further than at the head of what it leaves. -/
import Derived.Test.YtoepkeppgfbplaaDoorPfu
set_option linter.unusedSimpArgs false
set_option linter.unusedVariables false
set_option maxHeartbeats 1000000
namespace Go.Proofs.YtoepkeppgfbplaaDoor
open E

namespace Rd
def mapR {α : Type} (h : List Tok → List Tok) : Rd α → Rd α
 | .ok x r => .ok x (h r)
 | .er r => .er (h r)
end Rd
def hk : List Tok → Option (Int × List UInt8)
 | [] => none
 | t :: _ => some (t.kind, t.text)
def Plc (g : Tok → Tok) : Prop := ∀ t, (g t).kind = t.kind ∧ (g t).text = t.text
theorem hk_map {g : Tok → Tok} (hg : Plc g) (ts : List Tok) : hk (ts.map g) = hk ts := by
 cases ts with
 | nil => rfl
 | cons t ts => show some _ = some _; rw [(hg t).1, (hg t).2]
structure Loc {α : Type} (f : List Tok → Option (Rd α)) : Prop where
 lo : ∀ ts res, f ts = some res → match res with
  | .ok x r => ∃ pre, ts = pre ++ r ∧ ∀ t r', r = t :: r' → ∀ more, f (pre ++ t :: more) = some (.ok x (t :: more))
  | .er r => ∃ pre, ts = pre ++ r ∧ ∀ t r', r = t :: r' → ∀ more, f (pre ++ t :: more) = some (.er (t :: more))
 nt : ∀ g, Plc g → ∀ ts, f (ts.map g) = (f ts).map (Rd.mapR (List.map g))
theorem Loc.bnd {α β : Type} {f : List Tok → Option (Rd α)} {g : α → List Tok → Option (Rd β)} (hf : Loc f) (hg : ∀ x, Loc (g x)) : Loc fun ts => bndO (f ts) g := by
 refine ⟨fun ts res h => ?_, fun p hp ts => ?_⟩
 case refine_2 =>
  show bndO _ _ = _
  rw [hf.nt p hp ts]
  cases hq : f ts with
  | none => rfl
  | some q =>
   cases q with
   | er r => rfl
   | ok x r => exact (hg x).nt p hp r
 replace h : bndO (f ts) g = some res := h
 cases hq : f ts with
 | none => rw [hq] at h; cases h
 | some q =>
  have h1 := hf.lo ts q hq
  rw [hq] at h
  cases q with
  | er r =>
   cases h
   obtain ⟨pre, e1, e2⟩ := h1
   exact ⟨pre, e1, fun t r' hr more => by show bndO _ _ = _; rw [e2 t r' hr more]; rfl⟩
  | ok x r =>
   obtain ⟨pre, e1, e2⟩ := h1
   have h2 := (hg x).lo r res h
   have key : ∀ pre2 r2, r = pre2 ++ r2 → ∀ t r', r2 = t :: r' → ∀ more, f (pre ++ pre2 ++ t :: more) = some (.ok x (pre2 ++ t :: more)) := by
    intro pre2 r2 hr t r' ht more
    subst ht
    cases pre2 with
    | nil => rw [List.append_nil, List.nil_append]; exact e2 t r' (by simpa using hr) more
    | cons u p2 =>
     have := e2 u (p2 ++ t :: r') (by simpa using hr) (p2 ++ t :: more)
     simpa using this
   cases res with
   | ok y r2 =>
    obtain ⟨pre2, e3, e4⟩ := h2
    refine ⟨pre ++ pre2, by rw [e1, e3, List.append_assoc], fun t r' hr more => ?_⟩
    show bndO _ _ = _
    rw [key pre2 r2 e3 t r' hr more]
    exact e4 t r' hr more
   | er r2 =>
    obtain ⟨pre2, e3, e4⟩ := h2
    refine ⟨pre ++ pre2, by rw [e1, e3, List.append_assoc], fun t r' hr more => ?_⟩
    show bndO _ _ = _
    rw [key pre2 r2 e3 t r' hr more]
    exact e4 t r' hr more
theorem Loc.ret {α : Type} (x : α) : Loc fun ts => some (.ok x ts) := by
 refine ⟨fun ts res h => ?_, fun p hp ts => rfl⟩
 cases h
 exact ⟨[], rfl, fun t r' hr more => rfl⟩
theorem Loc.fail {α : Type} : Loc fun ts => (some (.er ts) : Option (Rd α)) := by
 refine ⟨fun ts res h => ?_, fun p hp ts => rfl⟩
 cases h
 exact ⟨[], rfl, fun t r' hr more => rfl⟩
theorem Loc.non {α : Type} : Loc fun _ => (none : Option (Rd α)) := ⟨fun ts res h => (by cases h), fun p hp ts => rfl⟩
theorem Loc.tail {α : Type} {f : List Tok → Option (Rd α)} (hf : Loc f) : Loc fun ts => f ts.tail := by
 refine ⟨fun ts res h => ?_, fun p hp ts => by rw [← hf.nt p hp, List.map_tail]⟩
 have h1 := hf.lo _ _ h
 cases ts with
 | nil =>
  cases res with
  | ok x r =>
   obtain ⟨pre, e1, e2⟩ := h1
   have e3 : r = [] := by cases pre <;> cases r <;> simp_all
   exact ⟨[], by rw [e3]; rfl, fun t r' hr => by rw [e3] at hr; cases hr⟩
  | er r =>
   obtain ⟨pre, e1, e2⟩ := h1
   have e3 : r = [] := by cases pre <;> cases r <;> simp_all
   exact ⟨[], by rw [e3]; rfl, fun t r' hr => by rw [e3] at hr; cases hr⟩
 | cons u ts =>
  cases res with
  | ok x r =>
   obtain ⟨pre, e1, e2⟩ := h1
   exact ⟨u :: pre, by rw [List.tail_cons] at e1; rw [e1]; rfl, fun t r' hr more => e2 t r' hr more⟩
  | er r =>
   obtain ⟨pre, e1, e2⟩ := h1
   exact ⟨u :: pre, by rw [List.tail_cons] at e1; rw [e1]; rfl, fun t r' hr more => e2 t r' hr more⟩
theorem Loc.head {α : Type} {f : List Tok → Option (Rd α)} (F : Option (Int × List UInt8) → List Tok → Option (Rd α)) (hF : ∀ o, Loc (F o)) (h : ∀ ts, f ts = F (hk ts) ts) : Loc f := by
 refine ⟨fun ts res hr => ?_, fun p hp ts => by rw [h, h, hk_map hp, (hF _).nt p hp]⟩
 rw [h] at hr
 have h1 := (hF _).lo _ _ hr
 have key : ∀ pre r t r' more, ts = pre ++ r → r = t :: r' → hk (pre ++ t :: more) = hk ts := by
  intro pre r t r' more e1 e2
  subst e2; subst e1
  cases pre <;> rfl
 cases res with
 | ok x r =>
  obtain ⟨pre, e1, e2⟩ := h1
  exact ⟨pre, e1, fun t r' hr more => by rw [h, key pre r t r' more e1 hr]; exact e2 t r' hr more⟩
 | er r =>
  obtain ⟨pre, e1, e2⟩ := h1
  exact ⟨pre, e1, fun t r' hr more => by rw [h, key pre r t r' more e1 hr]; exact e2 t r' hr more⟩
def hd1 : Option (Int × List UInt8) → List UInt8
 | none => []
 | some t => t.2
def kd1 : Option (Int × List UInt8) → Int
 | none => 0
 | some t => t.1
theorem hdT_hd (ts : List Tok) : hdT ts = hd1 (hk ts) := by cases ts <;> rfl
theorem kdT_kd (ts : List Tok) : kdT ts = kd1 (hk ts) := by cases ts <;> rfl
theorem Loc.ite {α : Type} {f g : List Tok → Option (Rd α)} (C : Option (Int × List UInt8) → Prop) [DecidablePred C] (hf : Loc f) (hg : Loc g) : Loc fun ts => if C (hk ts) then f ts else g ts := by
 refine Loc.head (fun o ts => if C o then f ts else g ts) (fun o => ?_) (fun ts => rfl)
 by_cases h : C o
 ·simp only [if_pos h]; exact hf
 ·simp only [if_neg h]; exact hg
theorem Loc.congr {α : Type} {f g : List Tok → Option (Rd α)} (hf : Loc f) (h : ∀ ts, g ts = f ts) : Loc g := by
 rw [show g = f from funext h]; exact hf
theorem Loc.hite {α : Type} {f g : List Tok → Option (Rd α)} (s : List UInt8) (hf : Loc f) (hg : Loc g) : Loc fun ts => if hdT ts = s then f ts else g ts := by
 refine (Loc.ite (fun o => hd1 o = s) hf hg).congr fun ts => ?_
 simp only [hdT_hd]
theorem Loc.hite2 {α : Type} {f g : List Tok → Option (Rd α)} (s s' : List UInt8) (hf : Loc f) (hg : Loc g) : Loc fun ts => if hdT ts = s ∨ hdT ts = s' then f ts else g ts := by
 refine (Loc.ite (fun o => hd1 o = s ∨ hd1 o = s') hf hg).congr fun ts => ?_
 simp only [hdT_hd]
theorem loc_want (s : List UInt8) : Loc fun ts => some (wantT s ts) := by
 refine (Loc.hite s (Loc.tail (Loc.ret ())) Loc.fail).congr fun ts => ?_
 unfold wantT; split <;> rfl
theorem loc_num (a b : Int) : Loc fun ts => some (numT a b ts) := by
 refine Loc.head (fun o ts => match o with
  | Option.none => some (.er ts)
  | some t => if (valR t.1 t.2).2 = true ∧ a ≤ (valR t.1 t.2).1 ∧ (valR t.1 t.2).1 ≤ b then some (.ok (valR t.1 t.2).1 ts.tail) else some (.er ts)) (fun o => ?_) (fun ts => ?_)
 ·cases o with
  | none => exact Loc.fail
  | some t =>
   simp only []
   split
   ·exact Loc.tail (Loc.ret _)
   ·exact Loc.fail
 ·cases ts with
  | nil => rfl
  | cons t r => simp only [hk, List.tail_cons, numT]; split <;> rfl
theorem loc_name : Loc fun ts => some (nameT ts) := by
 refine Loc.head (fun o ts => match o with
  | Option.none => some (.er ts)
  | some t => if t.1 = 1 ∧ kwB t.2 = false then some (.ok t.2 ts.tail) else some (.er ts)) (fun o => ?_) (fun ts => ?_)
 ·cases o with
  | none => exact Loc.fail
  | some t =>
   simp only []
   split
   ·exact Loc.tail (Loc.ret _)
   ·exact Loc.fail
 ·cases ts with
  | nil => rfl
  | cons t r => simp only [hk, List.tail_cons, nameT]; split <;> rfl
theorem bnd_O {α β : Type} (x : Rd α) (f : α → List Tok → Rd β) : some (x.bnd f) = bndO (some x) fun a r => some (f a r) := by cases x <;> rfl
theorem Loc.opt {α : Type} {o : List UInt8 → Option Int} {f : Int → List Tok → Option (Rd α)} {g : List Tok → Option (Rd α)} (hf : ∀ k, Loc (f k)) (hg : Loc g) : Loc fun ts => match o (hdT ts) with | some k => f k ts | none => g ts := by
 refine Loc.head (fun q ts => match o (hd1 q) with | some k => f k ts | none => g ts) (fun q => ?_) (fun ts => ?_)
 ·cases o (hd1 q) with
  | none => exact hg
  | some k => exact hf k
 ·rw [hdT_hd]
theorem loc_par : ∀ (n : Nat) (j : Job), Loc (par n j)
 | 0, j => Loc.non.congr fun ts => by cases j <;> rfl
 | n + 1, .lev k => by
  by_cases c1 : k ≤ 1
  ·exact (Loc.bnd (loc_par n (.lev 2)) fun x => loc_par n (.lp 1 x)).congr fun ts => by rw [par, if_pos c1]
  by_cases c2 : k = 2 ∨ k = 5 ∨ k = 6
  ·exact (Loc.bnd (loc_par n (.lev (k + 1))) fun x => loc_par n (.lp k x)).congr fun ts => by rw [par, if_neg c1, if_pos c2]
  by_cases c3 : k = 3
  ·exact (Loc.hite sNot (Loc.tail (Loc.bnd (loc_par n (.lev 3)) fun x => Loc.ret (one 6 x))) (loc_par n (.lev 4))).congr fun ts => by rw [par, if_neg c1, if_neg c2, if_pos c3]
  by_cases c4 : k = 4
  ·refine (Loc.bnd (loc_par n (.lev 5)) fun x => Loc.opt (o := opT 4) (f := fun o r => bndO (par n (.lev 5) r.tail) fun y r' => some (.ok (two o x y) r')) (g := fun r => some (.ok x r)) (fun o => Loc.tail (Loc.bnd (loc_par n (.lev 5)) fun y => Loc.ret (two o x y))) (Loc.ret x)).congr fun ts => ?_
   rw [par, if_neg c1, if_neg c2, if_neg c3, if_pos c4]
   first | (congr 1; done) | (congr 1; funext x r; cases opT 4 (hdT r) <;> rfl)
  by_cases c5 : k = 7
  ·refine (Loc.hite [45] (Loc.tail (Loc.bnd (loc_par n (.lev 7)) fun x => Loc.ret (one 3 x))) (loc_par n .prm)).congr fun ts => ?_
   rw [par, if_neg c1, if_neg c2, if_neg c3, if_neg c4]; simp [c5]
  ·exact (loc_par n .prm).congr fun ts => by rw [par, if_neg c1, if_neg c2, if_neg c3, if_neg c4, if_neg (fun q => c5 q.1)]
 | n + 1, .lp k x => by
  have hop : Loc fun ts => match opT k (hdT ts) with | some o => bndO (par n (.lev (k + 1)) ts.tail) (fun y r => par n (.lp k (two o x y)) r) | none => some (.ok x ts) :=
   (Loc.opt (o := opT k) (f := fun o ts => bndO (par n (.lev (k + 1)) ts.tail) (fun y r => par n (.lp k (two o x y)) r)) (g := fun ts => some (.ok x ts)) (fun o => Loc.tail (Loc.bnd (loc_par n (.lev (k + 1))) fun y => loc_par n (.lp k (two o x y)))) (Loc.ret x)).congr fun ts => by cases opT k (hdT ts) <;> rfl
  by_cases c1 : k = 6
  ·refine (Loc.hite sPer (Loc.tail (Loc.bnd (loc_num 1 1000000000000) fun v => loc_par n (.lp k (perX v x)))) hop).congr fun ts => ?_
   rw [par]
   simp only [c1, true_and]
   split
   ·cases numT 1 1000000000000 ts.tail <;> rfl
   ·rfl
  ·refine hop.congr fun ts => ?_
   rw [par, if_neg (fun q => c1 q.1)]
   rfl
 | n + 1, .prm => by
  have w := fun s => loc_want s
  have e := loc_par n (.lev 0)
  have h1 : Loc fun ts => bndO (par n (.lev 0) ts.tail) fun x r => bndO (some (wantT [41] r)) fun _ r => some (.ok x r) :=
   Loc.tail (Loc.bnd e fun x => Loc.bnd (w [41]) fun _ => Loc.ret x)
  have h2 : ∀ k, Loc fun ts => bndO (some (wantT [40] ts.tail)) fun _ r => bndO (par n (.lev 0) r) fun a r => bndO (some (wantT [44] r)) fun _ r => bndO (par n (.lev 0) r) fun b r => bndO (some (wantT [41] r)) fun _ r => some (.ok (two k a b) r) := fun k =>
   Loc.tail (Loc.bnd (w [40]) fun _ => Loc.bnd e fun a => Loc.bnd (w [44]) fun _ => Loc.bnd e fun b => Loc.bnd (w [41]) fun _ => Loc.ret (two k a b))
  have h3 : ∀ k, Loc fun ts => bndO (some (wantT [40] ts.tail)) fun _ r => bndO (par n (.lev 0) r) fun a r => bndO (some (wantT [41] r)) fun _ r => some (.ok (one k a) r) := fun k =>
   Loc.tail (Loc.bnd (w [40]) fun _ => Loc.bnd e fun a => Loc.bnd (w [41]) fun _ => Loc.ret (one k a))
  have h4 : ∀ k, Loc fun ts => bndO (some (wantT [40] ts.tail)) fun _ r => bndO (some (numT 1 99999 r)) fun f r => bndO (some (wantT [46, 46] r)) fun _ r => bndO (some (numT 1 99999 r)) fun t r => bndO (some (wantT [41] r)) fun _ r => some (.ok (Xp.mk k 0 f t [] []) r) := fun k =>
   Loc.tail (Loc.bnd (w [40]) fun _ => Loc.bnd (loc_num 1 99999) fun f => Loc.bnd (w [46, 46]) fun _ => Loc.bnd (loc_num 1 99999) fun t => Loc.bnd (w [41]) fun _ => Loc.ret _)
  have h5 : Loc fun ts => bndO (some (numT 0 1000000000000 ts)) fun v r => some (.ok (Xp.mk 1 v 0 0 [] []) r) := Loc.bnd (loc_num _ _) fun v => Loc.ret _
  have h6 : Loc fun ts => bndO (some (nameT ts)) fun s r => some (.ok (Xp.mk 2 0 0 0 s []) r) := Loc.bnd loc_name fun v => Loc.ret _
  have h2' := Loc.head (f := fun ts => bndO (some (wantT [40] ts.tail)) fun _ r => bndO (par n (.lev 0) r) fun a r => bndO (some (wantT [44] r)) fun _ r => bndO (par n (.lev 0) r) fun b r => bndO (some (wantT [41] r)) fun _ r => some (.ok (two (if hdT ts = sMax then 11 else 10) a b) r)) (fun o ts => bndO (some (wantT [40] ts.tail)) fun _ r => bndO (par n (.lev 0) r) fun a r => bndO (some (wantT [44] r)) fun _ r => bndO (par n (.lev 0) r) fun b r => bndO (some (wantT [41] r)) fun _ r => some (.ok (two (if hd1 o = sMax then 11 else 10) a b) r)) (fun o => h2 _) (fun ts => by simp only [hdT_hd])
  have h3' := Loc.head (f := fun ts => bndO (some (wantT [40] ts.tail)) fun _ r => bndO (par n (.lev 0) r) fun a r => bndO (some (wantT [41] r)) fun _ r => some (.ok (one (if hdT ts = sShare then 5 else 4) a) r)) (fun o ts => bndO (some (wantT [40] ts.tail)) fun _ r => bndO (par n (.lev 0) r) fun a r => bndO (some (wantT [41] r)) fun _ r => some (.ok (one (if hd1 o = sShare then 5 else 4) a) r)) (fun o => h3 _) (fun ts => by simp only [hdT_hd])
  have h4' := Loc.head (f := fun ts => bndO (some (wantT [40] ts.tail)) fun _ r => bndO (some (numT 1 99999 r)) fun f r => bndO (some (wantT [46, 46] r)) fun _ r => bndO (some (numT 1 99999 r)) fun t r => bndO (some (wantT [41] r)) fun _ r => some (.ok (Xp.mk (if hdT ts = sPart then 22 else 21) 0 f t [] []) r)) (fun o ts => bndO (some (wantT [40] ts.tail)) fun _ r => bndO (some (numT 1 99999 r)) fun f r => bndO (some (wantT [46, 46] r)) fun _ r => bndO (some (numT 1 99999 r)) fun t r => bndO (some (wantT [41] r)) fun _ r => some (.ok (Xp.mk (if hd1 o = sPart then 22 else 21) 0 f t [] []) r)) (fun o => h4 _) (fun ts => by simp only [hdT_hd])
  have h56 := Loc.ite (fun o => kd1 o = 2) h5 h6
  refine (Loc.ite (fun o => o = none) (Loc.fail) (Loc.hite [40] h1 (Loc.hite2 sMin sMax h2' (Loc.hite2 sAbs sShare h3' (Loc.hite2 sBal sPart h4' h56))))).congr fun ts => ?_
  rw [par]
  cases ts with
  | nil => simp [hk]
  | cons t r =>
   have hne : ¬ (t :: r = []) := by simp
   have hh : ¬ (hk (t :: r) = none) := by simp [hk]
   rw [if_neg hne, if_neg hh]
   simp only [bnd_O, kdT_kd, accT]
end Go.Proofs.YtoepkeppgfbplaaDoor
