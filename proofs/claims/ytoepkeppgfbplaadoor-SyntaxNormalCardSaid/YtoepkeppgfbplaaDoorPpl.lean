/- Chapter 32: the parser of programs on tokens, what it looks at, enough fuel. -/
import Derived.Test.YtoepkeppgfbplaaDoorPlo
import Derived.Test.YtoepkeppgfbplaaDoorSye
set_option linter.unusedSimpArgs false
set_option linter.unusedVariables false
set_option maxHeartbeats 1000000
namespace Go.Proofs.YtoepkeppgfbplaaDoor
open E

abbrev wantO (s : List UInt8) (ts : List Tok) : Option (Rd Unit) := some (wantT s ts)
def stmO (n : Nat) (ts : List Tok) : Option (Rd Stm) :=
 if hdT ts = sLet then bndO (some (nameT ts.tail)) fun s r => bndO (wantO [61] r) fun _ r => bndO (par n (.lev 0) r) fun x r => bndO (wantO [59] r) fun _ r => some (.ok ⟨1, 0, s, x⟩ r)
 else if hdT ts = sReq then bndO (par n (.lev 0) ts.tail) fun x r => bndO (wantO [59] r) fun _ r => some (.ok ⟨2, 0, [], x⟩ r)
 else if hdT ts = sPost then bndO (some (accT ts.tail)) fun a r => bndO (par n (.lev 0) r) fun x r => bndO (wantO [59] r) fun _ r => some (.ok ⟨3, a, [], x⟩ r)
 else some (.er ts)
def stmsO (n : Nat) : Nat → List Stm → List Tok → Option (Rd (List Stm))
 | 0, _, _ => none
 | m + 1, acc, ts => if hdT ts = sTo then some (.ok acc ts) else bndO (stmO n ts) fun s r => stmsO n m (acc ++ [s]) r
def pairO (ts : List Tok) : Option (Rd Bool) := if hdT ts = sPair then some (.ok true ts.tail) else bndO (wantO sEnt ts) fun _ r => some (.ok false r)
def rulF (n : Nat) (ts : List Tok) : Option (Rd Rul) :=
 bndO (wantO sRule ts) fun _ r => bndO (some (nameT r)) fun nm r => bndO (wantO sEach r) fun _ r => bndO (pairO r) fun pr r => bndO (wantO [123] r) fun _ r =>
 bndO (stmsO n n [] r) fun ss r => bndO (wantO sTo r) fun _ r => bndO (some (accT r)) fun a r => bndO (wantO [59] r) fun _ r => some (.ok ⟨nm, pr, ss, a⟩ r)
def rulO (n : Nat) (ts : List Tok) : Option (Rd Rul) := bndO (rulF n ts) fun y r => bndO (wantO [125] r) fun _ r => some (.ok y r)
def prgO (n : Nat) : Nat → List Rul → List Tok → Option (Rd (List Rul))
 | 0, _, _ => none
 | m + 1, acc, ts => if ts = [] then some (.ok acc ts) else bndO (rulO n ts) fun s r => prgO n m (acc ++ [s]) r
def fuelP (ts : List Tok) : Nat := 10 * ts.length + 10
def prgT (ts : List Tok) : Rd (List Rul) := (prgO (fuelP ts) (fuelP ts) [] ts).getD (.er ts)
def placeT (e : Nat) : List Tok → Int
 | [] => e
 | t :: _ => t.frm
def parsT (len : Nat) (ts : List Tok) : List Rul × Int × Int := match prgT ts with
 | .er r => ([], placeT len r, 3)
 | .ok p _ => if prgB p = true then (p, 0, 0) else ([], 0, 6)
def parseR (s : List UInt8) : List Rul × Int × Int := if (tokensR s).2.2 = 0 then parsT s.length (tokensR s).1 else ([], (tokensR s).2.1, (tokensR s).2.2)

theorem loc_acc : Loc fun ts => some (accT ts) := loc_num 1 99999
theorem loc_stm (n : Nat) : Loc (stmO n) := by
 have e := loc_par n (.lev 0)
 refine (Loc.hite sLet (Loc.tail (Loc.bnd loc_name fun s => Loc.bnd (loc_want [61]) fun _ => Loc.bnd e fun x => Loc.bnd (loc_want [59]) fun _ => Loc.ret (⟨1, 0, s, x⟩ : Stm)))
  (Loc.hite sReq (Loc.tail (Loc.bnd e fun x => Loc.bnd (loc_want [59]) fun _ => Loc.ret (⟨2, 0, [], x⟩ : Stm)))
  (Loc.hite sPost (Loc.tail (Loc.bnd loc_acc fun a => Loc.bnd e fun x => Loc.bnd (loc_want [59]) fun _ => Loc.ret (⟨3, a, [], x⟩ : Stm))) Loc.fail))).congr fun ts => ?_
 rfl
theorem loc_stms (n : Nat) : ∀ (m : Nat) (acc : List Stm), Loc (stmsO n m acc)
 | 0, acc => Loc.non.congr fun ts => rfl
 | m + 1, acc => (Loc.hite sTo (Loc.ret acc) (Loc.bnd (loc_stm n) fun s => loc_stms n m (acc ++ [s]))).congr fun ts => rfl
theorem loc_pair : Loc pairO := (Loc.hite sPair (Loc.tail (Loc.ret true)) (Loc.bnd (loc_want sEnt) fun _ => Loc.ret false)).congr fun ts => rfl
theorem loc_rulF (n : Nat) : Loc (rulF n) :=
 Loc.bnd (loc_want sRule) fun _ => Loc.bnd loc_name fun nm => Loc.bnd (loc_want sEach) fun _ => Loc.bnd loc_pair fun pr => Loc.bnd (loc_want [123]) fun _ =>
 Loc.bnd (loc_stms n n []) fun ss => Loc.bnd (loc_want sTo) fun _ => Loc.bnd loc_acc fun a => Loc.bnd (loc_want [59]) fun _ => Loc.ret (⟨nm, pr, ss, a⟩ : Rul)
theorem loc_rul (n : Nat) : Loc (rulO n) := Loc.bnd (loc_rulF n) fun y => Loc.bnd (loc_want [125]) fun _ => Loc.ret y
theorem loc_prg (n : Nat) : ∀ (m : Nat) (acc : List Rul), Loc (prgO n m acc)
 | 0, acc => Loc.non.congr fun ts => rfl
 | m + 1, acc => (Loc.ite (fun o => o = none) (Loc.ret acc) (Loc.bnd (loc_rul n) fun s => loc_prg n m (acc ++ [s]))).congr fun ts => by
  rw [prgO]
  cases ts with
  | nil => rfl
  | cons t r => rw [if_neg (by simp), if_neg (by simp [hk])]
theorem rul_strong {n : Nat} {ts : List Tok} {x : Rul} {r : List Tok} (h : rulO n ts = some (.ok x r)) : ∃ pre, pre ≠ [] ∧ ts = pre ++ r ∧ ∀ more, rulO n (pre ++ more) = some (.ok x more) := by
 unfold rulO at h
 cases hq : rulF n ts with
 | none => rw [hq] at h; cases h
 | some q =>
  rw [hq] at h
  cases q with
  | er r => cases h
  | ok y r1 =>
   have h1 := (loc_rulF n).lo _ _ hq
   obtain ⟨pre, e1, e2⟩ := h1
   have h2 : bndO (wantO [125] r1) (fun _ r => some (.ok y r)) = some (.ok x r) := h
   cases r1 with
   | nil => simp [wantO, wantT, hdT, bndO] at h2
   | cons t r2 =>
    unfold wantO wantT at h2
    by_cases ht : hdT (t :: r2) = [125]
    ·rw [if_pos ht] at h2
     simp only [bndO, List.tail_cons, Option.some.injEq, Rd.ok.injEq] at h2
     obtain ⟨rfl, rfl⟩ := h2
     refine ⟨pre ++ [t], by simp, by rw [e1]; simp, fun more => ?_⟩
     unfold rulO
     rw [List.append_assoc, List.singleton_append, e2 t _ rfl more]
     have ht' : hdT (t :: more) = [125] := ht
     simp only [bndO, wantO, wantT, if_pos ht', List.tail_cons]
    ·rw [if_neg ht] at h2
     cases h2

theorem stm_mono {n : Nat} {ts : List Tok} {res : Rd Stm} (h : stmO n ts = some res) {n' : Nat} (hn : n ≤ n') : stmO n' ts = some res := by
 have hp : ∀ ts r, par n (.lev 0) ts = some r → par n' (.lev 0) ts = some r := fun ts r h => par_more h hn
 unfold stmO at h ⊢
 split at h
 ·rename_i c; rw [if_pos c]
  exact bndO_mono h (fun r hr => hr) fun a r q hq => bndO_mono hq (fun r hr => hr) fun a r q hq => bndO_mono hq (hp _) fun a r q hq => hq
 rename_i c; rw [if_neg c]
 split at h
 ·rename_i c; rw [if_pos c]
  exact bndO_mono h (hp _) fun a r q hq => hq
 rename_i c; rw [if_neg c]
 split at h
 ·rename_i c; rw [if_pos c]
  exact bndO_mono h (fun r hr => hr) fun a r q hq => bndO_mono hq (hp _) fun a r q hq => hq
 rename_i c; rw [if_neg c]
 exact h
theorem stms_mono {n n' : Nat} (hn : n ≤ n') : ∀ (m : Nat) (acc : List Stm) (ts : List Tok) (res : Rd (List Stm)), stmsO n m acc ts = some res → ∀ m', m ≤ m' → stmsO n' m' acc ts = some res
 | 0, acc, ts, res, h, m', hm => by cases h
 | m + 1, acc, ts, res, h, m', hm => by
  obtain ⟨k, rfl⟩ : ∃ k, m' = k + 1 := ⟨m' - 1, by omega⟩
  rw [stmsO] at h ⊢
  split at h
  ·rename_i c; rw [if_pos c]; exact h
  rename_i c; rw [if_neg c]
  exact bndO_mono h (fun r hr => stm_mono hr hn) fun a r q hq => stms_mono hn m _ _ _ hq k (by omega)
theorem rulF_mono {n n' : Nat} (hn : n ≤ n') {ts : List Tok} {res : Rd Rul} (h : rulF n ts = some res) : rulF n' ts = some res := by
 unfold rulF at h ⊢
 exact bndO_mono h (fun r hr => hr) fun _ _ _ h => bndO_mono h (fun r hr => hr) fun _ _ _ h => bndO_mono h (fun r hr => hr) fun _ _ _ h => bndO_mono h (fun r hr => hr) fun _ _ _ h => bndO_mono h (fun r hr => hr) fun _ _ _ h =>
  bndO_mono h (fun r hr => stms_mono hn _ _ _ _ hr _ hn) fun _ _ _ h => h
theorem rul_mono {n n' : Nat} (hn : n ≤ n') {ts : List Tok} {res : Rd Rul} (h : rulO n ts = some res) : rulO n' ts = some res := by
 unfold rulO at h ⊢
 exact bndO_mono h (fun r hr => rulF_mono hn hr) fun _ _ _ h => h
theorem prg_mono {n n' : Nat} (hn : n ≤ n') : ∀ (m : Nat) (acc : List Rul) (ts : List Tok) (res : Rd (List Rul)), prgO n m acc ts = some res → ∀ m', m ≤ m' → prgO n' m' acc ts = some res
 | 0, acc, ts, res, h, m', hm => by cases h
 | m + 1, acc, ts, res, h, m', hm => by
  obtain ⟨k, rfl⟩ : ∃ k, m' = k + 1 := ⟨m' - 1, by omega⟩
  rw [prgO] at h ⊢
  split at h
  ·rename_i c; rw [if_pos c]; exact h
  rename_i c; rw [if_neg c]
  exact bndO_mono h (fun r hr => rul_mono hn hr) fun a r q hq => prg_mono hn m _ _ _ hq k (by omega)
def Fed {α : Type} (f : List Tok → Option (Rd α)) (strict : Bool) (n : Nat) : Prop := ∀ ts : List Tok, ts.length ≤ n → (∃ x r, f ts = some (.ok x r) ∧ r.length + (if strict then 1 else 0) ≤ ts.length) ∨ ∃ r, f ts = some (.er r) ∧ r.length ≤ ts.length
theorem Fed.bnd {α β : Type} {f : List Tok → Option (Rd α)} {g : α → List Tok → Option (Rd β)} {a b c : Bool} {n : Nat} (hf : Fed f a n) (hg : ∀ x, Fed (g x) b n) (hc : c = (a || b)) : Fed (fun ts => bndO (f ts) g) c n := by
 intro ts hn
 rcases hf ts hn with ⟨x, r, h1, h2⟩ | ⟨r, h1, h2⟩
 ·rcases hg x r (by omega) with ⟨y, q, h3, h4⟩ | ⟨q, h3, h4⟩
  ·refine .inl ⟨y, q, by simp only [h1, bndO]; exact h3, ?_⟩
   subst hc
   cases a <;> cases b <;> simp at h2 h4 ⊢ <;> omega
  ·exact .inr ⟨q, by simp only [h1, bndO]; exact h3, by omega⟩
 ·exact .inr ⟨r, by simp only [h1, bndO], h2⟩
theorem Fed.ret {α : Type} (x : α) (n : Nat) : Fed (fun ts => some (.ok x ts)) false n := fun ts _ => .inl ⟨x, ts, rfl, by simp⟩
theorem Fed.weak {α : Type} {f : List Tok → Option (Rd α)} {n : Nat} (h : Fed f true n) : Fed f false n := fun ts hn => by
 rcases h ts hn with ⟨x, r, h1, h2⟩ | ⟨r, h1, h2⟩
 ·exact .inl ⟨x, r, h1, by simp at h2 ⊢; omega⟩
 ·exact .inr ⟨r, h1, h2⟩
theorem fed_want (s : List UInt8) (hs : s ≠ []) (n : Nat) : Fed (wantO s) true n := fun ts _ => by
 rcases want_left s hs ts with ⟨r, h1, h2⟩ | ⟨r, h1, h2⟩
 ·exact .inl ⟨(), r, by rw [wantO, h1], by simp; omega⟩
 ·exact .inr ⟨r, by rw [wantO, h1], h2⟩
theorem fed_num (a b : Int) (n : Nat) : Fed (fun ts => some (numT a b ts)) true n := fun ts _ => by
 rcases num_left a b ts with ⟨v, r, h1, h2⟩ | ⟨r, h1, h2⟩
 ·exact .inl ⟨v, r, by simp only [h1], by simp; omega⟩
 ·exact .inr ⟨r, by simp only [h1], h2⟩
theorem fed_name (n : Nat) : Fed (fun ts => some (nameT ts)) true n := fun ts _ => by
 rcases name_left ts with ⟨v, r, h1, h2⟩ | ⟨r, h1, h2⟩
 ·exact .inl ⟨v, r, by simp only [h1], by simp; omega⟩
 ·exact .inr ⟨r, by simp only [h1], h2⟩
theorem fed_par {N n : Nat} (h : 10 * n + 10 ≤ N) : Fed (par N (.lev 0)) true n := fun ts hn => by
 obtain ⟨res, h1, h2⟩ := par_total (.lev 0) ts
 have h3 := par_more h1 (m := N) (by simp only [fuelJ]; omega)
 cases res with
 | ok x r => exact .inl ⟨x, r, h3, by have : r.length < ts.length := h2; simp; omega⟩
 | er r => exact .inr ⟨r, h3, h2⟩
theorem Fed.tail {α : Type} {f : List Tok → Option (Rd α)} {n : Nat} (h : Fed f true n) {ts : List Tok} (hn : ts.length ≤ n) : (∃ x r, f ts.tail = some (.ok x r) ∧ r.length + 1 ≤ ts.length) ∨ ∃ r, f ts.tail = some (.er r) ∧ r.length ≤ ts.length := by
 have := List.length_tail (l := ts)
 rcases h ts.tail (by omega) with ⟨x, r, h1, h2⟩ | ⟨r, h1, h2⟩
 ·exact .inl ⟨x, r, h1, by simp at h2; omega⟩
 ·exact .inr ⟨r, h1, by omega⟩
theorem fed_stm {N n : Nat} (h : 10 * n + 10 ≤ N) : Fed (stmO N) true n := fun ts hn => by
 have w1 := fun s hs => fed_want s hs n
 have e := fed_par h
 unfold stmO
 split
 ·exact Fed.tail (Fed.bnd (fed_name n) (fun s => Fed.bnd (w1 [61] (by simp)) (fun _ => Fed.bnd e (fun x => Fed.bnd (w1 [59] (by simp)) (fun _ => Fed.ret (⟨1, 0, s, x⟩ : Stm) n) rfl) rfl) rfl) rfl) hn
 split
 ·exact Fed.tail (Fed.bnd e (fun x => Fed.bnd (w1 [59] (by simp)) (fun _ => Fed.ret (⟨2, 0, [], x⟩ : Stm) n) rfl) rfl) hn
 split
 ·exact Fed.tail (Fed.bnd (fed_num 1 99999 n) (fun a => Fed.bnd e (fun x => Fed.bnd (w1 [59] (by simp)) (fun _ => Fed.ret (⟨3, a, [], x⟩ : Stm) n) rfl) rfl) rfl) hn
 ·exact .inr ⟨ts, rfl, Nat.le_refl _⟩
theorem fed_stms {N n : Nat} (h : 10 * n + 10 ≤ N) : ∀ (m : Nat) (acc : List Stm) (ts : List Tok), ts.length ≤ n → ts.length < m → (∃ x r, stmsO N m acc ts = some (.ok x r) ∧ r.length ≤ ts.length) ∨ ∃ r, stmsO N m acc ts = some (.er r) ∧ r.length ≤ ts.length
 | 0, acc, ts, _, hm => by omega
 | m + 1, acc, ts, hn, hm => by
  rw [stmsO]
  split
  ·exact .inl ⟨acc, ts, rfl, Nat.le_refl _⟩
  rcases fed_stm h ts hn with ⟨x, r, h1, h2⟩ | ⟨r, h1, h2⟩
  ·rw [h1]
   simp at h2
   rcases fed_stms h m (acc ++ [x]) r (by omega) (by omega) with ⟨y, q, h3, h4⟩ | ⟨q, h3, h4⟩
   ·exact .inl ⟨y, q, h3, by omega⟩
   ·exact .inr ⟨q, h3, by omega⟩
  ·exact .inr ⟨r, by rw [h1]; rfl, h2⟩
theorem fed_pair (n : Nat) : Fed pairO false n := fun ts hn => by
 unfold pairO
 split
 ·exact .inl ⟨true, ts.tail, rfl, by simp⟩
 ·exact Fed.weak (Fed.bnd (fed_want sEnt (by decide) n) (fun _ => Fed.ret false n) rfl) ts hn
theorem fed_rul {N n : Nat} (h : 10 * n + 10 ≤ N) : Fed (rulO N) true n := by
 have w1 := fun s hs => fed_want s hs n
 have hs : Fed (stmsO N N []) false n := fun ts hn => fed_stms h N [] ts hn (by omega)
 exact Fed.bnd (a := true) (b := true) (Fed.bnd (w1 _ (by decide)) (fun _ => Fed.bnd (fed_name n) (fun nm => Fed.bnd (w1 _ (by decide)) (fun _ => Fed.bnd (fed_pair n) (fun pr => Fed.bnd (w1 _ (by decide)) (fun _ => Fed.bnd hs (fun ss => Fed.bnd (w1 _ (by decide)) (fun _ => Fed.bnd (fed_num _ _ n) (fun a => Fed.bnd (w1 _ (by decide)) (fun _ => Fed.ret (⟨nm, pr, ss, a⟩ : Rul) n) rfl) rfl) rfl) rfl) rfl) rfl) rfl) rfl) rfl)
  (fun y => Fed.bnd (w1 _ (by decide)) (fun _ => Fed.ret y n) rfl) rfl
theorem fed_prg {N n : Nat} (h : 10 * n + 10 ≤ N) : ∀ (m : Nat) (acc : List Rul) (ts : List Tok), ts.length ≤ n → ts.length < m → (∃ x, prgO N m acc ts = some (.ok x [])) ∨ ∃ r, prgO N m acc ts = some (.er r) ∧ r.length ≤ ts.length
 | 0, acc, ts, _, hm => by omega
 | m + 1, acc, ts, hn, hm => by
  rw [prgO]
  split
  ·rename_i c; subst c; exact .inl ⟨acc, rfl⟩
  rcases fed_rul h ts hn with ⟨x, r, h1, h2⟩ | ⟨r, h1, h2⟩
  ·rw [h1]
   simp at h2
   rcases fed_prg h m (acc ++ [x]) r (by omega) (by omega) with ⟨y, h3⟩ | ⟨q, h3, h4⟩
   ·exact .inl ⟨y, h3⟩
   ·exact .inr ⟨q, h3, by omega⟩
  ·exact .inr ⟨r, by rw [h1]; rfl, h2⟩
theorem prgT_spec (ts : List Tok) : prgO (fuelP ts) (fuelP ts) [] ts = some (prgT ts) := by
 unfold prgT
 rcases fed_prg (N := fuelP ts) (n := ts.length) (Nat.le_refl _) (fuelP ts) [] ts (Nat.le_refl _) (by unfold fuelP; omega) with ⟨x, h⟩ | ⟨r, h, _⟩ <;> rw [h] <;> rfl
theorem prgT_of {n m : Nat} {ts : List Tok} {res : Rd (List Rul)} (h : prgO n m [] ts = some res) : prgT ts = res := by
 have h1 := prg_mono (Nat.le_max_left n (fuelP ts)) _ _ _ _ h (max m (fuelP ts)) (Nat.le_max_left _ _)
 have h2 := prg_mono (Nat.le_max_right n (fuelP ts)) _ _ _ _ (prgT_spec ts) (max m (fuelP ts)) (Nat.le_max_right _ _)
 rw [h1] at h2
 exact (Option.some.inj h2).symm
theorem prg_end {n : Nat} : ∀ {m : Nat} {acc : List Rul} {ts r : List Tok} {p : List Rul}, prgO n m acc ts = some (.ok p r) → r = []
 | 0, acc, ts, r, p, h => by cases h
 | m + 1, acc, ts, r, p, h => by
  rw [prgO] at h
  split at h
  ·rename_i c; subst c; cases h; rfl
  ·cases hq : rulO n ts with
   | none => rw [hq] at h; cases h
   | some q =>
    rw [hq] at h
    cases q with
    | er r => cases h
    | ok x r1 => exact prg_end (m := m) h
theorem prg_append {n : Nat} : ∀ {m : Nat} {acc : List Rul} {ts r : List Tok} {p : List Rul}, prgO n m acc ts = some (.ok p r) → ∀ (m2 : Nat) (more : List Tok) (res : Rd (List Rul)), prgO n m2 p more = some res → prgO n (m + m2) acc (ts ++ more) = some res
 | 0, acc, ts, r, p, h => by cases h
 | m + 1, acc, ts, r, p, h => by
  intro m2 more res h2
  rw [prgO] at h
  split at h
  ·rename_i c; subst c; cases h
   exact prg_mono (Nat.le_refl n) _ _ _ _ h2 _ (by omega)
  ·rename_i c
   cases hq : rulO n ts with
   | none => rw [hq] at h; cases h
   | some q =>
    rw [hq] at h
    cases q with
    | er r => cases h
    | ok x r1 =>
     obtain ⟨pre, p1, p2, p3⟩ := rul_strong hq
     rw [show m + 1 + m2 = (m + m2) + 1 by omega, prgO, if_neg (fun q => c (List.append_eq_nil_iff.1 q).1), p2, List.append_assoc, p3]
     exact prg_append (m := m) h _ _ _ h2
theorem prg_acc {n : Nat} (b : List Rul) : ∀ {m : Nat} {acc : List Rul} {ts r : List Tok} {p : List Rul}, prgO n m acc ts = some (.ok p r) → prgO n m (b ++ acc) ts = some (.ok (b ++ p) r)
 | 0, acc, ts, r, p, h => by cases h
 | m + 1, acc, ts, r, p, h => by
  rw [prgO] at h ⊢
  split at h
  ·rename_i c; rw [if_pos c]; cases h; rfl
  ·rename_i c; rw [if_neg c]
   cases hq : rulO n ts with
   | none => rw [hq] at h; cases h
   | some q =>
    rw [hq] at h
    cases q with
    | er r => cases h
    | ok x r1 =>
     have := prg_acc b (m := m) (acc := acc ++ [x]) h
     simp only [bndO]
     rw [List.append_assoc]; exact this
theorem prgT_parts {a b : List Tok} {p q : List Rul} {r r' : List Tok} (ha : prgT a = .ok p r) (hb : prgT b = .ok q r') : prgT (a ++ b) = .ok (p ++ q) [] := by
 have h1 := prgT_spec a
 have h2 := prgT_spec b
 rw [ha] at h1
 rw [hb] at h2
 have e := prg_end h2
 subst e
 have h2' := prg_acc p h2
 rw [List.append_nil] at h2'
 let N := max (fuelP a) (fuelP b)
 have h3 := prg_mono (Nat.le_max_left (fuelP a) (fuelP b)) _ _ _ _ h1 _ (Nat.le_refl _)
 have h4 := prg_mono (Nat.le_max_right (fuelP a) (fuelP b)) _ _ _ _ h2' _ (Nat.le_refl _)
 exact prgT_of (prg_append h3 _ _ _ h4)
theorem prgT_map {g : Tok → Tok} (hg : Plc g) (ts : List Tok) : prgT (ts.map g) = (prgT ts).mapR (List.map g) := by
 have h := prgT_spec ts
 have h2 := (loc_prg (fuelP ts) (fuelP ts) []).nt g hg ts
 rw [h] at h2
 exact prgT_of h2
theorem prgT_fault {ts : List Tok} {t : Tok} {r' : List Tok} (h : prgT ts = .er (t :: r')) : ∃ pre, ts = pre ++ t :: r' ∧ ∀ more, prgT (pre ++ t :: more) = .er (t :: more) := by
 have h1 := prgT_spec ts
 rw [h] at h1
 obtain ⟨pre, e1, e2⟩ := (loc_prg _ _ []).lo _ _ h1
 exact ⟨pre, e1, fun more => prgT_of (e2 t r' rfl more)⟩
end Go.Proofs.YtoepkeppgfbplaaDoor
