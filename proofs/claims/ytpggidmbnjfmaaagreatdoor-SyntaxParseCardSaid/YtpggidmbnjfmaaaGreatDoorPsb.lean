/- Chapter 32: the parser's binary, primary and level. -/
import Derived.Test.YtpggidmbnjfmaaaGreatDoorPsa
set_option linter.unusedSimpArgs false
set_option linter.unusedVariables false
set_option maxHeartbeats 4000000
set_option maxRecDepth 8000
namespace Go.Proofs.YtpggidmbnjfmaaaGreatDoor
open E

theorem okNs_allS {nb nt : Nat} {l : List V} (h : ∀ v ∈ l, okN nb nt v = true) : okNs nb nt l = true := by
 induction l with
 | nil => rfl
 | cons x l ih => simp [okNs, h x (by simp), ih fun v hv => h v (by simp [hv])]
def x0 : Xp := .mk 0 0 0 0 [] []
def LvS (f : Nat) (vs : List V) (b : Nat) (L : List Tok) (e : Int) (i : Nat) (y : Xp) (i2 : Nat) (bd2 : Bool) : Prop :=
 ∀ B K, B[b]? = some (pX L e i false) → Ps.Ok B K → FnS Tryz.prog f vs ⟨B, K⟩ y.v ⟨B.set b (pX L e i2 bd2), K⟩
def RdS (f : Nat) (vs : List V) (b : Nat) (L : List Tok) (e : Int) (i : Nat) : Rd Xp → Prop
 | .ok x r => ∃ i', i ≤ i' ∧ i' ≤ L.length ∧ r = L.drop i' ∧ LvS f vs b L e i x i' false
 | .er r => ∃ i' y, i ≤ i' ∧ i' ≤ L.length ∧ r = L.drop i' ∧ LvS f vs b L e i y i' true
theorem RdS.any {f : Nat} {vs : List V} {b : Nat} {L : List Tok} {e : Int} {i : Nat} {res : Rd Xp} (h : RdS f vs b L e i res) : ∃ y i' bd, i ≤ i' ∧ i' ≤ L.length ∧ LvS f vs b L e i y i' bd ∧ ((bd = false ∧ res = .ok y (L.drop i')) ∨ (bd = true ∧ res = .er (L.drop i'))) := by
 cases res with
 | ok x r => obtain ⟨i', h1, h2, rfl, h4⟩ := h; exact ⟨x, i', false, h1, h2, h4, .inl ⟨rfl, rfl⟩⟩
 | er r => obtain ⟨i', y, h1, h2, rfl, h4⟩ := h; exact ⟨y, i', true, h1, h2, h4, .inr ⟨rfl, rfl⟩⟩
theorem RdS.of {f : Nat} {vs : List V} {b : Nat} {L : List Tok} {e : Int} {i : Nat} {res : Rd Xp} (h : ∃ y i' bd, i ≤ i' ∧ i' ≤ L.length ∧ LvS f vs b L e i y i' bd ∧ ((bd = false ∧ res = .ok y (L.drop i')) ∨ (bd = true ∧ res = .er (L.drop i')))) : RdS f vs b L e i res := by
 obtain ⟨y, i', bd, h1, h2, h3, h4⟩ := h
 rcases h4 with ⟨rfl, rfl⟩ | ⟨rfl, rfl⟩
 ·exact ⟨i', h1, h2, rfl, h3⟩
 ·exact ⟨i', y, h1, h2, rfl, h3⟩
def LevC (b : Nat) (L : List Tok) (e : Int) (n : Nat) : Prop := ∀ (k i : Nat) (res : Rd Xp), par n (.lev k) (L.drop i) = some res → i ≤ L.length → RdS 139 [.ptr b 0, vI k] b L e i res
def BinC (b : Nat) (L : List Tok) (e : Int) (n : Nat) : Prop := ∀ (k i : Nat) (res : Rd Xp), (k = 1 ∨ k = 2 ∨ k = 5 ∨ k = 6) → (bndO (par n (.lev (k + 1)) (L.drop i)) fun x r => par n (.lp k x) r) = some res → i ≤ L.length → RdS 158 [.ptr b 0, vI k] b L e i res
def PrmC (b : Nat) (L : List Tok) (e : Int) (n : Nat) : Prop := ∀ (i : Nat) (res : Rd Xp), par n .prm (L.drop i) = some res → i ≤ L.length → RdS 160 [.ptr b 0] b L e i res
theorem w_levBad (b : Nat) (L : List Tok) (e : Int) (k i : Nat) (B : List Bx) (K : List Nat) (hbx : B[b]? = some (pX L e i true)) (hok : Ps.Ok B K) : FnS Tryz.prog 139 [.ptr b 0, vI k] ⟨B, K⟩ x0.v ⟨B, K⟩ := by
 have hle := hok _ _ (Nat.le_refl _) (Nat.le_refl _)
 have hdr := fun (l : List Bx) => Ps.drop' l hle
 have a0 := Ps.at0 B
 have s0 := Ps.set0 B
 have hb : b < B.length := (List.getElem?_eq_some_iff.1 hbx).1
 have gb : ∀ l, (B ++ l)[b]? = some (pX L e i true) := fun l => by rw [List.getElem?_append_left hb]; exact hbx
 unfold pX at gb
 rw [Xp.v, show x0.c = _ from Xp.c_mk 0 0 0 0 [] []]
 (refine FnS.of_codeW mix Tryz.call139 kw_139 (by simp) (fun hB => ?_); (try simp at hB); (try simp -implicitDefEqProofs [qw_139]))
 (try simp -implicitDefEqProofs [gb, a0, s0, hdr, LeNs.refl])
theorem drop_hd {L : List Tok} {i : Nat} (h : hdT (L.drop i) ≠ []) : i < L.length := by
 rcases Nat.lt_or_ge i L.length with q | q
 ·exact q
 ·rw [List.drop_eq_nil_of_le q] at h; exact absurd rfl h
theorem pk_hd (L : List Tok) (i : Nat) : pk L i false = hdT (L.drop i) := rfl
theorem nuO_num {a b : Int} {L : List Tok} {i : Nat} : (∀ v r, numT a b (L.drop i) = .ok v r → nuO a b L i false = some v ∧ r = L.drop (i + 1) ∧ i < L.length) ∧ (∀ r, numT a b (L.drop i) = .er r → nuO a b L i false = none ∧ r = L.drop i) := by
 rcases Nat.lt_or_ge i L.length with q | q
 ·have e := drop_at q
  unfold nuO
  rw [if_neg (by decide), e]
  unfold numT
  simp only []
  refine ⟨fun v r h => ?_, fun r h => ?_⟩
  ·split at h
   ·rename_i c; rw [if_pos c]; cases h; exact ⟨rfl, rfl, q⟩
   ·cases h
  ·split at h
   ·cases h
   ·rename_i c; rw [if_neg c]; cases h; exact ⟨rfl, rfl⟩
 ·have e : L.drop i = [] := List.drop_eq_nil_of_le q
  unfold nuO
  rw [if_neg (by decide), e]
  unfold numT
  exact ⟨fun v r h => (by cases h), fun r h => (by cases h; exact ⟨rfl, rfl⟩)⟩
theorem nmO_name {L : List Tok} {i : Nat} : (∀ v r, nameT (L.drop i) = .ok v r → nmO L i false = some v ∧ r = L.drop (i + 1) ∧ i < L.length) ∧ (∀ r, nameT (L.drop i) = .er r → nmO L i false = none ∧ r = L.drop i) := by
 rcases Nat.lt_or_ge i L.length with q | q
 ·have e := drop_at q
  unfold nmO
  rw [if_neg (by decide), e]
  unfold nameT
  simp only []
  refine ⟨fun v r h => ?_, fun r h => ?_⟩
  ·split at h
   ·rename_i c; rw [if_pos c]; cases h; exact ⟨rfl, rfl, q⟩
   ·cases h
  ·split at h
   ·cases h
   ·rename_i c; rw [if_neg c]; cases h; exact ⟨rfl, rfl⟩
 ·have e : L.drop i = [] := List.drop_eq_nil_of_le q
  unfold nmO
  rw [if_neg (by decide), e]
  unfold nameT
  exact ⟨fun v r h => (by cases h), fun r h => (by cases h; exact ⟨rfl, rfl⟩)⟩
inductive Lp (b : Nat) (L : List Tok) (e : Int) (k : Nat) : Nat → Xp → Nat → Bool → Xp → Nat → Bool → Prop where
 | bad (x : Xp) (i : Nat) : Lp b L e k 0 x i true x i true
 | stop (x : Xp) (i : Nat) (h1 : ¬ (k = 6 ∧ hdT (L.drop i) = sPer)) (h2 : opT k (hdT (L.drop i)) = none) : Lp b L e k 0 x i false x i false
 | per (d : Nat) (x : Xp) (i : Nat) (o : Option Int) (x' : Xp) (i' : Nat) (bd' : Bool) (hk : k = 6) (hp : hdT (L.drop i) = sPer) (hn : nuO 1 1000000000000 L (i + 1) false = o)
   (h : Lp b L e k d (perX (o.getD 0) x) (if o.isSome then i + 1 + 1 else i + 1) (if o.isSome then false else true) x' i' bd') : Lp b L e k (d + 1) x i false x' i' bd'
 | op (d : Nat) (x : Xp) (i : Nat) (o : Int) (y : Xp) (i2 : Nat) (bd2 : Bool) (x' : Xp) (i' : Nat) (bd' : Bool) (h1 : ¬ (k = 6 ∧ hdT (L.drop i) = sPer)) (h2 : opT k (hdT (L.drop i)) = some o)
   (h3 : LvS 139 [.ptr b 0, vI (k + 1 : Nat)] b L e (i + 1) y i2 bd2) (h : Lp b L e k d (two o x y) i2 bd2 x' i' bd') : Lp b L e k (d + 1) x i false x' i' bd'
theorem lp_ex {b : Nat} {L : List Tok} {e : Int} {k : Nat} : ∀ (m : Nat), (∀ m', m' ≤ m → LevC b L e m') → ∀ (x : Xp) (i : Nat) (res : Rd Xp), par m (.lp k x) (L.drop i) = some res → i ≤ L.length →
  ∃ d x' i' bd', Lp b L e k d x i false x' i' bd' ∧ i ≤ i' ∧ i' ≤ L.length ∧ ((bd' = false ∧ res = .ok x' (L.drop i')) ∨ (bd' = true ∧ res = .er (L.drop i')))
 | 0, ih, x, i, res, h, hi => by cases h
 | m + 1, ih, x, i, res, h, hi => by
  have rec1 := fun x i res => lp_ex (b := b) (L := L) (e := e) (k := k) m (fun m' hm => ih m' (by omega)) x i res
  rw [par] at h
  split at h
  ·rename_i c
   obtain ⟨rfl, c2⟩ := c
   have hlt := drop_hd (by rw [c2]; decide)
   rw [show (L.drop i).tail = L.drop (i + 1) by rw [List.tail_drop]] at h
   obtain ⟨n1, n2⟩ := nuO_num (a := 1) (b := 1000000000000) (L := L) (i := i + 1)
   cases hn : numT 1 1000000000000 (L.drop (i + 1)) with
   | ok v r =>
    rw [hn] at h
    obtain ⟨m1, rfl, m3⟩ := n1 v r hn
    obtain ⟨d, x', i', bd', q1, q2, q3, q4⟩ := rec1 _ (i + 1 + 1) res h (by omega)
    exact ⟨d + 1, x', i', bd', .per d x i (some v) x' i' bd' rfl c2 m1 q1, by omega, q3, q4⟩
   | er r =>
    rw [hn] at h
    obtain ⟨m1, rfl⟩ := n2 r hn
    cases h
    exact ⟨1, _, i + 1, true, .per 0 x i none _ _ _ rfl c2 m1 (.bad _ _), by omega, by omega, .inr ⟨rfl, rfl⟩⟩
  ·rename_i c
   cases ho : opT k (hdT (L.drop i)) with
   | none =>
    rw [ho] at h
    cases h
    exact ⟨0, x, i, false, .stop x i c ho, Nat.le_refl _, hi, .inl ⟨rfl, rfl⟩⟩
   | some o =>
    rw [ho] at h
    have hlt := drop_hd (L := L) (i := i) (fun q => by
     rw [q] at ho
     unfold opT at ho
     split at ho <;> simp [sOr, sAnd] at ho)
    rw [show (L.drop i).tail = L.drop (i + 1) by rw [List.tail_drop]] at h
    cases hq : par m (.lev (k + 1)) (L.drop (i + 1)) with
    | none => rw [hq] at h; cases h
    | some q =>
     rw [hq] at h
     obtain ⟨y, i2, bd2, r1, r2, r3, r4⟩ := (ih m (by omega) (k + 1) (i + 1) q hq (by omega)).any
     rcases r4 with ⟨rfl, rfl⟩ | ⟨rfl, rfl⟩
     ·obtain ⟨d, x', i', bd', q1, q2, q3, q4⟩ := rec1 _ i2 res h r2
      exact ⟨d + 1, x', i', bd', .op d x i o y i2 false x' i' bd' c ho r3 q1, by omega, q3, q4⟩
     ·cases h
      exact ⟨1, _, i2, true, .op 0 x i o y i2 true _ _ _ c ho r3 (.bad _ _), by omega, r2, .inr ⟨rfl, rfl⟩⟩
structure BX where
 d : Nat
 x : Xp
 i : Nat
 bd : Bool
def zc : Bx := .cells [vI 0, vI 0, vI 0, vI 0, vS [], .snil]
theorem leB_xc (x : Xp) (n m : Nat) : leB n m (.cells (x.c.map V.t)) (.cells (x.c.map V.t)) := ⟨LeL_refl _, okNs_allS (fun v hv => by obtain ⟨t, _, rfl⟩ := List.mem_map.1 hv; rfl)⟩
theorem leB_zc (n m : Nat) : leB n m zc zc := ⟨LeL_refl _, rfl⟩
theorem leB_op (tx : List UInt8) (o k : Int) (n m : Nat) : leB n m (.cells [vS tx, vI o, vI k]) (.cells [vS tx, vI o, vI k]) := ⟨LeL_refl _, rfl⟩
theorem leB_node (k v f t : Int) (nm : List UInt8) (es : List (List T)) (n m : Nat) : leB n m (.cells [vI k, vI v, vI f, vI t, vS nm, .full es]) (.cells ([T.int .i64 k, .int .i64 v, .int .i64 f, .int .i64 t, .str nm, .sl es].map V.t)) :=
 ⟨⟨.inl rfl, .inl rfl, .inl rfl, .inl rfl, .inl rfl, .inr (.inr ⟨_, rfl, rfl⟩), trivial⟩, rfl⟩
theorem c_one (k : Int) (x : Xp) : (one k x).c = [.int .i64 k, .int .i64 0, .int .i64 0, .int .i64 0, .str [], .sl [x.c]] := Xp.c_mk _ _ _ _ _ _
theorem c_two (k : Int) (x y : Xp) : (two k x y).c = [.int .i64 k, .int .i64 0, .int .i64 0, .int .i64 0, .str [], .sl [x.c, y.c]] := Xp.c_mk _ _ _ _ _ _
theorem c_per (v : Int) (x : Xp) : (perX v x).c = [.int .i64 20, .int .i64 v, .int .i64 0, .int .i64 0, .str [], .sl [x.c]] := Xp.c_mk _ _ _ _ _ _
theorem binC (b : Nat) (L : List Tok) (hL : TokL L) (e : Int) (n : Nat) (ih : ∀ m, m ≤ n → LevC b L e m) : BinC b L e n := by
 intro k i res hk h hi
 refine RdS.of ?_
 have hlv : ∃ y i1 bd1, i ≤ i1 ∧ i1 ≤ L.length ∧ LvS 139 [.ptr b 0, vI (k + 1 : Nat)] b L e i y i1 bd1 ∧ ∃ d x' i' bd', Lp b L e k d y i1 bd1 x' i' bd' ∧ i ≤ i' ∧ i' ≤ L.length ∧ ((bd' = false ∧ res = .ok x' (L.drop i')) ∨ (bd' = true ∧ res = .er (L.drop i'))) := by
  cases hq : par n (.lev (k + 1)) (L.drop i) with
  | none => rw [hq] at h; cases h
  | some q =>
   rw [hq] at h
   obtain ⟨y, i1, bd1, r1, r2, r3, r4⟩ := (ih n (Nat.le_refl _) (k + 1) i q hq hi).any
   refine ⟨y, i1, bd1, r1, r2, r3, ?_⟩
   rcases r4 with ⟨rfl, rfl⟩ | ⟨rfl, rfl⟩
   ·obtain ⟨d, x', i', bd', q1, q2, q3, q4⟩ := lp_ex n ih y i1 res h r2
    exact ⟨d, x', i', bd', q1, by omega, q3, q4⟩
   ·cases h
    exact ⟨0, y, i1, true, .bad _ _, r1, r2, .inr ⟨rfl, rfl⟩⟩
 obtain ⟨y1, i1, bd1, r1, r2, r3, d, x', i', bd', q1, q2, q3, q4⟩ := hlv
 refine ⟨x', i', bd', q2, q3, ?_, q4⟩
 clear h q4 q2 q3 r1
 intro B K hbx hok
 have hle := hok _ _ (Nat.le_refl _) (Nat.le_refl _)
 have hb : b < B.length := (List.getElem?_eq_some_iff.1 hbx).1
 have a0 := Ps.at0 B
 have s0 := Ps.set0 B
 have hzc : ∀ n m, LeBs n m [zc] [zc] := fun n m => ⟨leB_zc n m, trivial⟩
 have hlev := r3 (B ++ [zc]) K (by rw [List.getElem?_append_left hb]; exact hbx) (hok.more _ hzc)
 rw [List.set_append_left _ _ hb] at hlev
 have e1 : IntKind.i64.wrap ((k : Int) + 1) = ((k + 1 : Nat) : Int) := by rw [wrap64 (by omega) (by omega)]; push_cast; rfl
 have hy1 := len_c y1
 have ty1 := take_c y1
 unfold zc at hlev
 (refine FnS.of_codeW mix Tryz.call158 kw_158 (by simp) (fun hB => ?_); (try simp at hB); (try simp -implicitDefEqProofs [qw_158]))
 (try simp -implicitDefEqProofs [e1])
 refine callKf hlev ?_
 have hl1 : (B.set b (pX L e i1 bd1)).length = B.length := List.length_set
 (try simp -implicitDefEqProofs [hl1, hy1, ty1])
 refine loop_rule (X := BX) (fun X => Lp b L e k X.d X.x X.i X.bd x' i' bd') (fun X => [(0, .ptr b 0), (1, vI k), (4, .ptr B.length 0), (5, .ptr (B.length + 1) 0)])
  (fun X => ⟨B.set b (pX L e X.i X.bd) ++ [.cells [vI 0, vI 0, vI 0, vI 0, vS [], .snil], .cells (X.x.c.map V.t)], K⟩) (fun X => X.d) ⟨d, y1, i1, bd1⟩ q1 ?hs ?_
 case hs =>
  have h1 := fun (l l' : List Bx) (n m : Nat) (h1 : B.length ≤ n) (h2 : K.length ≤ m) => Ps.app' (l := l) (l' := l') (hok.set (leB_pX L e i1 bd1) b n m (by rw [List.length_set]; exact h1) h2)
  simp [h1, leB, LeL_refl, LeNs.refl, okNs, okN, hl1, hb]
  omega
 clear q1 hlev r3 ty1 hy1 y1 hl1 d bd1 i1 r2
 rintro ⟨d, x, i2, bd⟩ hlp hbd
 simp only [] at hlp
 clear hbd
 have hl1 : (B.set b (pX L e i2 bd)).length = B.length := List.length_set
 have hok1 : Ps.Ok (B.set b (pX L e i2 bd)) K := hok.set (leB_pX L e i2 bd) b
 have hs1 : ∀ j q, (B.set b (pX L e i2 bd)).set b (pX L e j q) = B.set b (pX L e j q) := fun j q => List.set_set _
 have hg1 : (B.set b (pX L e i2 bd))[b]? = some (pX L e i2 bd) := by simp [hb]
 generalize hB1 : B.set b (pX L e i2 bd) = B1 at *
 have hb1 : b < B1.length := by omega
 have gb : ∀ l, (B1 ++ l)[b]? = some (pX L e i2 bd) := fun l => by rw [List.getElem?_append_left hb1]; exact hg1
 have sb : ∀ l (v : Bx), (B1 ++ l).set b v = B1.set b v ++ l := fun l v => List.set_append_left _ _ hb1
 have a0 : ∀ l, (B1 ++ l)[B.length]? = l[0]? := fun l => by have := Ps.at0 B1 l; rwa [hl1] at this
 have a1 : ∀ l, (B1 ++ l)[B.length + 1]? = l[1]? := fun l => by have := Ps.at1 B1 l; rwa [hl1] at this
 have a2 : ∀ l, (B1 ++ l)[B.length + 2]? = l[2]? := fun l => by have := Ps.at2 B1 l; rwa [hl1] at this
 have s0 : ∀ l (v : Bx), (B1 ++ l).set B.length v = B1 ++ l.set 0 v := fun l v => by have := Ps.set0 B1 l v; rwa [hl1] at this
 have s1 : ∀ l (v : Bx), (B1 ++ l).set (B.length + 1) v = B1 ++ l.set 1 v := fun l v => by have := Ps.set1 B1 l v; rwa [hl1] at this
 have hdr := fun (l : List Bx) => Ps.drop' l (hok1 _ _ (Nat.le_of_eq hl1) (Nat.le_refl _))
 have hdn := fun (l : List Bx) => Ps.drop' l (hok1 _ _ (Nat.le_refl _) (Nat.le_refl _))
 have gb' := gb
 unfold pX at gb'
 have hlx := len_c x
 have htx := take_c x
 cases hlp with
 | bad =>
  (try simp -implicitDefEqProofs [gb', a0, a1, s0, LeNs.refl, hlx, htx, hB1])
  exact ⟨by omega, hdn _⟩
 | stop _ _ h1 h2 =>
  have hok2 : Ps.Ok (B1 ++ [.cells [vI 0, vI 0, vI 0, vI 0, vS [], .snil], .cells (x'.c.map V.t)]) K := hok1.more _ (fun n m => ⟨leB_zc n m, leB_xc x' n m, trivial⟩)
  have hf := w_find b L e i' false k _ K (gb _) hok2
  rw [findR_opT, pk_hd, h2] at hf
  simp only [opV] at hf
  by_cases h6 : k = 6
  ·have hs : hdT (L.drop i') ≠ sPer := fun q => h1 ⟨h6, q⟩
   have ht := w_take0 b L e i' false sPer hs _ K (gb _) hok2
   unfold sPer at ht
   subst h6
   (try simp -implicitDefEqProofs [gb'])
   refine callKf ht ?_
   (try simp -implicitDefEqProofs)
   refine callKf hf ?_
   (try simp -implicitDefEqProofs [gb', a0, a1, s0, LeNs.refl, hlx, htx, hB1])
   all_goals exact ⟨by omega, hdn _⟩
  ·have h6' : ((k : Int) == 6) = false := by simp; omega
   (try simp -implicitDefEqProofs [gb', h6, h6'])
   refine callKf hf ?_
   (try simp -implicitDefEqProofs [gb', a0, a1, s0, LeNs.refl, hlx, htx, hB1])
   all_goals exact ⟨by omega, hdn _⟩
 | per d _ _ o _ _ _ hk6 hp hn h =>
  subst hk6
  have hlt := drop_hd (L := L) (i := i2) (by rw [hp]; decide)
  have hok2 : Ps.Ok (B1 ++ [.cells [vI 0, vI 0, vI 0, vI 0, vS [], .snil], .cells (x.c.map V.t)]) K := hok1.more _ (fun n m => ⟨leB_zc n m, leB_xc x n m, trivial⟩)
  have ht := w_take1 b L hL.len e i2 false sPer hp (by decide) _ K (gb _) hok2
  rw [sb, hs1] at ht
  have hok3 : Ps.Ok (B.set b (pX L e (i2 + 1) false) ++ [.cells [vI 0, vI 0, vI 0, vI 0, vS [], .snil], .cells (x.c.map V.t)]) K := (hok.set (leB_pX _ _ _ _) b).more _ (fun n m => ⟨leB_zc n m, leB_xc x n m, trivial⟩)
  have hnu := w_pnumber b L hL e (i2 + 1) false 1 1000000000000 _ K (by rw [List.getElem?_append_left (by rw [List.length_set]; exact hb)]; simp [hb]) hok3
  rw [hn, List.set_append_left _ _ (by rw [List.length_set]; exact hb), List.set_set] at hnu
  unfold sPer at ht
  have hcp := c_per (o.getD 0) x
  have hl3 := gHl B b L e
  have c0 := gC0 B b L e
  have c1 := gC1 B b L e
  have t1 := gT1 B b L e
  have hdx : (x.c.map V.t).drop 6 = [] := List.drop_of_length_le (by simp [hlx])
  have hle3 := fun (j : Nat) (q : Bool) (l l' : List Bx) (n m : Nat) (h1 : B.length ≤ n) (h2 : K.length ≤ m) => Ps.app' (l := l) (l' := l') (hok.set (leB_pX L e j q) b n m (by rw [List.length_set]; exact h1) h2)
  have hp1 := fun v => c_per v x
  cases o with
  | none =>
   simp only [Option.isSome_none, Bool.false_eq_true, if_false, Option.getD_none] at hnu h
   (try simp -implicitDefEqProofs [gb'])
   refine callKf ht ?_
   (try simp -implicitDefEqProofs [c1, hlx, htx])
   all_goals (repeat' with_reducible apply And.intro)
   all_goals
    refine callKf hnu ?_
    (try simp -implicitDefEqProofs [c1, t1, hlx, htx, hdx])
    refine ⟨⟨d, perX 0 x, i2 + 1, true⟩, h, Nat.lt_succ_self d, ⟨(hle3 _ _ _ _ _ _ (by omega) (Nat.le_refl _)).2 ⟨⟨LeL_refl _, rfl⟩, ?_, trivial⟩, LeNs.refl _⟩, by omega⟩
    rw [hp1]
    exact leB_node _ _ _ _ _ _ _ _
  | some v =>
   simp only [Option.isSome_some, if_true, Option.getD_some] at hnu h
   (try simp -implicitDefEqProofs [gb'])
   refine callKf ht ?_
   (try simp -implicitDefEqProofs [c1, hlx, htx])
   all_goals (repeat' with_reducible apply And.intro)
   all_goals
    refine callKf hnu ?_
    (try simp -implicitDefEqProofs [c1, t1, hlx, htx, hdx])
    refine ⟨⟨d, perX v x, i2 + 1 + 1, false⟩, h, Nat.lt_succ_self d, ⟨(hle3 _ _ _ _ _ _ (by omega) (Nat.le_refl _)).2 ⟨⟨LeL_refl _, rfl⟩, ?_, trivial⟩, LeNs.refl _⟩, by omega⟩
    rw [hp1]
    exact leB_node _ _ _ _ _ _ _ _
 | op d _ _ o y i3 bd3 _ _ _ h1 h2 h3 h =>
  have hlt := drop_hd (L := L) (i := i2) (fun q => by
   rw [q] at h2
   unfold opT at h2
   split at h2 <;> simp [sOr, sAnd] at h2)
  have hil := hL.len
  have hok2 : Ps.Ok (B1 ++ [.cells [vI 0, vI 0, vI 0, vI 0, vS [], .snil], .cells (x.c.map V.t)]) K := hok1.more _ (fun n m => ⟨leB_zc n m, leB_xc x n m, trivial⟩)
  have hf := w_find b L e i2 false k _ K (gb _) hok2
  rw [findR_opT, pk_hd, h2] at hf
  simp only [opV] at hf
  generalize hT : hdT (L.drop i2) = tx at *
  have e3 : IntKind.i64.wrap ((i2 : Int) + 1) = (i2 : Int) + 1 := wrap64 (by omega) (by omega)
  have hB1s : B1.set b (.cells [Tok.l L, vI e, vI ((i2 : Int) + 1), vB false]) = B.set b (pX L e (i2 + 1) false) := by
   rw [← hB1, List.set_set]; unfold pX; push_cast; rfl
  have hl3 := gHl B b L e
  have hb3 := gHb hb L e
  have hrec := h3 (B.set b (pX L e (i2 + 1) false) ++ [.cells [vI 0, vI 0, vI 0, vI 0, vS [], .snil], .cells (x.c.map V.t), .cells [vS tx, vI o, vI k]]) K (by rw [List.getElem?_append_left (hb3 _ _)]; simp [hb])
   ((hok.set (leB_pX _ _ _ _) b).more _ (fun n m => ⟨leB_zc n m, leB_xc x n m, leB_op tx o k n m, trivial⟩))
  rw [List.set_append_left _ _ (hb3 _ _), List.set_set] at hrec
  have c1 := gC1 B b L e
  have c2 := gC2 B b L e
  have t1 := gT1 B b L e
  have hdx : (x.c.map V.t).drop 6 = [] := List.drop_of_length_le (by simp [hlx])
  have hly := len_c y
  have hty := take_c y
  have e4 : IntKind.i64.wrap ((k : Int) + 1) = (k : Int) + 1 := by rw [e1]; push_cast; rfl
  have hkc : ((k + 1 : Nat) : Int) = (k : Int) + 1 := by push_cast; rfl
  rw [hkc] at hrec
  have hle3 := fun (j : Nat) (q : Bool) (l l' : List Bx) (n m : Nat) (h1 : B.length ≤ n) (h2 : K.length ≤ m) => Ps.app' (l := l) (l' := l') (hok.set (leB_pX L e j q) b n m (by rw [List.length_set]; exact h1) h2)
  have hp1 := c_two o x y
  have key : ∀ R : List Bx, R = [Bx.cells [vI 0, vI 0, vI 0, vI 0, vS [], .snil], .cells [vI o, vI 0, vI 0, vI 0, vS [], .full [x.c, y.c]], .cells [vS tx, vI o, vI k]] → ∃ z' : BX, Lp b L e k z'.d z'.x z'.i z'.bd x' i' bd' ∧ z'.d < d + 1 ∧ (LeBs (B.length + 2) K.length (B.set b (pX L e i3 bd3) ++ R) (B.set b (pX L e z'.i z'.bd) ++ [.cells [vI 0, vI 0, vI 0, vI 0, vS [], .snil], .cells (z'.x.c.map V.t)]) ∧ LeNs K K) ∧ b < B.length + 2 := by
   rintro R rfl
   refine ⟨⟨d, two o x y, i3, bd3⟩, h, Nat.lt_succ_self d, ⟨(hle3 _ _ _ _ _ _ (by omega) (Nat.le_refl _)).2 ⟨⟨LeL_refl _, rfl⟩, ?_, trivial⟩, LeNs.refl _⟩, by omega⟩
   rw [hp1]
   exact leB_node _ _ _ _ _ _ _ _
  by_cases h6 : k = 6
  ·have hs : hdT (L.drop i2) ≠ sPer := fun q => h1 ⟨h6, by rw [← hT]; exact q⟩
   have ht := w_take0 b L e i2 false sPer hs _ K (gb _) hok2
   unfold sPer at ht
   subst h6
   (try simp -implicitDefEqProofs [gb'])
   refine callKf ht ?_
   (try simp -implicitDefEqProofs)
   refine callKf hf ?_
   (try simp -implicitDefEqProofs [gb', a0, a1, a2, sb, e3, e4, hB1s, c1, c2, hl1, hlx, htx])
   all_goals (repeat' with_reducible apply And.intro)
   all_goals
    refine callKf hrec ?_
    (try simp -implicitDefEqProofs [c1, c2, t1, hl1, hlx, htx, hly, hty, hdx])
    exact key _ rfl
  ·have h6' : ((k : Int) == 6) = false := by simp; omega
   (try simp -implicitDefEqProofs [gb', h6, h6'])
   refine callKf hf ?_
   (try simp -implicitDefEqProofs [gb', a0, a1, a2, sb, e3, e4, hB1s, c1, c2, hl1, hlx, htx])
   all_goals (repeat' with_reducible apply And.intro)
   all_goals
    refine callKf hrec ?_
    (try simp -implicitDefEqProofs [c1, c2, t1, hl1, hlx, htx, hly, hty, hdx])
    exact key _ rfl
theorem levC (b : Nat) (L : List Tok) (hL : TokL L) (e : Int) (hprm : ∀ n, (∀ m, m < n → LevC b L e m) → PrmC b L e n) : ∀ n, LevC b L e n := by
 intro n
 induction n using Nat.strongRecOn with
 | ind n ih =>
 intro k i res h hi
 obtain _ | n := n
 ·cases h
 have hbin := binC b L hL e n (fun m hm => ih m (by omega))
 have hpr := hprm n (fun m hm => ih m (by omega))
 have ihn := ih n (Nat.lt_succ_self n)
 clear ih hprm
 have hil := hL.len
 refine RdS.of ?_
 -- what all ways share
 have fin : ∀ (f : Nat) (vs : List V), RdS f vs b L e i res → (∀ y i' bd, LvS f vs b L e i y i' bd → LvS 139 [.ptr b 0, vI k] b L e i y i' bd) → ∃ y i' bd, i ≤ i' ∧ i' ≤ L.length ∧ LvS 139 [.ptr b 0, vI k] b L e i y i' bd ∧ ((bd = false ∧ res = .ok y (L.drop i')) ∨ (bd = true ∧ res = .er (L.drop i'))) := by
  intro f vs hr hw
  obtain ⟨y, i', bd, p1, p2, p3, p4⟩ := hr.any
  exact ⟨y, i', bd, p1, p2, hw y i' bd p3, p4⟩
 by_cases c1 : k ≤ 1
 ·have h1 := hbin 1 i res (.inl rfl) (by rw [par, if_pos c1] at h; exact h) hi
  refine fin _ _ h1 fun y i' bd hlv B K hbx hok => ?_
  have hb : b < B.length := (List.getElem?_eq_some_iff.1 hbx).1
  have gb := gBx hbx
  have hl3 := gHl B b L e
  have hb3 := gHb hb L e
  have gb3 := gB3 hb L e
  have s3 := gS3 hb L e
  have s4 := gS4 hb
  have ok3 := gOk hok b L e
  have hzc : ∀ n m, LeBs n m [zc] [zc] := fun n m => ⟨leB_zc n m, trivial⟩
  have c0 := gC0 B b L e
  have t0 := gT0 B b L e
  have hdr := gDr hok b L e
  have hdB := fun (l : List Bx) => Ps.drop' l (hok _ _ (Nat.le_refl _) (Nat.le_refl _))
  have gb' := gb
  unfold pX at gb'
  have hly := len_c y
  have hty := take_c y
  have hdy : (y.c.map V.t).drop 6 = [] := List.drop_of_length_le (by simp [hly])
  have hc := hlv (B ++ [zc]) K (gb _) (hok.more _ hzc)
  rw [s4] at hc
  unfold zc at hc
  have hm : max (k : Int) 1 = 1 := by omega
  have hk2 : decide ((k : Int) ≤ 2) = true := by simp; omega
  have hk2' : (k : Int) ≤ 2 := by omega
  (refine FnS.of_codeW mix Tryz.call139 kw_139 (by simp) (fun hB => ?_); (try simp at hB); (try simp -implicitDefEqProofs [qw_139]))
  (try simp -implicitDefEqProofs [gb', hk2, hk2', hm])
  refine callKf hc ?_
  (try simp -implicitDefEqProofs [c0, t0, hly, hty, hdy, hl3, hdr, LeNs.refl])
 rw [par, if_neg c1] at h
 by_cases c2 : k = 2
 ·subst c2
  rw [if_pos (by simp)] at h
  have h1 := hbin 2 i res (by simp) h hi
  refine fin _ _ h1 fun y i' bd hlv B K hbx hok => ?_
  have hb : b < B.length := (List.getElem?_eq_some_iff.1 hbx).1
  have gb := gBx hbx
  have hl3 := gHl B b L e
  have hb3 := gHb hb L e
  have gb3 := gB3 hb L e
  have s3 := gS3 hb L e
  have s4 := gS4 hb
  have ok3 := gOk hok b L e
  have hzc : ∀ n m, LeBs n m [zc] [zc] := fun n m => ⟨leB_zc n m, trivial⟩
  have c0 := gC0 B b L e
  have t0 := gT0 B b L e
  have hdr := gDr hok b L e
  have hdB := fun (l : List Bx) => Ps.drop' l (hok _ _ (Nat.le_refl _) (Nat.le_refl _))
  have gb' := gb
  unfold pX at gb'
  have hly := len_c y
  have hty := take_c y
  have hdy : (y.c.map V.t).drop 6 = [] := List.drop_of_length_le (by simp [hly])
  have hc := hlv (B ++ [zc]) K (gb _) (hok.more _ hzc)
  rw [s4] at hc
  unfold zc at hc
  (refine FnS.of_codeW mix Tryz.call139 kw_139 (by simp) (fun hB => ?_); (try simp at hB); (try simp -implicitDefEqProofs [qw_139]))
  (try simp -implicitDefEqProofs [gb'])
  refine callKf hc ?_
  (try simp -implicitDefEqProofs [c0, t0, hly, hty, hdy, hl3, hdr, LeNs.refl])
 by_cases c5 : k = 5
 ·subst c5
  rw [if_pos (by simp)] at h
  have h1 := hbin 5 i res (by simp) h hi
  refine fin _ _ h1 fun y i' bd hlv B K hbx hok => ?_
  have hb : b < B.length := (List.getElem?_eq_some_iff.1 hbx).1
  have gb := gBx hbx
  have hl3 := gHl B b L e
  have hb3 := gHb hb L e
  have gb3 := gB3 hb L e
  have s3 := gS3 hb L e
  have s4 := gS4 hb
  have ok3 := gOk hok b L e
  have hzc : ∀ n m, LeBs n m [zc] [zc] := fun n m => ⟨leB_zc n m, trivial⟩
  have c0 := gC0 B b L e
  have t0 := gT0 B b L e
  have hdr := gDr hok b L e
  have hdB := fun (l : List Bx) => Ps.drop' l (hok _ _ (Nat.le_refl _) (Nat.le_refl _))
  have gb' := gb
  unfold pX at gb'
  have hly := len_c y
  have hty := take_c y
  have hdy : (y.c.map V.t).drop 6 = [] := List.drop_of_length_le (by simp [hly])
  have hc := hlv (B ++ [zc]) K (gb _) (hok.more _ hzc)
  rw [s4] at hc
  unfold zc at hc
  (refine FnS.of_codeW mix Tryz.call139 kw_139 (by simp) (fun hB => ?_); (try simp at hB); (try simp -implicitDefEqProofs [qw_139]))
  (try simp -implicitDefEqProofs [gb'])
  refine callKf hc ?_
  (try simp -implicitDefEqProofs [c0, t0, hly, hty, hdy, hl3, hdr, LeNs.refl])
 by_cases c6 : k = 6
 ·subst c6
  rw [if_pos (by simp)] at h
  have h1 := hbin 6 i res (by simp) h hi
  refine fin _ _ h1 fun y i' bd hlv B K hbx hok => ?_
  have hb : b < B.length := (List.getElem?_eq_some_iff.1 hbx).1
  have gb := gBx hbx
  have hl3 := gHl B b L e
  have hb3 := gHb hb L e
  have gb3 := gB3 hb L e
  have s3 := gS3 hb L e
  have s4 := gS4 hb
  have ok3 := gOk hok b L e
  have hzc : ∀ n m, LeBs n m [zc] [zc] := fun n m => ⟨leB_zc n m, trivial⟩
  have c0 := gC0 B b L e
  have t0 := gT0 B b L e
  have hdr := gDr hok b L e
  have hdB := fun (l : List Bx) => Ps.drop' l (hok _ _ (Nat.le_refl _) (Nat.le_refl _))
  have gb' := gb
  unfold pX at gb'
  have hly := len_c y
  have hty := take_c y
  have hdy : (y.c.map V.t).drop 6 = [] := List.drop_of_length_le (by simp [hly])
  have hc := hlv (B ++ [zc]) K (gb _) (hok.more _ hzc)
  rw [s4] at hc
  unfold zc at hc
  (refine FnS.of_codeW mix Tryz.call139 kw_139 (by simp) (fun hB => ?_); (try simp at hB); (try simp -implicitDefEqProofs [qw_139]))
  (try simp -implicitDefEqProofs [gb'])
  refine callKf hc ?_
  (try simp -implicitDefEqProofs [c0, t0, hly, hty, hdy, hl3, hdr, LeNs.refl])
 rw [if_neg (by omega)] at h
 by_cases c3 : k = 3
 ·subst c3
  rw [if_pos rfl] at h
  by_cases hT : hdT (L.drop i) = sNot
  ·rw [if_pos hT, List.tail_drop] at h
   have hlt := drop_hd (L := L) (i := i) (by rw [hT]; decide)
   cases hq : par n (.lev 3) (L.drop (i + 1)) with
   | none => rw [hq] at h; cases h
   | some q =>
    rw [hq] at h
    obtain ⟨y, i2, bd2, r1, r2, r3, r4⟩ := (ihn 3 (i + 1) q hq (by omega)).any
    refine ⟨one 6 y, i2, bd2, by omega, r2, ?_, by rcases r4 with ⟨rfl, rfl⟩ | ⟨rfl, rfl⟩ <;> cases h <;> simp⟩
    intro B K hbx hok
    have hb : b < B.length := (List.getElem?_eq_some_iff.1 hbx).1
    have gb := gBx hbx
    have hl3 := gHl B b L e
    have hb3 := gHb hb L e
    have gb3 := gB3 hb L e
    have s3 := gS3 hb L e
    have s4 := gS4 hb
    have ok3 := gOk hok b L e
    have hzc : ∀ n m, LeBs n m [zc] [zc] := fun n m => ⟨leB_zc n m, trivial⟩
    have c0 := gC0 B b L e
    have t0 := gT0 B b L e
    have hdr := gDr hok b L e
    have hdB := fun (l : List Bx) => Ps.drop' l (hok _ _ (Nat.le_refl _) (Nat.le_refl _))
    have gb' := gb
    unfold pX at gb'
    have hly := len_c y
    have hty := take_c y
    have hdy : (y.c.map V.t).drop 6 = [] := List.drop_of_length_le (by simp [hly])
    have ht := w_take1 b L hil e i false sNot hT (by decide) (B ++ [zc]) K (gb _) (hok.more _ hzc)
    rw [s4] at ht
    have hc := r3 (B.set b (pX L e (i + 1) false) ++ [zc]) K (gb3 _ _ _) ((ok3 _ _).more _ hzc)
    rw [s3] at hc
    unfold zc at hc ht
    unfold sNot at ht
    have hcy := c_one 6 y
    (refine FnS.of_codeW mix Tryz.call139 kw_139 (by simp) (fun hB => ?_); (try simp at hB); (try simp -implicitDefEqProofs [qw_139]))
    (try simp -implicitDefEqProofs [gb'])
    refine callKf ht ?_
    (try simp -implicitDefEqProofs)
    refine callKf hc ?_
    (try simp -implicitDefEqProofs [c0, t0, hly, hty, hdy, hl3, hdr, LeNs.refl, hcy])
  ·rw [if_neg hT] at h
   have h1 := ihn 4 i res h hi
   refine fin _ _ h1 fun y i' bd hlv B K hbx hok => ?_
   have hb : b < B.length := (List.getElem?_eq_some_iff.1 hbx).1
   have gb := gBx hbx
   have hl3 := gHl B b L e
   have hb3 := gHb hb L e
   have gb3 := gB3 hb L e
   have s3 := gS3 hb L e
   have s4 := gS4 hb
   have ok3 := gOk hok b L e
   have hzc : ∀ n m, LeBs n m [zc] [zc] := fun n m => ⟨leB_zc n m, trivial⟩
   have c0 := gC0 B b L e
   have t0 := gT0 B b L e
   have hdr := gDr hok b L e
   have hdB := fun (l : List Bx) => Ps.drop' l (hok _ _ (Nat.le_refl _) (Nat.le_refl _))
   have gb' := gb
   unfold pX at gb'
   have hly := len_c y
   have hty := take_c y
   have hdy : (y.c.map V.t).drop 6 = [] := List.drop_of_length_le (by simp [hly])
   have ht := w_take0 b L e i false sNot hT (B ++ [zc]) K (gb _) (hok.more _ hzc)
   have hc := hlv (B ++ [zc]) K (gb _) (hok.more _ hzc)
   rw [s4] at hc
   unfold zc at hc ht
   unfold sNot at ht
   (refine FnS.of_codeW mix Tryz.call139 kw_139 (by simp) (fun hB => ?_); (try simp at hB); (try simp -implicitDefEqProofs [qw_139]))
   (try simp -implicitDefEqProofs [gb'])
   refine callKf ht ?_
   (try simp -implicitDefEqProofs)
   refine callKf hc ?_
   (try simp -implicitDefEqProofs [c0, t0, hly, hty, hdy, hl3, hdr, LeNs.refl])
 rw [if_neg c3] at h
 by_cases c4 : k = 4
 ·subst c4
  rw [if_pos rfl] at h
  cases hq : par n (.lev 5) (L.drop i) with
  | none => rw [hq] at h; cases h
  | some q =>
   rw [hq] at h
   obtain ⟨x, i1, bd1, r1, r2, r3, r4⟩ := (ihn 5 i q hq hi).any
   by_cases hno : bd1 = true ∨ opT 4 (hdT (L.drop i1)) = none
   ·have hfr : findR opsL (4 : Int) (pk L i1 bd1) = (([], 0, 0), false) := by
     have h4 := findR_opT 4 (pk L i1 bd1)
     rcases hno with rfl | hno
     ·exact h4
     ·cases bd1
      ·rw [pk_hd, hno] at h4; exact h4
      ·exact h4
    refine ⟨x, i1, bd1, r1, r2, ?_, ?_⟩
    ·intro B K hbx hok
     have hb : b < B.length := (List.getElem?_eq_some_iff.1 hbx).1
     have gb := gBx hbx
     have hl3 := gHl B b L e
     have hb3 := gHb hb L e
     have gb3 := gB3 hb L e
     have s3 := gS3 hb L e
     have s4 := gS4 hb
     have ok3 := gOk hok b L e
     have hzc : ∀ n m, LeBs n m [zc] [zc] := fun n m => ⟨leB_zc n m, trivial⟩
     have c0 := gC0 B b L e
     have c1' : ∀ j q l, (B.set b (pX L e j q) ++ l)[B.length + 1]? = l[1]? := fun j q l => by have := Ps.at1 (B.set b (pX L e j q)) l; rwa [hl3] at this
     have c2' : ∀ j q l, (B.set b (pX L e j q) ++ l)[B.length + 2]? = l[2]? := fun j q l => by have := Ps.at2 (B.set b (pX L e j q)) l; rwa [hl3] at this
     have t0 := gT0 B b L e
     have hdr := gDr hok b L e
     have hdB := fun (l : List Bx) => Ps.drop' l (hok _ _ (Nat.le_refl _) (Nat.le_refl _))
     have gb' := gb
     unfold pX at gb'
     have hlx := len_c x
     have htx := take_c x
     have hdx : (x.c.map V.t).drop 6 = [] := List.drop_of_length_le (by simp [hlx])
     have hc := r3 (B ++ [zc]) K (gb _) (hok.more _ hzc)
     rw [s4] at hc
     have hf := w_find b L e i1 bd1 4 (B.set b (pX L e i1 bd1) ++ [zc, .cells (x.c.map V.t)]) K (gb3 _ _ _) ((ok3 _ _).more _ (fun n m => ⟨leB_zc n m, leB_xc x n m, trivial⟩))
     rw [hfr] at hf
     simp only [opV] at hf
     unfold zc at hc hf
     (refine FnS.of_codeW mix Tryz.call139 kw_139 (by simp) (fun hB => ?_); (try simp at hB); (try simp -implicitDefEqProofs [qw_139]))
     (try simp -implicitDefEqProofs [gb'])
     refine callKf hc ?_
     (try simp -implicitDefEqProofs [hlx, htx])
     refine callKf hf ?_
     (try simp -implicitDefEqProofs [c0, c1', t0, hlx, htx, hdx, hl3, hdr, LeNs.refl])
    ·rcases r4 with ⟨rfl, rfl⟩ | ⟨rfl, rfl⟩
     ·simp only [bndO] at h
      rw [hno.resolve_left (by decide)] at h
      cases h
      exact .inl ⟨rfl, rfl⟩
     ·cases h
      exact .inr ⟨rfl, rfl⟩
   ·have hb1 : bd1 = false := by cases bd1; rfl; exact absurd (.inl rfl) hno
    subst hb1
    have hq2 : q = .ok x (L.drop i1) := by
     rcases r4 with ⟨_, r4⟩ | ⟨r4, _⟩
     ·exact r4
     ·cases r4
    subst hq2
    cases ho : opT 4 (hdT (L.drop i1)) with
    | none => exact absurd (.inr ho) hno
    | some o =>
     simp only [bndO, ho, List.tail_drop] at h
     have hlt := drop_hd (L := L) (i := i1) (fun q => by
      rw [q] at ho
      unfold opT at ho
      simp at ho)
     cases hq3 : par n (.lev 5) (L.drop (i1 + 1)) with
     | none => rw [hq3] at h; cases h
     | some q3 =>
      rw [hq3] at h
      obtain ⟨y, i2, bd2, v1, v2, v3, v4⟩ := (ihn 5 (i1 + 1) q3 hq3 (by omega)).any
      have hfr : findR opsL (4 : Int) (pk L i1 false) = ((hdT (L.drop i1), o, 4), true) := by
       have h4 := findR_opT 4 (pk L i1 false)
       rw [pk_hd, ho] at h4
       exact h4
      refine ⟨two o x y, i2, bd2, by omega, v2, ?_, by rcases v4 with ⟨rfl, rfl⟩ | ⟨rfl, rfl⟩ <;> cases h <;> simp⟩
      generalize hdT (L.drop i1) = tx at *
      intro B K hbx hok
      have hb : b < B.length := (List.getElem?_eq_some_iff.1 hbx).1
      have gb := gBx hbx
      have hl3 := gHl B b L e
      have hb3 := gHb hb L e
      have gb3 := gB3 hb L e
      have s3 := gS3 hb L e
      have s4 := gS4 hb
      have ok3 := gOk hok b L e
      have hzc : ∀ n m, LeBs n m [zc] [zc] := fun n m => ⟨leB_zc n m, trivial⟩
      have c0 := gC0 B b L e
      have c1' : ∀ j q l, (B.set b (pX L e j q) ++ l)[B.length + 1]? = l[1]? := fun j q l => by have := Ps.at1 (B.set b (pX L e j q)) l; rwa [hl3] at this
      have c2' : ∀ j q l, (B.set b (pX L e j q) ++ l)[B.length + 2]? = l[2]? := fun j q l => by have := Ps.at2 (B.set b (pX L e j q)) l; rwa [hl3] at this
      have t0 := gT0 B b L e
      have hdr := gDr hok b L e
      have hdB := fun (l : List Bx) => Ps.drop' l (hok _ _ (Nat.le_refl _) (Nat.le_refl _))
      have gb' := gb
      unfold pX at gb'
      have hlx := len_c x
      have htx := take_c x
      have hdx : (x.c.map V.t).drop 6 = [] := List.drop_of_length_le (by simp [hlx])
      have hly := len_c y
      have hty := take_c y
      have hdy : (y.c.map V.t).drop 6 = [] := List.drop_of_length_le (by simp [hly])
      have hc := r3 (B ++ [zc]) K (gb _) (hok.more _ hzc)
      rw [s4] at hc
      have hf := w_find b L e i1 false 4 (B.set b (pX L e i1 false) ++ [zc, .cells (x.c.map V.t)]) K (gb3 _ _ _) ((ok3 _ _).more _ (fun n m => ⟨leB_zc n m, leB_xc x n m, trivial⟩))
      rw [hfr] at hf
      simp only [opV] at hf
      have hrec := v3 (B.set b (pX L e (i1 + 1) false) ++ [zc, .cells (x.c.map V.t), .cells [vS tx, vI o, vI 4]]) K (gb3 _ _ _) ((ok3 _ _).more _ (fun n m => ⟨leB_zc n m, leB_xc x n m, leB_op tx o 4 n m, trivial⟩))
      rw [s3] at hrec
      have e3 : IntKind.i64.wrap ((i1 : Int) + 1) = (i1 : Int) + 1 := wrap64 (by omega) (by omega)
      have gb1 := gb3 i1 false
      have hB1s : ∀ l, (B.set b (pX L e i1 false) ++ l).set b (.cells [Tok.l L, vI e, vI ((i1 : Int) + 1), vB false]) = B.set b (pX L e (i1 + 1) false) ++ l := fun l => by
       rw [s3]; unfold pX; push_cast; rfl
      unfold zc at hc hf hrec
      have hcy := c_two o x y
      conv at gb1 => intro l; rhs; unfold pX
      (refine FnS.of_codeW mix Tryz.call139 kw_139 (by simp) (fun hB => ?_); (try simp at hB); (try simp -implicitDefEqProofs [qw_139]))
      (try simp -implicitDefEqProofs [gb'])
      refine callKf hc ?_
      (try simp -implicitDefEqProofs [hlx, htx])
      refine callKf hf ?_
      (try simp -implicitDefEqProofs [gb1, hB1s, e3, c0, c1', c2', t0, hlx, htx, hdx, hl3])
      all_goals (repeat' with_reducible apply And.intro)
      all_goals
       refine callKf hrec ?_
       (try simp -implicitDefEqProofs [c0, c1', c2', t0, hlx, htx, hdx, hly, hty, hdy, hl3, hdr, LeNs.refl, hcy])
 rw [if_neg c4] at h
 by_cases c7 : k = 7 ∧ hdT (L.drop i) = [45]
 ·obtain ⟨rfl, hT⟩ := c7
  rw [if_pos ⟨rfl, hT⟩, List.tail_drop] at h
  have hlt := drop_hd (L := L) (i := i) (by rw [hT]; decide)
  cases hq : par n (.lev 7) (L.drop (i + 1)) with
  | none => rw [hq] at h; cases h
  | some q =>
   rw [hq] at h
   obtain ⟨y, i2, bd2, r1, r2, r3, r4⟩ := (ihn 7 (i + 1) q hq (by omega)).any
   refine ⟨one 3 y, i2, bd2, by omega, r2, ?_, by rcases r4 with ⟨rfl, rfl⟩ | ⟨rfl, rfl⟩ <;> cases h <;> simp⟩
   intro B K hbx hok
   have hb : b < B.length := (List.getElem?_eq_some_iff.1 hbx).1
   have gb := gBx hbx
   have hl3 := gHl B b L e
   have hb3 := gHb hb L e
   have gb3 := gB3 hb L e
   have s3 := gS3 hb L e
   have s4 := gS4 hb
   have ok3 := gOk hok b L e
   have hzc : ∀ n m, LeBs n m [zc] [zc] := fun n m => ⟨leB_zc n m, trivial⟩
   have c0 := gC0 B b L e
   have c1' : ∀ j q l, (B.set b (pX L e j q) ++ l)[B.length + 1]? = l[1]? := fun j q l => by have := Ps.at1 (B.set b (pX L e j q)) l; rwa [hl3] at this
   have c2' : ∀ j q l, (B.set b (pX L e j q) ++ l)[B.length + 2]? = l[2]? := fun j q l => by have := Ps.at2 (B.set b (pX L e j q)) l; rwa [hl3] at this
   have t0 := gT0 B b L e
   have hdr := gDr hok b L e
   have hdB := fun (l : List Bx) => Ps.drop' l (hok _ _ (Nat.le_refl _) (Nat.le_refl _))
   have gb' := gb
   unfold pX at gb'
   have hly := len_c y
   have hty := take_c y
   have hdy : (y.c.map V.t).drop 6 = [] := List.drop_of_length_le (by simp [hly])
   have ht := w_take1 b L hil e i false [45] hT (by decide) (B ++ [zc]) K (gb _) (hok.more _ hzc)
   rw [s4] at ht
   have hc := r3 (B.set b (pX L e (i + 1) false) ++ [zc]) K (gb3 _ _ _) ((ok3 _ _).more _ hzc)
   rw [s3] at hc
   unfold zc at hc ht
   have hcy := c_one 3 y
   (refine FnS.of_codeW mix Tryz.call139 kw_139 (by simp) (fun hB => ?_); (try simp at hB); (try simp -implicitDefEqProofs [qw_139]))
   (try simp -implicitDefEqProofs [gb'])
   refine callKf ht ?_
   (try simp -implicitDefEqProofs)
   refine callKf hc ?_
   (try simp -implicitDefEqProofs [c0, t0, hly, hty, hdy, hl3, hdr, LeNs.refl, hcy])
 rw [if_neg c7] at h
 refine fin _ _ (hpr i res h hi) fun y i' bd hlv B K hbx hok => ?_
 have hb : b < B.length := (List.getElem?_eq_some_iff.1 hbx).1
 have gb := gBx hbx
 have hl3 := gHl B b L e
 have hb3 := gHb hb L e
 have gb3 := gB3 hb L e
 have s3 := gS3 hb L e
 have s4 := gS4 hb
 have ok3 := gOk hok b L e
 have hzc : ∀ n m, LeBs n m [zc] [zc] := fun n m => ⟨leB_zc n m, trivial⟩
 have c0 := gC0 B b L e
 have c1' : ∀ j q l, (B.set b (pX L e j q) ++ l)[B.length + 1]? = l[1]? := fun j q l => by have := Ps.at1 (B.set b (pX L e j q)) l; rwa [hl3] at this
 have c2' : ∀ j q l, (B.set b (pX L e j q) ++ l)[B.length + 2]? = l[2]? := fun j q l => by have := Ps.at2 (B.set b (pX L e j q)) l; rwa [hl3] at this
 have t0 := gT0 B b L e
 have hdr := gDr hok b L e
 have hdB := fun (l : List Bx) => Ps.drop' l (hok _ _ (Nat.le_refl _) (Nat.le_refl _))
 have gb' := gb
 unfold pX at gb'
 have hly := len_c y
 have hty := take_c y
 have hdy : (y.c.map V.t).drop 6 = [] := List.drop_of_length_le (by simp [hly])
 have hc := hlv (B ++ [zc]) K (gb _) (hok.more _ hzc)
 rw [s4] at hc
 unfold zc at hc
 by_cases k7 : k = 7
 ·subst k7
  have hT : pk L i false ≠ [45] := fun q => c7 ⟨rfl, q⟩
  have ht := w_take0 b L e i false [45] hT (B ++ [zc]) K (gb _) (hok.more _ hzc)
  unfold zc at ht
  (refine FnS.of_codeW mix Tryz.call139 kw_139 (by simp) (fun hB => ?_); (try simp at hB); (try simp -implicitDefEqProofs [qw_139]))
  (try simp -implicitDefEqProofs [gb'])
  refine callKf ht ?_
  (try simp -implicitDefEqProofs)
  refine callKf hc ?_
  (try simp -implicitDefEqProofs [c0, t0, hly, hty, hdy, hl3, hdr, LeNs.refl])
 ·have d2 : decide ((k : Int) ≤ 2) = false := by simp; omega
  have d2' : ¬ (k : Int) ≤ 2 := by omega
  have d3 : ((k : Int) == 3) = false := by simp; omega
  have d4 : ((k : Int) == 4) = false := by simp; omega
  have d6 : decide ((k : Int) ≤ 6) = false := by simp; omega
  have d6' : ¬ (k : Int) ≤ 6 := by omega
  have d7 : ((k : Int) == 7) = false := by simp; omega
  (refine FnS.of_codeW mix Tryz.call139 kw_139 (by simp) (fun hB => ?_); (try simp at hB); (try simp -implicitDefEqProofs [qw_139]))
  (try simp -implicitDefEqProofs [gb', d2, d2', d3, d4, d6, d6', d7])
  refine callKf hc ?_
  (try simp -implicitDefEqProofs [c0, t0, hly, hty, hdy, hl3, hdr, LeNs.refl])
end Go.Proofs.YtpggidmbnjfmaaaGreatDoor
