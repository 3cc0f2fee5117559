/- The engine, part 18: the rules by which simp evaluates. -/
import Derived.Test.YthfnaaeddlnckaaEng17
set_option linter.unusedSimpArgs false
set_option linter.unusedVariables false
namespace Go.Proofs.Ythfnaaeddlnckaa
namespace E

attribute [simp] opK estepK thenK blockK boxK loadK storeK faddrK fldK iaSK iaAK ixAK ixSK binK intB strB eqvK unK cvIK cvSK extK nilcK lenSK lenLK srcK appK loI opv putF cellsV cellB isAggV okV toT toTs esOf ldv splice fillV eqC
attribute [simp] FinK leS Weak rvV rvVs packV leC.refl leA.refl leV.refl okN okNs okNs_map era eras eras_map LeBs leB LeNs LeF LeL St0


/-! What comes next, as a constant that simp does not look into. -/
def nxt (P : Program) (dr : Bool) (es : List EO) (Q : Fr → St → Prop) (a : Fr) (d : Option Nat) (v : V) (S : St) : Prop := ewpOps P dr es Q (putF a d v) S
def gdK (v : V) (w : Bool) (P : Program) (dr : Bool) (d : Option Nat) (k : EK) (xs : List Opd) (es : List EO) (Q : Fr → St → Prop) (a : Fr) (S : St) : Prop :=
  match v with
  | .t (.bool b) => if b = w then opK P dr k (xs.map (opv a)) S (nxt P dr es Q a d) else nxt P dr es Q a d .und S
  | .und => nxt P dr es Q a d .und S
  | _ => False
def cdK (v : V) (P : Program) (nb nt : Nat) (x y : EC) (Q : Ex → Fr → St → Prop) (a : Fr) (S : St) : Prop := condK v (ewp P nb nt x Q a S) (ewp P nb nt y Q a S)

section
variable {P : Program} {dr : Bool} {d : Option Nat} {k : EK} {xs : List Opd} {es : List EO} {Q : Fr → St → Prop} {a : Fr} {S : St}
@[simp] theorem nxt_apply {v : V} : nxt P dr es Q a d v S = ewpOps P dr es Q (putF a d v) S := rfl
@[simp] theorem ewpOps_nil : ewpOps P dr [] Q a S = Q a S := rfl
@[simp] theorem ewpOps_none : ewpOps P dr (⟨d, none, k, xs⟩ :: es) Q a S = opK P dr k (xs.map (opv a)) S (nxt P dr es Q a d) := rfl
@[simp] theorem ewpOps_some {t : Nat} {w : Bool} : ewpOps P dr (⟨d, some (t, w), k, xs⟩ :: es) Q a S = gdK (a t) w P dr d k xs es Q a S := rfl
@[simp] theorem gdK_tt : gdK (.t (.bool true)) true P dr d k xs es Q a S = opK P dr k (xs.map (opv a)) S (nxt P dr es Q a d) := by simp [gdK]
@[simp] theorem gdK_ff : gdK (.t (.bool false)) false P dr d k xs es Q a S = opK P dr k (xs.map (opv a)) S (nxt P dr es Q a d) := by simp [gdK]
@[simp] theorem gdK_tf : gdK (.t (.bool true)) false P dr d k xs es Q a S = ewpOps P dr es Q (putF a d .und) S := by simp [gdK]
@[simp] theorem gdK_ft : gdK (.t (.bool false)) true P dr d k xs es Q a S = ewpOps P dr es Q (putF a d .und) S := by simp [gdK]
@[simp] theorem gdK_und {w : Bool} : gdK .und w P dr d k xs es Q a S = ewpOps P dr es Q (putF a d .und) S := rfl
end
section
variable {P : Program} {nb nt : Nat} {x y : EC} {Q : Ex → Fr → St → Prop} {a : Fr} {S : St}
@[simp] theorem ewp_cd (c : Opd) : ewp P nb nt (.cd c x y) Q a S = cdK (opv a c) P nb nt x y Q a S := rfl
@[simp] theorem cdK_true : cdK (.t (.bool true)) P nb nt x y Q a S = ewp P nb nt x Q a S := by simp [cdK, condK]
@[simp] theorem cdK_false : cdK (.t (.bool false)) P nb nt x y Q a S = ewp P nb nt y Q a S := by simp [cdK, condK]
end
@[simp] theorem pickK_true {a b : V} {S : St} {K : V → St → Prop} : pickK (.t (.bool true)) a b S K = K a S := by simp [pickK]
@[simp] theorem pickK_false {a b : V} {S : St} {K : V → St → Prop} : pickK (.t (.bool false)) a b S K = K b S := by simp [pickK]

def consO (x : Option (List T)) (y : Option (List (List T))) : Option (List (List T)) :=
  match x, y with
  | some x, some y => some (x :: y)
  | _, _ => none
@[simp] theorem consO_some (x : List T) (y : List (List T)) : consO (some x) (some y) = some (x :: y) := rfl
def toCells : List V → Option (List (List T))
  | [] => some []
  | v :: vs => consO (toTs (cellsV v)) (toCells vs)
attribute [simp] toCells
theorem toCells_eq (vs : List V) : vs.mapM (fun v => toTs (cellsV v)) = toCells vs := by
  induction vs with
  | nil => rfl
  | cons v vs ih =>
    rw [List.mapM_cons, ih, toCells]
    cases h : toTs (cellsV v) with
    | none => rfl
    | some x => cases h2 : toCells vs with
      | none => rfl
      | some y => rfl
def bslR (sz : Nat) (es : Option (List (List T))) (S : St) (K : V → St → Prop) : Prop :=
  match es with
  | some es => (es.all fun e => e.length == sz) = true ∧ K (.full es) S
  | none => False
@[simp] theorem bslR_some {sz : Nat} {es : List (List T)} {S : St} {K : V → St → Prop} : bslR sz (some es) S K = ((es.all fun e => e.length == sz) = true ∧ K (.full es) S) := rfl
@[simp] theorem bslK_eq {sz : Nat} {vs : List V} {S : St} {K : V → St → Prop} : bslK sz vs S K = bslR sz (toCells vs) S K := by
  rw [bslK, toCells_eq]
  cases h : toCells vs with
  | none => rfl
  | some es => simp [bslR]

section
variable {P : Program} {nb nt : Nat} {Q : Ex → Fr → St → Prop} {a : Fr} {S : St}
@[simp] theorem ewp_skip : ewp P nb nt .skip Q a S = Q .nx a S := rfl
@[simp] theorem ewp_rg (ops : List EO) (dr : Bool) : ewp P nb nt (.rg ops dr) Q a S = ewpOps P dr ops (Q .nx) a S := rfl
@[simp] theorem ewp_sq (x y : EC) : ewp P nb nt (.sq x y) Q a S = ewp P nb nt x (thenK (ewp P nb nt y Q) Q) a S := rfl
@[simp] theorem ewp_bk (id : Nat) (x : EC) : ewp P nb nt (.bk id x) Q a S = ewp P nb nt x (blockK id Q) a S := rfl
@[simp] theorem ewp_ex (id : Nat) : ewp P nb nt (.ex id) Q a S = Q (.ex id) a S := rfl
@[simp] theorem ewp_rt : ewp P nb nt .rt Q a S = Q .rt a S := rfl

theorem callK_pure {dr : Bool} {f : Nat} {vs : List V} {K : V → St → Prop} {r : V} (h : Pure P f (eras vs) r) (k : K r S) : callK P dr f vs S K := ⟨r, S, h.call S, fun _ => rfl, k⟩
theorem callK_fn {dr : Bool} {f : Nat} {vs : List V} {K : V → St → Prop} {r : V} {S' : St} (h : FnS P f vs S r S') (hd : dr = true → S' = S) (k : K r S') : callK P dr f vs S K := ⟨r, S', h, hd, k⟩
end

@[simp] theorem upd_get (a : Fr) (d : Nat) (v : V) (i : Nat) : upd a d v i = if i = d then v else a i := rfl
@[simp] theorem fr0_get (vs : List V) (i : Nat) : fr0 vs i = vs.getD i .und := rfl
@[simp] theorem ofL_cons (k : Nat) (v : V) (F : List (Nat × V)) (i : Nat) : ofL ((k, v) :: F) i = if i = k then v else ofL F i := by
  unfold ofL
  simp only [List.find?_cons]
  by_cases h : i = k
  · subst h; simp
  · have : (k == i) = false := by simpa using fun e => h e.symm
    simp [this, h]
@[simp] theorem ofL_nil (i : Nat) : ofL [] i = .junk := rfl

@[simp] theorem headD_drop {α : Type} (l : List α) (n : Nat) (d : α) : (l.drop n).headD d = l.getD n d := by
  simp [List.getD_eq_getElem?_getD, List.headD_eq_head?_getD, List.head?_drop]
@[simp] theorem map_t_length (l : List T) : (l.map V.t).length = l.length := by simp

theorem leC_t (x : T) : leC (.t x) (.t x) := .inl rfl
theorem leC_sl_own (k : Nat) (e : TypeId) (z : Nat) (es : List (List T)) : leC (.own k e z es) (.t (.sl es)) := .inr (.inr ⟨_, rfl, rfl⟩)
theorem leC_sl_full (es : List (List T)) : leC (.full es) (.t (.sl es)) := .inr (.inr ⟨_, rfl, rfl⟩)
theorem leC_sl_nil : leC .snil (.t (.sl [])) := .inr (.inr ⟨_, rfl, rfl⟩)
@[simp] theorem leA_own (k : Nat) (e : TypeId) (z : Nat) (es : List (List T)) : leA (.own k e z es) (.t (.sl es)) := .inl (leC_sl_own ..)
@[simp] theorem leA_full (es : List (List T)) : leA (.full es) (.t (.sl es)) := .inl (leC_sl_full ..)
@[simp] theorem leA_snil : leA .snil (.t (.sl [])) := .inl leC_sl_nil
@[simp] theorem leV_own (k : Nat) (e : TypeId) (z : Nat) (es : List (List T)) : leV (.own k e z es) (.t (.sl es)) := .inl (leA_own ..)
@[simp] theorem leV_full (es : List (List T)) : leV (.full es) (.t (.sl es)) := .inl (leA_full ..)
@[simp] theorem leV_snil : leV .snil (.t (.sl [])) := .inl leA_snil
attribute [simp] leC_sl_own leC_sl_full leC_sl_nil
@[simp] theorem leA_junk (v : V) : leA v .junk := .inl (.inr (.inl rfl))
@[simp] theorem leC_junk (v : V) : leC v .junk := .inr (.inl rfl)
theorem leV_agg {cs cs' : List V} (h : LeL leC cs cs') : leV (.agg cs) (.agg cs') := .inl (.inr ⟨_, _, rfl, rfl, h⟩)
theorem leA_agg {cs cs' : List V} (h : LeL leC cs cs') : leA (.agg cs) (.agg cs') := .inr ⟨_, _, rfl, rfl, h⟩
theorem leV_tup {cs cs' : List V} (h : LeL leA cs cs') : leV (.tup cs) (.tup cs') := .inr ⟨_, _, rfl, rfl, h⟩
@[simp] theorem LeL_refl (l : List V) : LeL leC l l := by
  induction l with
  | nil => trivial
  | cons x l ih => exact ⟨.inl rfl, ih⟩
@[simp] theorem LeL_reflA (l : List V) : LeL leA l l := by
  induction l with
  | nil => trivial
  | cons x l ih => exact ⟨leA.refl x, ih⟩
@[simp] theorem leB_refl_t (nb nt : Nat) (l : List T) : leB nb nt (.cells (l.map V.t)) (.cells (l.map V.t)) := ⟨LeL_refl _, okNs_map _ _ _⟩

@[simp] theorem leC_tt (x y : T) : leC (.t x) (.t y) ↔ y = x := by
  constructor
  · rintro (h | h | ⟨t, ht, h⟩)
    · simpa using h
    · cases h
    · simp at ht h; rw [h, ht]
  · rintro rfl; exact .inl rfl
@[simp] theorem leA_tt (x y : T) : leA (.t x) (.t y) ↔ y = x := by
  constructor
  · rintro (h | ⟨cs, cs', h, _⟩)
    · exact (leC_tt x y).1 h
    · cases h
  · rintro rfl; exact leA.refl _
@[simp] theorem leV_tt (x y : T) : leV (.t x) (.t y) ↔ y = x := by
  constructor
  · rintro (h | ⟨cs, cs', h, _⟩)
    · exact (leA_tt x y).1 h
    · cases h
  · rintro rfl; exact leV.refl _
@[simp] theorem leA_aa (x y : List V) : leA (.agg x) (.agg y) ↔ LeL leC x y := by
  constructor
  · rintro ((h | h | ⟨t, ht, h⟩) | ⟨cs, cs', h, h', hl⟩)
    · simp at h; subst h; exact LeL_refl _
    · cases h
    · cases h
    · cases h; cases h'; exact hl
  · exact leA_agg
@[simp] theorem leV_aa (x y : List V) : leV (.agg x) (.agg y) ↔ LeL leC x y := by
  constructor
  · rintro (h | ⟨cs, cs', h, _⟩)
    · exact (leA_aa x y).1 h
    · cases h
  · exact leV_agg
@[simp] theorem leV_uu (x y : List V) : leV (.tup x) (.tup y) ↔ LeL leA x y := by
  constructor
  · rintro (((h | h | ⟨t, ht, h⟩) | ⟨cs, cs', h, _⟩) | ⟨cs, cs', h, h', hl⟩)
    · simp at h; subst h; exact LeL_reflA _
    · cases h
    · cases h
    · cases h
    · cases h; cases h'; exact hl
  · exact leV_tup

/-- The end of a function that leaves the state as it is. -/
theorem fin_of {rvs : List RV} {nb nt : Nat} {r : V} {S' : St} {e : Ex} {a : Fr} {S1 : St} (he : ∀ id, e ≠ .ex id) (h1 : nb ≤ S'.boxes.length ∧ nt ≤ S'.toks.length) (h2 : leS S1 S') {vs : List V} (hv : rvVs a S1 rvs = some vs) (hl : leV (packV vs) r) (ho : okN S'.boxes.length S'.toks.length r = true) :
    FinK rvs nb nt r S' e a S1 := by
  refine ⟨by cases e <;> simp_all, h1, h2, ?_⟩
  rw [hv]
  exact ⟨hl, ho⟩

/-- The end of a pure function. -/
theorem fin0 {rvs : List RV} {r : V} {e : Ex} {a : Fr} {S1 : St} (he : ∀ id, e ≠ .ex id) {vs : List V} (hv : rvVs a S1 rvs = some vs) (hl : leV (packV vs) r) (ho : okN 0 0 r = true) : FinK rvs 0 0 r St0 e a S1 :=
  fin_of he ⟨Nat.le_refl _, Nat.le_refl _⟩ ⟨by cases S1.boxes <;> trivial, by cases S1.toks <;> trivial⟩ hv hl ho

/-- The loop rule, with the state given piece by piece. -/
theorem loop_rule {P : Program} {nb nt : Nat} {x : EC} {Q : Ex → Fr → St → Prop} {a : Fr} {S : St} {X : Type} (I : X → Prop) (F : X → List (Nat × V)) (B : X → St) (μ : X → Nat) (x0 : X) (h0 : I x0) (hw : Weak nb nt a S (F x0) (B x0))
    (h : ∀ z, I z → Bounded (ofL (F z)) → ewp P nb nt x (thenK (fun a' S' => ∃ z', I z' ∧ μ z' < μ z ∧ Weak nb nt a' S' (F z') (B z')) Q) (ofL (F z)) (B z)) : ewp P nb nt (.lp x) Q a S :=
  ⟨X, I, F, B, μ, x0, h0, hw, h⟩

/-- Cases, without a look at the goal. -/
theorem by_em (p : Prop) {G : Prop} (h1 : p → G) (h2 : ¬ p → G) : G := (Classical.em p).elim h1 h2

/-- Arithmetic within the range of an int. -/
theorem wrap64 {x : Int} (h1 : -9223372036854775808 ≤ x) (h2 : x ≤ 9223372036854775807) : IntKind.i64.wrap x = x := IntWalk.i64_in _ ⟨h1, h2⟩

end E
end Go.Proofs.Ythfnaaeddlnckaa
