/- The engine, part 12: frames, one operation with its guard, and the operations of a region. -/
import Derived.Test.YthfnaaeddlnckaaEng11
set_option linter.unusedSimpArgs false
set_option linter.unusedVariables false
namespace Go.Proofs.Ythfnaaeddlnckaa
namespace E

abbrev Fr := Nat → V
def upd (a : Fr) (d : Nat) (v : V) : Fr := fun i => if i = d then v else a i
def putF (a : Fr) : Option Nat → V → Fr
  | none, _ => a
  | some d, v => upd a d v
def opv (a : Fr) : Opd → V
  | .tmp t => a t
  | .c v => v

/-- A call of the function goes into its body. -/
def Enters (P : Program) (f : Nat) : Prop := ∀ (args : Array Value) (w : World), (callFunc f args).run P w = .ok (.enter f args) w

/-- The contract of a function at given abstract arguments in a given abstract state: what it returns, and the state that it leaves. -/
def FnS (P : Program) (f : Nat) (vs : List V) (S : St) (r : V) (S' : St) : Prop :=
  Enters P f ∧ ∀ (g : Gh) (w : World) (us : Array Value), Inv g S w → us.size = vs.length → (∀ j, j < vs.length → RelV g S.toks (vs.getD j .und) (us.getD j undef)) →
    Calls P f us w fun e w' => ∃ u g', e = .returned u ∧ RelV g' S'.toks r u ∧ Mv g S w g' S' w'

/-- A call. In a region that draws its order (dr) it must leave the state as it is. -/
def callK (P : Program) (dr : Bool) (f : Nat) (vs : List V) (S : St) (K : V → St → Prop) : Prop := ∃ r S', FnS P f vs S r S' ∧ (dr = true → S' = S) ∧ K r S'

/-- One operation. -/
def opK (P : Program) (dr : Bool) (k : EK) (vs : List V) (S : St) (K : V → St → Prop) : Prop :=
  match k with
  | .call f => callK P dr f vs S K
  | .callv => match vs with
    | .fn (.func f) caps :: args => callK P dr f (args ++ caps) S K
    | _ => False
  | k => estepK k vs S K

def guardK (a : Fr) (g : Option (Nat × Bool)) (X Y : Prop) : Prop :=
  match g with
  | none => X
  | some (t, want) => match a t with
    | .t (.bool b) => if b = want then X else Y
    | .und => Y
    | _ => False

def eop1 (P : Program) (dr : Bool) (e : EO) (next : Fr → St → Prop) (a : Fr) (S : St) : Prop :=
  guardK a e.g (opK P dr e.k (e.xs.map (opv a)) S fun v S' => next (putF a e.d v) S') (next (putF a e.d .und) S)

def ewpOps (P : Program) (dr : Bool) : List EO → (Fr → St → Prop) → Fr → St → Prop
  | [], Q, a, S => Q a S
  | e :: es, Q, a, S => eop1 P dr e (ewpOps P dr es Q) a S

/-- The concrete frame and world that an abstract frame and state stand for. -/
structure Conc (N : Nat) (g : Gh) (a : Fr) (S : St) (act : Act) (w : World) : Prop where
  inv : Inv g S w
  defers : act.defers = []
  size : act.tmps.size = N
  rel : ∀ i, RelV g S.toks (a i) (act.tmps.getD i undef)

/-- A move that keeps the first nb boxes and the first nt tokens. -/
structure Mv0 (nb nt : Nat) (g : Gh) (S : St) (w : World) (g' : Gh) (S' : St) (w' : World) : Prop where
  I : ∀ b o c, g.I b o = some c → g'.I b o = some c
  β : ∀ (i x : Nat), i < nb → g.β[i]? = some x → g'.β[i]? = some x
  τ : ∀ (k n : Nat), k < nt → S.toks[k]? = some n → ∃ n', S'.toks[k]? = some n' ∧ n ≤ n' ∧ (n' = n → g'.τ[k]? = g.τ[k]?)
  base : g'.base = g.base
  ent : g'.ent = g.ent
  icl : ∀ b o c, g'.I b o = some c → g.I b o = some c ∨ g.base ≤ b ∨ b ∈ g.ent
  frm : Frm g w w'
  nb : nb ≤ S'.boxes.length
  nt : nt ≤ S'.toks.length

theorem Mv0.refl {nb nt : Nat} {g : Gh} {S : St} {w : World} (h1 : nb ≤ S.boxes.length) (h2 : nt ≤ S.toks.length) : Mv0 nb nt g S w g S w :=
  ⟨fun _ _ _ h => h, fun _ _ _ h => h, fun _ n _ h => ⟨n, h, Nat.le_refl _, fun _ => rfl⟩, rfl, rfl, fun _ _ _ h => .inl h, Frm.refl _ _, h1, h2⟩

theorem Mv0.trans {nb nt : Nat} {g : Gh} {S : St} {w : World} {g' : Gh} {S' : St} {w' : World} {g'' : Gh} {S'' : St} {w'' : World} (h : Mv0 nb nt g S w g' S' w') (k : Mv0 nb nt g' S' w' g'' S'' w'') : Mv0 nb nt g S w g'' S'' w'' := by
  refine ⟨fun b o c hc => k.I _ _ _ (h.I _ _ _ hc), fun i x hi hx => k.β _ _ hi (h.β _ _ hi hx), fun i n hi hn => ?_, k.base.trans h.base, k.ent.trans h.ent, fun b o c hc => ?_, h.frm.trans (Frm.of_eq h.base h.ent k.frm), k.nb, k.nt⟩
  · obtain ⟨n1, h1, h2, h3⟩ := h.τ i n hi hn
    obtain ⟨n2, k1, k2, k3⟩ := k.τ i n1 hi h1
    exact ⟨n2, k1, by omega, fun e => (k3 (by omega)).trans (h3 (by omega))⟩
  · rcases k.icl b o c hc with h1 | h1
    · exact h.icl b o c h1
    · rw [h.base, h.ent] at h1; exact .inr h1

theorem Mv.toMv0 {nb nt : Nat} {g : Gh} {S : St} {w : World} {g' : Gh} {S' : St} {w' : World} (hI : Inv g S w) (h1 : nb ≤ S.boxes.length) (h2 : nt ≤ S.toks.length) (h : Mv g S w g' S' w') : Mv0 nb nt g S w g' S' w' := by
  refine ⟨h.ext.I, fun i x _ hx => h.ext.β i x hx, fun k n _ hn => h.ext.τ k n hn, h.ext.base, h.ext.ent, h.ext.icl, h.frm, ?_, ?_⟩
  · have e1 := hI.len
    have e2 := h.inv.len
    have hle : g.β.length ≤ g'.β.length := by
      rcases Nat.eq_zero_or_pos g.β.length with h0 | h0
      · omega
      · have := h.ext.β (g.β.length - 1) g.β[g.β.length - 1] (List.getElem?_eq_getElem (by omega))
        have := (List.getElem?_eq_some_iff.1 this).1
        omega
    omega
  · rcases Nat.eq_zero_or_pos S.toks.length with h0 | h0
    · omega
    · obtain ⟨n', hn, _⟩ := h.ext.τ (S.toks.length - 1) S.toks[S.toks.length - 1] (List.getElem?_eq_getElem (by omega))
      have := (List.getElem?_eq_some_iff.1 hn).1
      omega

theorem Conc.put {N : Nat} {g : Gh} {a : Fr} {S : St} {act : Act} {w : World} (h : Conc N g a S act w) {g' : Gh} {S' : St} {w' : World} (hm : Mv g S w g' S' w') (d : Option Nat) (hd : ∀ k, d = some k → k < N) {v : V} {u : Value} (hv : RelV g' S'.toks v u) :
    Conc N g' (putF a d v) S' (act.put d u) w' := by
  refine ⟨hm.inv, ?_, ?_, fun i => ?_⟩
  · cases d <;> exact h.defers
  · cases d
    · exact h.size
    · simp [Act.put, h.size]
  · cases d with
    | none => exact (h.rel i).mono hm.ext
    | some k =>
      have hk := hd k rfl
      by_cases hik : i = k
      · subst hik
        simp only [putF, upd, if_true, Act.put]
        have : i < (act.tmps.setIfInBounds i u).size := by simp [h.size, hk]
        have : i < act.tmps.size := by rw [h.size]; exact hk
        simpa [this] using hv
      · have := (h.rel i).mono hm.ext
        simp only [putF, upd, if_neg hik, Act.put]
        simpa [Array.getElem?_setIfInBounds_ne (Ne.symm hik)] using this

theorem opd_rel {N : Nat} {g : Gh} {a : Fr} {S : St} {act : Act} {w : World} (h : Conc N g a S act w) {x : Operand} {y : Opd} (hx : opd x = some y) : RelV g S.toks (opv a y) (act.eval x) := by
  cases x with
  | tmp t => simp [opd] at hx; subst hx; simpa [opv, Act.eval] using h.rel t
  | const v =>
    simp [opd] at hx
    obtain ⟨c, hc, rfl⟩ := hx
    exact constV_rel hc
  | func f => simp [opd] at hx; subst hx; exact .fn _ _ _ rfl (fun j hj => by simp at hj)
  | global n => simp [opd] at hx

theorem opds_rel {N : Nat} {g : Gh} {a : Fr} {S : St} {act : Act} {w : World} (h : Conc N g a S act w) : ∀ {xs : List Operand} {ys : List Opd}, opds xs = some ys → RelO g S.toks act.eval xs (ys.map (opv a))
  | [], ys, hx => by simp [opds] at hx; subst hx; exact ⟨rfl, by simp⟩
  | x :: xs, ys, hx => by
    simp only [opds] at hx
    split at hx
    · rename_i y ys' hy hys
      simp only [Option.some.injEq] at hx
      subst hx
      have ih := opds_rel h hys
      refine ⟨by simp [ih.1], fun j z hz => ?_⟩
      cases j with
      | zero => simp at hz; subst hz; simpa using opd_rel h hy
      | succ j => simpa using ih.2 j z (by simpa using hz)
    · cases hx

end E
end Go.Proofs.Ythfnaaeddlnckaa
