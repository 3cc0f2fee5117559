/- The engine, part 16: forgetting; the code of a function; its soundness. -/
import Derived.Test.YthfnaaeddlnckaaEng15
import Derived.Deep.LoopGhost
set_option linter.unusedSimpArgs false
set_option linter.unusedVariables false
namespace Go.Proofs.Ythfnaaeddlnckaa
namespace E

/-! ### forgetting -/
def LeL (R : V → V → Prop) : List V → List V → Prop
  | [], [] => True
  | x :: xs, y :: ys => R x y ∧ LeL R xs ys
  | _, _ => False
def leC (v v' : V) : Prop := v' = v ∨ v' = .junk ∨ ∃ t, toT v = some t ∧ v' = .t t
def leA (v v' : V) : Prop := leC v v' ∨ ∃ cs cs', v = .agg cs ∧ v' = .agg cs' ∧ LeL leC cs cs'
def leV (v v' : V) : Prop := leA v v' ∨ ∃ cs cs', v = .tup cs ∧ v' = .tup cs' ∧ LeL leA cs cs'

theorem leC.refl (v : V) : leC v v := .inl rfl
theorem leA.refl (v : V) : leA v v := .inl (.inl rfl)
theorem leV.refl (v : V) : leV v v := .inl (.inl (.inl rfl))

theorem LeL.get {R : V → V → Prop} : ∀ {xs ys : List V}, LeL R xs ys → xs.length = ys.length ∧ ∀ j, j < xs.length → R (xs.getD j .junk) (ys.getD j .junk)
  | [], [], _ => by simp
  | x :: xs, y :: ys, h => by
    have ih := LeL.get h.2
    refine ⟨by simp [ih.1], fun j hj => ?_⟩
    cases j with
    | zero => simpa using h.1
    | succ j => simpa using ih.2 j (by simpa using hj)
  | [], _ :: _, h => h.elim
  | _ :: _, [], h => h.elim

theorem leC_rel {g : Gh} {tk : List Nat} {v v' : V} {u : Value} (h : RelV g tk v u) (hl : leC v v') : RelV g tk v' u := by
  rcases hl with rfl | rfl | ⟨t, ht, rfl⟩
  · exact h
  · exact .junk _
  · exact .t _ _ (toT_rel h ht)

theorem leA_rel {g : Gh} {tk : List Nat} {v v' : V} {u : Value} (h : RelV g tk v u) (hl : leA v v') : RelV g tk v' u := by
  rcases hl with hl | ⟨cs, cs', rfl, rfl, hL⟩
  · exact leC_rel h hl
  · obtain ⟨h1, h2⟩ := hL.get
    cases h with
    | agg _ vs hl hr => exact .agg _ _ (by omega) (fun j hj => leC_rel (hr j (by omega)) (h2 j (by omega)))

theorem leV_rel {g : Gh} {tk : List Nat} {v v' : V} {u : Value} (h : RelV g tk v u) (hl : leV v v') : RelV g tk v' u := by
  rcases hl with hl | ⟨cs, cs', rfl, rfl, hL⟩
  · exact leA_rel h hl
  · obtain ⟨h1, h2⟩ := hL.get
    cases h with
    | tup _ vs hl hr => exact .tup _ _ (by omega) (fun j hj => leA_rel (hr j (by omega)) (h2 j (by omega)))

mutual
/-- Names only the first nb boxes and nt tokens. -/
def okN (nb nt : Nat) : V → Bool
  | .t _ | .und | .junk | .snil | .full _ | .tp _ _ => true
  | .own k _ _ _ => k < nt
  | .ptr b _ | .mp b | .vw b _ _ => b < nb
  | .fn _ caps => okNs nb nt caps
  | .agg cs => okNs nb nt cs
  | .tup cs => okNs nb nt cs
def okNs (nb nt : Nat) : List V → Bool
  | [] => true
  | v :: vs => okN nb nt v && okNs nb nt vs
end

theorem okNs_get {nb nt : Nat} : ∀ {vs : List V}, okNs nb nt vs = true → ∀ j, j < vs.length → okN nb nt (vs.getD j .junk) = true
  | [], _, j, hj => by simp at hj
  | v :: vs, h, j, hj => by
    simp only [okNs, Bool.and_eq_true] at h
    cases j with
    | zero => simpa using h.1
    | succ j => simpa using okNs_get h.2 j (by simpa using hj)

theorem okNs_map (nb nt : Nat) (l : List T) : okNs nb nt (l.map V.t) = true := by
  induction l with
  | nil => rfl
  | cons x l ih => simp [okNs, okN, ih]

def trunc (g : Gh) (nb nt : Nat) : Gh := { g with β := g.β.take nb, τ := g.τ.take nt }

theorem RelV.trunc {g : Gh} {tk : List Nat} {nb nt : Nat} {v : V} {u : Value} (h : RelV g tk v u) (ho : okN nb nt v = true) : RelV (trunc g nb nt) (tk.take nt) v u := by
  have hb : ∀ {b blk : Nat}, g.β[b]? = some blk → b < nb → (E.trunc g nb nt).β[b]? = some blk := fun h1 h2 => by simp [E.trunc, h2, h1]
  induction h with
  | t x v h => exact .t x v h
  | und => exact .und
  | junk v => exact .junk v
  | snil => exact .snil
  | full es a h => exact .full es a h
  | own k e z es v n h hz hn hle hg =>
    have hk : k < nt := by simpa [okN] using ho
    refine .own k e z es v n h hz (by simp [hk, hn]) hle fun he => ?_
    have := hg he
    simpa [OwnGood, E.trunc, hk] using this
  | ptr b o blk h => exact .ptr b o blk (hb h (by simpa [okN] using ho))
  | tp e o blk off c hI hr => exact .tp e o blk off c hI hr
  | fn f caps vs hl hr ih => exact .fn f caps vs hl (fun j hj => ih j hj (okNs_get (by simpa [okN] using ho) j hj))
  | agg cs vs hl hr ih => exact .agg cs vs hl (fun j hj => ih j hj (okNs_get (by simpa [okN] using ho) j hj))
  | tup cs vs hl hr ih => exact .tup cs vs hl (fun j hj => ih j hj (okNs_get (by simpa [okN] using ho) j hj))
  | mp b blk h => exact .mp b blk (hb h (by simpa [okN] using ho))
  | vw b o n blk cap h hc hm => exact .vw b o n blk cap (hb h (by simpa [okN] using ho)) hc hm

def leB (nb nt : Nat) : Bx → Bx → Prop
  | _, .dead => True
  | .cells cs, .cells cs' => LeL leC cs cs' ∧ okNs nb nt cs' = true
  | .mp es, .mp es' => es' = es ∧ okNs nb nt (es.map (·.2)) = true
  | _, _ => False

def LeBs (nb nt : Nat) : List Bx → List Bx → Prop
  | _, [] => True
  | b :: bs, c :: cs => leB nb nt b c ∧ LeBs nb nt bs cs
  | [], _ :: _ => False

def LeNs : List Nat → List Nat → Prop
  | _, [] => True
  | b :: bs, c :: cs => b = c ∧ LeNs bs cs
  | [], _ :: _ => False

/-- The state S' says less than S: fewer boxes and tokens, cells forgotten. -/
def leS (S S' : St) : Prop := LeBs S'.boxes.length S'.toks.length S.boxes S'.boxes ∧ LeNs S.toks S'.toks

theorem LeBs.get {nb nt : Nat} : ∀ {bs cs : List Bx}, LeBs nb nt bs cs → cs.length ≤ bs.length ∧ ∀ (i : Nat) (bx : Bx), cs[i]? = some bx → ∃ b, bs[i]? = some b ∧ leB nb nt b bx
  | bs, [], _ => by simp
  | b :: bs, c :: cs, h => by
    have ih := LeBs.get h.2
    refine ⟨by simp [ih.1], fun i bx hi => ?_⟩
    cases i with
    | zero => simp at hi; subst hi; exact ⟨b, rfl, h.1⟩
    | succ i => simpa using ih.2 i bx (by simpa using hi)
  | [], _ :: _, h => h.elim

theorem LeNs.eq : ∀ {bs cs : List Nat}, LeNs bs cs → cs.length ≤ bs.length ∧ cs = bs.take cs.length
  | bs, [], _ => by simp
  | b :: bs, c :: cs, h => by
    have ih := LeNs.eq h.2
    exact ⟨by simp [ih.1], by simp [h.1, ← ih.2]⟩
  | [], _ :: _, h => h.elim

theorem Inv.weak {g : Gh} {S S' : St} {w : World} (h : Inv g S w) (hs : leS S S') : Inv (trunc g S'.boxes.length S'.toks.length) S' w := by
  obtain ⟨hb, ht⟩ := hs
  obtain ⟨b1, b2⟩ := hb.get
  obtain ⟨t1, t2⟩ := ht.eq
  have hβ : ∀ {i blk : Nat}, (trunc g S'.boxes.length S'.toks.length).β[i]? = some blk → g.β[i]? = some blk ∧ i < S'.boxes.length := by
    intro i blk hi
    simp only [trunc, List.getElem?_take] at hi
    split at hi
    · exact ⟨hi, by assumption⟩
    · cases hi
  have hτ : ∀ {k : Nat} {x : Option (Nat × TypeId × Nat × Nat)}, (trunc g S'.boxes.length S'.toks.length).τ[k]? = some x → g.τ[k]? = some x ∧ k < S'.toks.length := by
    intro k x hk
    simp only [trunc, List.getElem?_take] at hk
    split at hk
    · exact ⟨hk, by assumption⟩
    · cases hk
  have htk : ∀ {k n : Nat}, S'.toks[k]? = some n → S.toks[k]? = some n := by
    intro k n hk
    rw [t2, List.getElem?_take] at hk
    split at hk
    · exact hk
    · cases hk
  refine ⟨h.imm, ?_, ?_, ?_, ?_, ?_, ?_, ?_, ?_, ?_, h.lo, fun i blk hi => h.bold i blk (hβ hi).1⟩
  · simp [trunc, h.len]; omega
  · exact h.nodup.sublist (List.take_sublist _ _)
  · intro i blk bx hi hbx
    obtain ⟨bx0, h1, h2⟩ := b2 i bx hbx
    have h3 := h.box i blk bx0 (hβ hi).1 h1
    cases bx with
    | dead => trivial
    | cells cs' =>
      cases bx0 with
      | cells cs =>
        obtain ⟨vs, ty, e1, e2, e3⟩ := h3
        obtain ⟨l1, l2⟩ := h2
        obtain ⟨m1, m2⟩ := l1.get
        refine ⟨vs, ty, e1, by omega, fun j hj => ?_⟩
        have := (leC_rel (e3 j (by omega)) (m2 j (by omega))).trunc (okNs_get l2 j hj)
        rw [← t2] at this
        exact this
      | dead => exact h2.elim
      | mp es => exact h2.elim
    | mp es' =>
      cases bx0 with
      | mp es =>
        obtain ⟨rfl, l2⟩ := h2
        obtain ⟨ms, cl, e1, e2, e3, e4, e5⟩ := h3
        refine ⟨ms, cl, e1, e2, fun j hj => ?_, e4, e5⟩
        obtain ⟨m, a, b, c, d⟩ := e3 j hj
        refine ⟨m, a, b, ?_, d⟩
        have hok := okNs_get l2 j (by simpa using hj)
        have e6 : (es'.map (·.2)).getD j .junk = (es'.getD j (.nilp, .junk)).2 := by simp [List.getD_eq_getElem?_getD, hj]
        rw [e6] at hok
        have := c.trunc hok
        rw [← t2] at this
        exact this
      | dead => exact h2.elim
      | cells cs => exact h2.elim
  · intro i blk bx hi hbx hd o
    obtain ⟨bx0, h1, h2⟩ := b2 i bx hbx
    refine h.sep i blk bx0 (hβ hi).1 h1 ?_ o
    rintro rfl
    cases bx <;> first | exact hd rfl | exact h2.elim
  · exact fun i blk hi => h.bwr i blk (hβ hi).1
  · simp [trunc, h.tlen]; omega
  · intro k n blk e z cap hk hn
    obtain ⟨h1, h2, h3, h4⟩ := h.tok k n blk e z cap (hτ hk).1 (htk hn)
    exact ⟨h1, h2, fun hm => h3 (List.mem_of_mem_take hm), h4⟩
  · exact fun k n hk hn => h.tnil k n (hτ hk).1 (htk hn)
  · exact fun k l x y hk hl hxy => h.tdis k l x y (hτ hk).1 (hτ hl).1 hxy

/-- A frame given by the slots that matter. -/
def ofL (F : List (Nat × V)) : Fr := fun i => match F.find? (fun p => p.1 == i) with | some p => p.2 | none => .junk

/-- Each slot that matters holds what is said, up to forgetting. -/
def LeF (nb nt : Nat) (a : Fr) : List (Nat × V) → Prop
  | [] => True
  | (i, v) :: F => (leA (a i) v ∧ okN nb nt v = true) ∧ LeF nb nt a F

theorem LeF.get {nb nt : Nat} {a : Fr} : ∀ {F : List (Nat × V)}, LeF nb nt a F → ∀ i, leA (a i) (ofL F i) ∧ okN nb nt (ofL F i) = true
  | [], _, i => ⟨.inl (.inr (.inl rfl)), rfl⟩
  | (k, v) :: F, h, i => by
    unfold ofL
    simp only [List.find?_cons]
    by_cases hk : k = i
    · subst hk
      simp only [beq_self_eq_true]
      exact h.1
    · have : (k == i) = false := by simpa using hk
      simp only [this]
      exact LeF.get h.2 i

/-- The state at a loop's head. -/
def Weak (nb nt : Nat) (a : Fr) (S : St) (F : List (Nat × V)) (S' : St) : Prop :=
  (nb ≤ S'.boxes.length ∧ nt ≤ S'.toks.length) ∧ leS S S' ∧ LeF S'.boxes.length S'.toks.length a F

theorem Conc.weak {N nb nt : Nat} {g : Gh} {a : Fr} {S : St} {act : Act} {w : World} {F : List (Nat × V)} {S' : St} (hC : Conc N g a S act w) (h : Weak nb nt a S F S') :
    Conc N (trunc g S'.boxes.length S'.toks.length) (ofL F) S' act w ∧ Mv0 nb nt g S w (trunc g S'.boxes.length S'.toks.length) S' w := by
  obtain ⟨⟨h1, h2⟩, hs, hF⟩ := h
  obtain ⟨t1, t2⟩ := hs.2.eq
  refine ⟨⟨hC.inv.weak hs, hC.defers, hC.size, fun i => ?_⟩, ⟨fun _ _ _ h => h, fun i x hi hx => ?_, fun k n hk hn => ⟨n, ?_, Nat.le_refl _, fun _ => ?_⟩, rfl, rfl, fun _ _ _ h => .inl h, Frm.refl _ _, h1, h2⟩⟩
  · obtain ⟨a1, a2⟩ := hF.get i
    have := (leA_rel (hC.rel i) a1).trunc a2
    rw [← t2] at this
    exact this
  · simp only [trunc, List.getElem?_take]
    rw [if_pos (by omega)]
    exact hx
  · rw [t2, List.getElem?_take, if_pos (by omega)]
    exact hn
  · simp only [trunc, List.getElem?_take]
    rw [if_pos (by omega)]

/-! ### code -/
inductive Ex where
  | nx
  | ex (id : Nat)
  | rt

inductive EC where
  | skip
  | rg (ops : List EO) (dr : Bool)
  | sq (x y : EC)
  | cd (c : Opd) (x y : EC)
  | bk (id : Nat) (x : EC)
  | lp (x : EC)
  | ex (id : Nat)
  | rt

def eopsOf (P : Program) (ops : Array Oper) : List Oper → Option (List EO)
  | [] => some []
  | o :: os => match eopOf P ops o, eopsOf P ops os with
    | some e, some es => some (e :: es)
    | _, _ => none

def dstOk (N : Nat) (o : Oper) : Bool := match o.dst with | some d => d < N | none => true

def ecOf (P : Program) (N : Nat) : Code → Option EC
  | .skip => some .skip
  | .region _ ops draw => match eopsOf P ops ops.toList with
    | some es => if ops.toList.all (dstOk N) && (!draw || lexE ops es ops.size 0 (Array.replicate ops.size false)) then some (.rg es draw) else none
    | none => none
  | .seq a b => match ecOf P N a, ecOf P N b with
    | some x, some y => some (.sq x y)
    | _, _ => none
  | .cond c a b => match opd c, ecOf P N a, ecOf P N b with
    | some d, some x, some y => some (.cd d x y)
    | _, _, _ => none
  | .block id b => match ecOf P N b with
    | some x => some (.bk id x)
    | none => none
  | .loop b => match ecOf P N b with
    | some x => some (.lp x)
    | none => none
  | .exit id => some (.ex id)
  | .ret => some .rt
  | _ => none

def condK (v : V) (X Y : Prop) : Prop :=
  match v with
  | .t (.bool b) => if b = true then X else Y
  | _ => False

/-- Every slice in a slot has a length that is an int. -/
def Bounded (a : Fr) : Prop := ∀ i es, esOf (a i) = some es → es.length ≤ maxLen

def thenK (next : Fr → St → Prop) (Q : Ex → Fr → St → Prop) : Ex → Fr → St → Prop
  | .nx, a, S => next a S
  | e, a, S => Q e a S
def blockK (id : Nat) (Q : Ex → Fr → St → Prop) : Ex → Fr → St → Prop
  | .ex j, a, S => if j = id then Q .nx a S else Q (.ex j) a S
  | e, a, S => Q e a S

def ewp (P : Program) (nb nt : Nat) : EC → (Ex → Fr → St → Prop) → Fr → St → Prop
  | .skip, Q, a, S => Q .nx a S
  | .rg ops dr, Q, a, S => ewpOps P dr ops (Q .nx) a S
  | .sq x y, Q, a, S => ewp P nb nt x (thenK (ewp P nb nt y Q) Q) a S
  | .cd c x y, Q, a, S => condK (opv a c) (ewp P nb nt x Q a S) (ewp P nb nt y Q a S)
  | .bk id x, Q, a, S => ewp P nb nt x (blockK id Q) a S
  | .lp x, Q, a, S => ∃ (X : Type) (I : X → Prop) (F : X → List (Nat × V)) (B : X → St) (μ : X → Nat) (x0 : X), I x0 ∧ Weak nb nt a S (F x0) (B x0) ∧
      ∀ z, I z → Bounded (ofL (F z)) → ewp P nb nt x (thenK (fun a' S' => ∃ z', I z' ∧ μ z' < μ z ∧ Weak nb nt a' S' (F z') (B z')) Q) (ofL (F z)) (B z)
  | .ex id, Q, a, S => Q (.ex id) a S
  | .rt, Q, a, S => Q .rt a S

def exitOf : Ex → Exit
  | .nx => .normal
  | .ex id => .exit id
  | .rt => .ret

def After (N nb nt : Nat) (g : Gh) (S : St) (w : World) (Q : Ex → Fr → St → Prop) (e : Exit) (act' : Act) (w' : World) : Prop :=
  ∃ x a' S' g', exitOf x = e ∧ Q x a' S' ∧ Conc N g' a' S' act' w' ∧ Mv0 nb nt g S w g' S' w'

theorem After.trans {N nb nt : Nat} {g : Gh} {S : St} {w : World} {g1 : Gh} {S1 : St} {w1 : World} {Q : Ex → Fr → St → Prop} {e : Exit} {act' : Act} {w' : World} (h : Mv0 nb nt g S w g1 S1 w1) (k : After N nb nt g1 S1 w1 Q e act' w') : After N nb nt g S w Q e act' w' := by
  obtain ⟨x, a', S', g', h1, h2, h3, h4⟩ := k
  exact ⟨x, a', S', g', h1, h2, h3, h.trans h4⟩

theorem eopsOf_spec {P : Program} {ops : Array Oper} : ∀ {os : List Oper} {es : List EO}, eopsOf P ops os = some es → es.length = os.length ∧ ∀ (j : Nat) (o : Oper), os[j]? = some o → ∃ e, es[j]? = some e ∧ eopOf P ops o = some e
  | [], es, h => by simp [eopsOf] at h; subst h; simp
  | o :: os, es, h => by
    simp only [eopsOf] at h
    split at h
    · rename_i e es' he hes
      simp only [Option.some.injEq] at h
      subst h
      have ih := eopsOf_spec hes
      refine ⟨by simp [ih.1], fun j o' hj => ?_⟩
      cases j with
      | zero => simp at hj; subst hj; exact ⟨e, rfl, he⟩
      | succ j => simpa using ih.2 j o' (by simpa using hj)
    · cases h

theorem Conc.bounded {N : Nat} {g : Gh} {a : Fr} {S : St} {act : Act} {w : World} (hC : Conc N g a S act w) : Bounded a := by
  intro i es hi
  have hrel := esOf_rel (hC.rel i) hi
  generalize act.tmps.getD i undef = u at hrel
  cases hrel with
  | slnil => simp [maxLen]
  | sl _ b off cap z c' hz hcc hm hcell hr => omega

theorem ewp_sound {P : Program} (hmix : P.follows .mixedOrders = true) {N nb nt : Nat} : ∀ (code : Code) (c : EC), ecOf P N code = some c → ∀ {Q : Ex → Fr → St → Prop} {g : Gh} {a : Fr} {S : St} {act : Act} {w : World},
    Conc N g a S act w → nb ≤ S.boxes.length → nt ≤ S.toks.length → ewp P nb nt c Q a S → code.wp P (After N nb nt g S w Q) act w := by
  intro code
  induction code with
  | skip =>
    intro c hc Q g a S act w hC hb ht h
    simp [ecOf] at hc; subst hc
    exact wp_skip ⟨.nx, a, S, g, rfl, h, hC, Mv0.refl hb ht⟩
  | exit id =>
    intro c hc Q g a S act w hC hb ht h
    simp [ecOf] at hc; subst hc
    exact wp_exit ⟨.ex id, a, S, g, rfl, h, hC, Mv0.refl hb ht⟩
  | ret =>
    intro c hc Q g a S act w hC hb ht h
    simp [ecOf] at hc; subst hc
    exact wp_ret ⟨.rt, a, S, g, rfl, h, hC, Mv0.refl hb ht⟩
  | region id ops draw =>
    intro c hc Q g a S act w hC hb ht h
    simp only [ecOf] at hc
    split at hc
    · rename_i es hes
      split at hc
      · rename_i hcond
        simp only [Option.some.injEq] at hc
        subst hc
        simp only [Bool.and_eq_true, Bool.or_eq_true, Bool.not_eq_true'] at hcond
        obtain ⟨hd, hlex⟩ := hcond
        obtain ⟨e1, e2⟩ := eopsOf_spec hes
        have hops : ewpOps P draw es (Q .nx) a S := h
        have hdst : ∀ (i : Nat) (o : Oper), ops[i]? = some o → ∀ k, o.dst = some k → k < N := by
          intro i o ho k hk
          have := List.all_eq_true.1 hd o (by simpa using Array.mem_of_getElem? ho)
          simpa [dstOk, hk] using this
        have hfin : ∀ act' w', Behind N nb nt g S w (Q .nx) act' w' → After N nb nt g S w Q .normal act' w' := by
          rintro act' w' ⟨a', S', g', h1, h2, h3⟩
          exact ⟨.nx, a', S', g', rfl, h1, h2, h3⟩
        cases draw with
        | false =>
          refine wp_region ?_
          rw [List.range_eq_range']
          refine ops_sound hdst ops.size 0 es (by simp) (by simpa using e1) (fun j hj => ?_) hC hb ht hops hfin
          obtain ⟨e, h1, h2⟩ := e2 j ops[j] (by simp [hj])
          exact ⟨ops[j], e, by simp [hj], h1, h2⟩
        | true =>
          have hlex' : lexE ops es ops.size 0 (Array.replicate ops.size false) = true := by simpa using hlex
          refine wp_region_any hmix ?_
          have hany := eAny_lex (P := P) (ops := ops) (es := es) es 0 (Array.replicate ops.size false) a S (by simp) (by rw [e1]; simpa using hlex') hops
          rw [e1, Array.length_toList] at hany
          refine wpAny_of_eAny (N := N) (nb := nb) (nt := nt) hdst (fun i o ho => e2 i o (by simpa using ho)) ops.size _ (w := w.drew) ⟨hC.inv.drew, hC.defers, hC.size, hC.rel⟩ hb ht hany ?_
          rintro act' w' ⟨a', S', g', h1, h2, h3⟩
          refine ⟨.nx, a', S', g', rfl, h1, h2, ((Mv.drew hC.inv).toMv0 hC.inv hb ht).trans h3⟩
      · cases hc
    · cases hc
  | seq x y ihx ihy =>
    intro c hc Q g a S act w hC hb ht h
    simp only [ecOf] at hc
    split at hc
    · rename_i cx cy hx hy
      simp only [Option.some.injEq] at hc
      subst hc
      refine wp_seq (wp_mono (ihx cx hx hC hb ht h) ?_)
      rintro e act' w' ⟨q, a', S', g', rfl, h2, h3, h4⟩
      cases q with
      | nx => exact wp_mono (ihy cy hy h3 h4.nb h4.nt h2) fun e act'' w'' h5 => After.trans h4 h5
      | ex id => exact ⟨.ex id, a', S', g', rfl, h2, h3, h4⟩
      | rt => exact ⟨.rt, a', S', g', rfl, h2, h3, h4⟩
    · cases hc
  | cond cnd x y ihx ihy =>
    intro c hc Q g a S act w hC hb ht h
    simp only [ecOf] at hc
    split at hc
    · rename_i d cx cy hd hx hy
      simp only [Option.some.injEq] at hc
      subst hc
      have hrel := opd_rel hC hd
      simp only [ewp, condK] at h
      split at h
      · rename_i b hb'
        rw [hb'] at hrel
        have hev : act.eval cnd = .bool b := by
          generalize act.eval cnd = u at hrel
          cases hrel with
          | t _ _ hh => cases hh; rfl
        refine wp_cond hev ?_
        cases b
        · simp at h ⊢; exact ihy cy hy hC hb ht h
        · simp at h ⊢; exact ihx cx hx hC hb ht h
      · exact h.elim
    · cases hc
  | block id b ih =>
    intro c hc Q g a S act w hC hb ht h
    simp only [ecOf] at hc
    split at hc
    · rename_i cb hcb
      simp only [Option.some.injEq] at hc
      subst hc
      refine wp_block (wp_mono (ih cb hcb hC hb ht h) ?_)
      rintro e act' w' ⟨q, a', S', g', rfl, h2, h3, h4⟩
      cases q with
      | nx => exact ⟨.nx, a', S', g', rfl, h2, h3, h4⟩
      | ex j =>
        simp only [blockK] at h2
        simp only [exitOf, Exit.inBlock]
        split at h2
        · rename_i hj; rw [if_pos hj]; exact ⟨.nx, a', S', g', rfl, h2, h3, h4⟩
        · rename_i hj; rw [if_neg hj]; exact ⟨.ex j, a', S', g', rfl, h2, h3, h4⟩
      | rt => exact ⟨.rt, a', S', g', rfl, h2, h3, h4⟩
    · cases hc
  | loop b ih =>
    intro c hc Q g a S act w hC hb ht h
    simp only [ecOf] at hc
    split at hc
    · rename_i cb hcb
      simp only [Option.some.injEq] at hc
      subst hc
      obtain ⟨X, I, F, B, μ, x0, hI0, hW0, hround⟩ := h
      obtain ⟨c0, m0⟩ := hC.weak hW0
      refine wp_loop_ghost (fun n act' w' => ∃ z g', μ z = n ∧ I z ∧ Conc N g' (ofL (F z)) (B z) act' w' ∧ Mv0 nb nt g S w g' (B z) w') (μ x0) ⟨x0, _, rfl, hI0, c0, m0⟩ ?_
      rintro n act' w' ⟨z, g', rfl, hIz, hCz, hmz⟩
      refine wp_mono (ih cb hcb hCz hmz.nb hmz.nt (hround z hIz hCz.bounded)) ?_
      rintro e act'' w'' ⟨q, a'', S'', g'', rfl, h2, h3, h4⟩
      cases q with
      | nx =>
        obtain ⟨z', hI', hμ, hW⟩ := h2
        obtain ⟨c1, m1⟩ := h3.weak hW
        exact ⟨μ z', hμ, z', _, rfl, hI', c1, hmz.trans (h4.trans m1)⟩
      | ex id => exact ⟨.ex id, a'', S'', g'', rfl, h2, h3, hmz.trans h4⟩
      | rt => exact ⟨.rt, a'', S'', g'', rfl, h2, h3, hmz.trans h4⟩
    · cases hc
  | rangeFunc f ps as b iha ihb => intro c hc; simp [ecOf] at hc
  | scope b ih => intro c hc; simp [ecOf] at hc
  | label l => intro c hc; simp [ecOf] at hc
  | goto l => intro c hc; simp [ecOf] at hc
  | refuse why => intro c hc; simp [ecOf] at hc

end E
end Go.Proofs.Ythfnaaeddlnckaa
