/- The engine, part 14: the operations of a region that keeps the order of the text; calls. -/
import Derived.Test.YthfnaaeddlnckaaEng13
set_option linter.unusedSimpArgs false
set_option linter.unusedVariables false
namespace Go.Proofs.Ythfnaaeddlnckaa
namespace E
section
variable {P : Program} {N nb nt : Nat} {dr : Bool}

/-- What holds behind a move. -/
def Behind (N nb nt : Nat) (g : Gh) (S : St) (w : World) (next : Fr → St → Prop) (act' : Act) (w' : World) : Prop :=
  ∃ a' S' g', next a' S' ∧ Conc N g' a' S' act' w' ∧ Mv0 nb nt g S w g' S' w'

theorem Behind.trans {g : Gh} {S : St} {w : World} {g1 : Gh} {S1 : St} {w1 : World} {next : Fr → St → Prop} {act' : Act} {w' : World} (h : Mv0 nb nt g S w g1 S1 w1) (k : Behind N nb nt g1 S1 w1 next act' w') : Behind N nb nt g S w next act' w' := by
  obtain ⟨a', S', g', h1, h2, h3⟩ := k
  exact ⟨a', S', g', h1, h2, h.trans h3⟩

theorem isCall_kind {o : Oper} {f : Nat} {xs : List Operand} (h : kindOf P o = some (.call f, xs)) : ∃ c, o.op = .call c ∧ c.callee = .value (.func f) ∧ xs = c.args.toList := by
  unfold kindOf at h
  split at h
  all_goals try (simp only [Option.some.injEq, Prod.mk.injEq, reduceCtorEq, false_and] at h; done)
  all_goals try ((repeat' split at h) <;> simp only [Option.some.injEq, Prod.mk.injEq, reduceCtorEq, false_and, Option.map_eq_some_iff, exists_const, and_false, exists_false] at h; done)
  · rename_i c ho
    split at h
    · rename_i f' hc
      simp only [Option.some.injEq, Prod.mk.injEq, EK.call.injEq] at h
      obtain ⟨rfl, rfl⟩ := h
      exact ⟨c, ho, hc, rfl⟩
    all_goals ((repeat' split at h) <;> simp only [Option.some.injEq, Prod.mk.injEq, reduceCtorEq, false_and] at h)

theorem isCallv_kind {o : Oper} {xs : List Operand} (h : kindOf P o = some (.callv, xs)) : ∃ c x, o.op = .call c ∧ c.callee = .value x ∧ xs = x :: c.args.toList := by
  unfold kindOf at h
  split at h
  all_goals try (simp only [Option.some.injEq, Prod.mk.injEq, reduceCtorEq, false_and] at h; done)
  all_goals try ((repeat' split at h) <;> simp only [Option.some.injEq, Prod.mk.injEq, reduceCtorEq, false_and, Option.map_eq_some_iff, exists_const, and_false, exists_false] at h; done)
  · rename_i c ho
    split at h
    · simp only [Option.some.injEq, Prod.mk.injEq, reduceCtorEq, false_and] at h
    · rename_i x hx hc
      simp only [Option.some.injEq, Prod.mk.injEq, true_and] at h
      exact ⟨c, x, ho, hc, h.symm⟩
    all_goals ((repeat' split at h) <;> simp only [Option.some.injEq, Prod.mk.injEq, reduceCtorEq, false_and] at h)

/-- One operation that runs. -/
theorem op_wp {o : Oper} {k : EK} {xs : List Operand} {ys : List Opd} {g : Gh} {a : Fr} {S : St} {act : Act} {w : World} {next : V → St → Prop} {K : Act → World → Prop} {Q : Exit → Act → World → Prop}
    (hk : kindOf P o = some (k, xs)) (hxs : opds xs = some ys) (hC : Conc N g a S act w) (hop : opK P dr k (ys.map (opv a)) S next)
    (hnext : ∀ v S' g' u w', next v S' → RelV g' S'.toks v u → Mv g S w g' S' w' → K (act.put o.dst u) w') : o.wp P act w K Q := by
  have hrel := opds_rel hC hxs
  have other : estepK k (ys.map (opv a)) S next → o.wp P act w K Q := by
    intro hst
    obtain ⟨x, S', g', v, w', hrun, hn, hr, hm⟩ := sound_step hk hC.inv hrel hst
    unfold Oper.wp
    rcases hrun with hrun | ⟨hrun, rfl⟩
    · rw [hrun]; exact hnext _ _ _ _ _ hn hr hm
    · rw [hrun]; exact hnext _ _ _ _ _ hn hr hm
  have called : ∀ (f : Nat) (args : Array Value) (vs : List V) (r : V) (S' : St), (execOp act.eval o).run P w = (callFunc f args).run P w → FnS P f vs S r S' → next r S' → args.size = vs.length → (∀ j, j < vs.length → RelV g S.toks (vs.getD j .und) (args.getD j undef)) →
      o.wp P act w K Q := by
    intro f args vs r S' hrun hf hn hsz hargs
    unfold Oper.wp
    rw [hrun, hf.1 args w]
    refine (hf.2 g w args hC.inv hsz hargs).mono fun e w' he => ?_
    obtain ⟨u, g', rfl, hr, hm⟩ := he
    exact hnext _ _ _ _ _ hn hr hm
  cases k with
  | call f =>
    obtain ⟨r, S', hf, _, hn⟩ := hop
    obtain ⟨c, ho, hc, rfl⟩ := isCall_kind hk
    refine called f (c.args.map act.eval) _ r S' ?_ hf hn (by rw [hrel.1]; simp) (fun j hj => ?_)
    · simp [execOp, ho, resolve, hc, Act.eval, Deferred.ofValue, invoke]
    · have hlt : j < c.args.size := by have := hrel.1; simp at this hj ⊢; omega
      have := hrel.2 j c.args[j] (by simp [hlt])
      simpa [hlt] using this
  | callv =>
    obtain ⟨c, x, ho, hc, rfl⟩ := isCallv_kind hk
    simp only [opK] at hop
    split at hop
    · rename_i f caps args heq
      obtain ⟨r, S', hf, _, hn⟩ := hop
      have h0 := hrel.2 0 x rfl
      rw [heq] at h0 hrel
      simp only [List.getD_cons_zero] at h0
      generalize hx : act.eval x = fv at h0
      cases h0 with
      | fn _ _ cs hl hr =>
      have hal : args.length = c.args.size := by have := hrel.1; simp at this; omega
      refine called f ((c.args.map act.eval) ++ cs) (args ++ caps) r S' ?_ hf hn (by simp [hal, hl]) (fun j hj => ?_)
      · simp [execOp, ho, resolve, hc, hx, Deferred.ofValue, invoke]
      · rcases Nat.lt_or_ge j args.length with h1 | h1
        · have hlt : j < c.args.size := by omega
          have := hrel.2 (j + 1) c.args[j] (by simp [hlt])
          simp only [List.getD_eq_getElem?_getD, List.getElem?_cons_succ, List.getElem?_append_left h1] at this ⊢
          have h2 : j < (Array.map act.eval c.args).size := by simp [hlt]
          simpa [Array.getElem?_append_left h2, hlt] using this
        · have hj2 : j - args.length < caps.length := by simp at hj; omega
          have := hr (j - args.length) hj2
          have h2 : (Array.map act.eval c.args).size ≤ j := by simp; omega
          simp only [List.getD_eq_getElem?_getD, List.getElem?_append_right h1] at this ⊢
          have e : j - (Array.map act.eval c.args).size = j - args.length := by simp [hal]
          rw [Array.getD_eq_getD_getElem?, Array.getElem?_append_right h2, e, ← Array.getD_eq_getD_getElem?]
          have h3 : (caps[j - args.length]?).getD V.und = (caps[j - args.length]?).getD V.junk := by simp [hj2]
          rw [h3]
          exact this
    · exact hop.elim
  | _ => exact other hop

theorem eopOf_spec {ops : Array Oper} {o : Oper} {e : EO} (h : eopOf P ops o = some e) :
    ∃ k xs ys, kindOf P o = some (k, xs) ∧ opds xs = some ys ∧ e.k = k ∧ e.xs = ys ∧ e.d = o.dst ∧
      ((o.guard = none ∧ e.g = none) ∨ ∃ j want t, o.guard = some (j, want) ∧ (ops[j]?).bind (·.dst) = some t ∧ e.g = some (t, want)) := by
  unfold eopOf at h
  split at h
  · cases h
  · rename_i k xs hk
    split at h
    · cases h
    · rename_i ys hys
      split at h
      · rename_i hg
        simp only [Option.some.injEq] at h
        subst h
        exact ⟨k, xs, ys, hk, hys, rfl, rfl, rfl, .inl ⟨hg, rfl⟩⟩
      · rename_i j want hg
        split at h
        · rename_i t ht
          simp only [Option.some.injEq] at h
          subst h
          exact ⟨k, xs, ys, hk, hys, rfl, rfl, rfl, .inr ⟨j, want, t, hg, ht, rfl⟩⟩
        · cases h

/-- One operation with its guard. -/
theorem op_sound {ops : Array Oper} {i : Nat} {o : Oper} {e : EO} (hi : ops[i]? = some o) (he : eopOf P ops o = some e) (hd : ∀ k, o.dst = some k → k < N) {g : Gh} {a : Fr} {S : St} {act : Act} {w : World} {next : Fr → St → Prop} {Q : Exit → Act → World → Prop}
    (hC : Conc N g a S act w) (hb : nb ≤ S.boxes.length) (ht : nt ≤ S.toks.length) (h : eop1 P dr e next a S) : wpOp P ops Q i (Behind N nb nt g S w next) act w := by
  obtain ⟨k, xs, ys, hk, hxs, rfl, rfl, hdst, hg⟩ := eopOf_spec he
  have run : opK P dr e.k (e.xs.map (opv a)) S (fun v S' => next (putF a e.d v) S') → Region.wanted o (yielded ops act.tmps) = true → wpOp P ops Q i (Behind N nb nt g S w next) act w := by
    intro hop hw
    unfold wpOp
    simp only [hi, hw, if_true]
    refine .inl (op_wp hk hxs hC hop fun v S' g' u w' hn hr hm => ?_)
    exact ⟨putF a e.d v, S', g', hn, by rw [hdst]; exact hC.put hm o.dst hd hr, hm.toMv0 hC.inv hb ht⟩
  have skip : next (putF a e.d .und) S → Region.wanted o (yielded ops act.tmps) = false → wpOp P ops Q i (Behind N nb nt g S w next) act w := by
    intro hn hw
    unfold wpOp
    simp only [hi, hw, Bool.false_eq_true, if_false]
    exact ⟨putF a e.d .und, S, g, hn, by rw [hdst]; exact hC.put (Mv.refl hC.inv) o.dst hd .und, Mv0.refl hb ht⟩
  unfold eop1 guardK at h
  rcases hg with ⟨hg, heg⟩ | ⟨j, want, t, hg, hjt, heg⟩
  · rw [heg] at h
    exact run h (by simp [Region.wanted, hg])
  · rw [heg] at h
    simp only at h
    have hy := hC.rel t
    split at h
    · rename_i b hat
      rw [hat] at hy
      have hv : act.tmps[t]? = some (.bool b) := by
        generalize hu : act.tmps.getD t undef = u at hy
        cases hy with
        | t _ _ hh => cases hh with
        | bool =>
          simp only [Array.getD_eq_getD_getElem?] at hu
          cases hq : act.tmps[t]? with
          | none => simp [hq, undef] at hu
          | some q => simp [hq] at hu; rw [hu]
      have hyl : yielded ops act.tmps j = some b := by simp [yielded, hjt, hv]
      split at h
      · rename_i hbw
        exact run h (by simp [Region.wanted, hg, hyl, hbw])
      · rename_i hbw
        exact skip h (by simp [Region.wanted, hg, hyl, hbw])
    · rename_i hat
      rw [hat] at hy
      have hyl : yielded ops act.tmps j = none := by
        generalize hu : act.tmps.getD t undef = u at hy
        cases hy with
        | und =>
          simp only [Array.getD_eq_getD_getElem?] at hu
          cases hq : act.tmps[t]? with
          | none => simp [yielded, hjt, hq]
          | some q => simp [hq] at hu; subst hu; simp [yielded, hjt, hq, undef]
      exact skip h (by simp [Region.wanted, hg, hyl])
    · exact h.elim

theorem Behind.conc {g : Gh} {S : St} {w : World} {a : Fr} {act : Act} {next : Fr → St → Prop} (hC : Conc N g a S act w) (hb : nb ≤ S.boxes.length) (ht : nt ≤ S.toks.length) (h : next a S) : Behind N nb nt g S w next act w :=
  ⟨a, S, g, h, hC, Mv0.refl hb ht⟩

/-- The operations in the order of the text. -/
theorem ops_sound {ops : Array Oper} (hd : ∀ (i : Nat) (o : Oper), ops[i]? = some o → ∀ k, o.dst = some k → k < N) : ∀ (m i : Nat) (es : List EO), i + m = ops.size → es.length = m → (∀ j, j < m → ∃ o e, ops[i + j]? = some o ∧ es[j]? = some e ∧ eopOf P ops o = some e) →
    ∀ {g : Gh} {a : Fr} {S : St} {act : Act} {w : World} {Q : Fr → St → Prop} {Q' : Exit → Act → World → Prop}, Conc N g a S act w → nb ≤ S.boxes.length → nt ≤ S.toks.length → ewpOps P dr es Q a S →
      (∀ act' w', Behind N nb nt g S w Q act' w' → Q' .normal act' w') → wpOps P ops Q' (List.range' i m) act w
  | 0, i, es, _, hl, _, g, a, S, act, w, Q, Q', hC, hb, ht, h, hQ => by
    have : es = [] := List.eq_nil_of_length_eq_zero hl
    subst this
    simp only [List.range'_zero, wpOps]
    exact hQ _ _ (Behind.conc hC hb ht h)
  | m + 1, i, es, him, hl, hes, g, a, S, act, w, Q, Q', hC, hb, ht, h, hQ => by
    obtain ⟨o, e, ho, he, hoe⟩ := hes 0 (by omega)
    cases es with
    | nil => simp at hl
    | cons e' es =>
      simp at he
      subst he
      rw [List.range'_succ, wpOps_cons]
      simp only [Nat.add_zero] at ho
      refine wpOp_mono (fun act' w' hbh => ?_) (op_sound (nb := nb) (nt := nt) ho hoe (hd i o ho) hC hb ht h)
      obtain ⟨a', S', g', hn, hC', hm⟩ := hbh
      exact ops_sound hd m (i + 1) es (by omega) (by simpa using hl) (fun j hj => by
        obtain ⟨o, e, h1, h2, h3⟩ := hes (j + 1) (by omega)
        exact ⟨o, e, by rw [← h1]; congr 1; omega, by simpa using h2, h3⟩) hC' hm.nb hm.nt hn (fun act'' w'' hb'' => hQ _ _ (Behind.trans hm hb''))

end
end E
end Go.Proofs.Ythfnaaeddlnckaa
