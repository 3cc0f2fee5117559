/- The engine, part 17: contracts of functions out of their code; pure contracts. -/
import Derived.Test.YthfnaaeddlnckaaEng16
set_option linter.unusedSimpArgs false
set_option linter.unusedVariables false
namespace Go.Proofs.Ythfnaaeddlnckaa
namespace E

/-- A result: a slot, or a variable in a box. -/
inductive RV where
  | tm (t : Nat)
  | ce (t n : Nat) (a : Bool)

def rvOf (P : Program) : ResultVar → Option RV
  | .tmp t => some (.tm t)
  | .cell t ty => match shapeOf P ty with
    | some (n, a) => some (.ce t n a)
    | none => none

def rvsOf (P : Program) : List ResultVar → Option (List RV)
  | [] => some []
  | r :: rs => match rvOf P r, rvsOf P rs with
    | some x, some xs => some (x :: xs)
    | _, _ => none

def rvV (a : Fr) (S : St) : RV → Option V
  | .tm t => some (a t)
  | .ce t n ag => match a t with
    | .ptr b o => match S.boxes[b]? with
      | some (.cells cs) => if o + n ≤ cs.length then some (ldv ag n (cs.drop o)) else none
      | _ => none
    | _ => none

def rvVs (a : Fr) (S : St) : List RV → Option (List V)
  | [] => some []
  | r :: rs => match rvV a S r, rvVs a S rs with
    | some x, some xs => some (x :: xs)
    | _, _ => none

def packV : List V → V
  | [v] => v
  | vs => .tup vs

/-- What stands at a function's end. -/
def FinK (rvs : List RV) (nb nt : Nat) (r : V) (S' : St) (e : Ex) (a : Fr) (S1 : St) : Prop :=
  (match e with | .ex _ => False | _ => True) ∧ (nb ≤ S'.boxes.length ∧ nt ≤ S'.toks.length) ∧ leS S1 S' ∧
  match rvVs a S1 rvs with
  | some vs => leV (packV vs) r ∧ okN S'.boxes.length S'.toks.length r = true
  | none => False

/-- The frame at a function's start. -/
def fr0 (vs : List V) : Fr := fun i => vs.getD i .und

def rvSem (tmps : Array Value) : ResultVar → Sem Value
  | .tmp t => pure (tmps.getD t undef)
  | .cell t ty => do loadVar ty (← asAddr (tmps.getD t undef))

theorem results_eq (fn : Func) (tmps : Array Value) : results fn tmps = (do let vs ← fn.results.mapM (rvSem tmps); pure (if h : vs.size = 1 then vs[0] else .tuple vs)) := by
  unfold results
  congr 1

theorem rv_run {P : Program} {N : Nat} {g : Gh} {a : Fr} {S : St} {act : Act} {w : World} (hC : Conc N g a S act w) {rv : ResultVar} {r : RV} (hr : rvOf P rv = some r) {v : V} (hv : rvV a S r = some v) :
    ∃ u, (rvSem act.tmps rv).run P w = .ok u w ∧ RelV g S.toks v u := by
  cases rv with
  | tmp t =>
    simp [rvOf] at hr; subst hr
    simp [rvV] at hv; subst hv
    exact ⟨_, rfl, hC.rel t⟩
  | cell t ty =>
    simp only [rvOf] at hr
    split at hr
    · rename_i n ag hs
      simp only [Option.some.injEq] at hr
      subst hr
      obtain ⟨i, d, hi, hd, hn, ha, hor⟩ := shapeOf_spec hs
      simp only [rvV] at hv
      split at hv
      · rename_i b o hb
        split at hv
        · rename_i cs hcs
          split at hv
          · rename_i hle
            simp only [Option.some.injEq] at hv
            subst hv
            have hrel := hC.rel t
            rw [hb] at hrel
            generalize hq : act.tmps.getD t undef = u at hrel
            cases hrel with
            | ptr _ _ blk hβ =>
            have hu : (asAddr (act.tmps.getD t undef)).run P w = .ok ⟨blk, o, none⟩ w := by rw [hq]; rfl
            obtain ⟨vs, ty', hh, hsz, hr⟩ := hC.inv.box b blk _ hβ hcs
            have hcell : ∀ j, j < n → w.cell? ⟨blk, o + j, none⟩ = some (vs.getD (o + j) undef) := by
              intro j hj
              rw [cell_of_row w blk (o + j) vs ty' _ hh]
              have : o + j < vs.size := by omega
              simp [this]
            refine ⟨_, ?_, ldv_rel hor (by simp; omega) (f := fun j => vs.getD (o + j) undef) (fun j hj => ?_)⟩
            · show ((asAddr (act.tmps.getD t undef)) >>= fun a => loadVar ty a).run P w = _
              rw [Sem.run_bind, hu]
              show (loadVar ty ⟨blk, o, none⟩).run P w = _
              exact run_loadVar hs blk o (fun j => vs.getD (o + j) undef) hcell
            · have := hr (o + j) (by omega)
              simpa [List.getD_eq_getElem?_getD, List.getElem?_drop] using this
          · cases hv
        · cases hv
      · cases hv
    · cases hr

theorem rvs_run {P : Program} {N : Nat} {g : Gh} {a : Fr} {S : St} {act : Act} {w : World} (hC : Conc N g a S act w) : ∀ {rvs : List ResultVar} {rs : List RV} {vs : List V}, rvsOf P rvs = some rs → rvVs a S rs = some vs →
    ∃ us : List Value, (rvs.mapM (rvSem act.tmps)).run P w = .ok us w ∧ us.length = vs.length ∧ ∀ j, j < vs.length → RelV g S.toks (vs.getD j .junk) (us.getD j undef)
  | [], rs, vs, hr, hv => by
    simp [rvsOf] at hr; subst hr
    simp [rvVs] at hv; subst hv
    exact ⟨[], by simp, rfl, by simp⟩
  | rv :: rvs, rs, vs, hr, hv => by
    simp only [rvsOf] at hr
    split at hr
    · rename_i x xs hx hxs
      simp only [Option.some.injEq] at hr
      subst hr
      simp only [rvVs] at hv
      split at hv
      · rename_i y ys hy hys
        simp only [Option.some.injEq] at hv
        subst hv
        obtain ⟨u, h1, h2⟩ := rv_run (P := P) hC hx hy
        obtain ⟨us, h3, h4, h5⟩ := rvs_run (P := P) hC hxs hys
        refine ⟨u :: us, ?_, by simp [h4], fun j hj => ?_⟩
        · rw [List.mapM_cons]
          simp only [Sem.run_bind, h1, Result.andThen_ok, h3, Sem.run_pure]
        · cases j with
          | zero => simpa using h2
          | succ j => simpa using h5 j (by simpa using hj)
      · cases hv
    · cases hr

theorem results_run {P : Program} {N : Nat} {g : Gh} {a : Fr} {S : St} {act : Act} {w : World} (hC : Conc N g a S act w) {fn : Func} {rs : List RV} {vs : List V} (hr : rvsOf P fn.results.toList = some rs) (hv : rvVs a S rs = some vs) :
    ∃ u, (results fn act.tmps).run P w = .ok u w ∧ RelV g S.toks (packV vs) u := by
  obtain ⟨us, h1, h2, h3⟩ := rvs_run (P := P) hC hr hv
  have hm : (fn.results.mapM (rvSem act.tmps)).run P w = .ok us.toArray w := by
    rw [Array.mapM_eq_mapM_toList, Sem.run_map, h1]
    rfl
  by_cases h : us.length = 1
  · obtain ⟨u, rfl⟩ : ∃ u, us = [u] := by
      match us, h with
      | [u], _ => exact ⟨u, rfl⟩
    obtain ⟨v, rfl⟩ : ∃ v, vs = [v] := by
      match vs, h2 with
      | [v], _ => exact ⟨v, rfl⟩
    refine ⟨u, ?_, by simpa [packV] using h3 0 (by simp)⟩
    rw [results_eq]
    simp only [Sem.run_bind]
    rw [hm]
    simp
  · refine ⟨.tuple us.toArray, ?_, ?_⟩
    · rw [results_eq]
      simp only [Sem.run_bind]
      rw [hm]
      simp [h]
    · have : packV vs = .tup vs := by
        match vs, h2 with
        | [], _ => rfl
        | [v], h2 => exact absurd h2 h
        | _ :: _ :: _, _ => rfl
      rw [this]
      exact .tup _ _ (by simpa using h2) (fun j hj => by simpa using h3 j hj)

/-- The contract of a function out of its code. -/
theorem FnS.of_ewp {P : Program} (hmix : P.follows .mixedOrders = true) {f : Nat} {fn : Func} {code : Code} {c : EC} {rs : List RV} {vs : List V} {S S' : St} {r : V} (hE : Enters P f) (hf : P.funcs[f]? = some fn) (hb : fn.body = some code)
    {N : Nat} (hN : fn.ntmps = N) (hc : ecOf P N code = some c) (hr : rvsOf P fn.results.toList = some rs) (hlen : vs.length ≤ N)
    (h : ewp P S.boxes.length S.toks.length c (FinK rs S.boxes.length S.toks.length r S') (fr0 vs) S) : FnS P f vs S r S' := by
  refine ⟨hE, fun g w us hI hus hrel => ?_⟩
  subst hN
  refine calls_of_wp hf hb ?_
  have hC : Conc fn.ntmps g (fr0 vs) S { tmps := us ++ Array.replicate (fn.ntmps - us.size) undef, defers := [] } w := by
    refine ⟨hI, rfl, by simp; omega, fun i => ?_⟩
    simp only [fr0]
    rcases Nat.lt_or_ge i us.size with hi | hi
    · have := hrel i (by omega)
      simp only [Array.getD_eq_getD_getElem?] at this ⊢
      rw [Array.getElem?_append_left hi]
      exact this
    · have h1 : vs.getD i .und = .und := by simp [List.getD_eq_getElem?_getD, List.getElem?_eq_none (by omega : vs.length ≤ i)]
      have h2 : (us ++ Array.replicate (fn.ntmps - us.size) undef).getD i undef = undef := by
        simp only [Array.getD_eq_getD_getElem?]
        rw [Array.getElem?_append_right hi]
        by_cases hh : i - us.size < fn.ntmps - us.size
        · simp [hh]
        · simp [hh]
      rw [h1, h2]
      exact .und
  refine wp_mono (ewp_sound hmix code c hc hC (Nat.le_refl _) (Nat.le_refl _) h) ?_
  rintro e act' w' ⟨x, a', S1, g', rfl, ⟨hx, hcnt, hle, hfin⟩, hC', hm⟩
  split at hfin
  · rename_i rvals hrv
    obtain ⟨hl, hok⟩ := hfin
    obtain ⟨u, hu, hur⟩ := results_run (P := P) (fn := fn) hC' hr hrv
    have hres : ∃ v, (results fn act'.tmps).run P w' = .ok v w' ∧ ∃ u g', Ending.returned v = .returned u ∧ RelV g' S'.toks r u ∧ Mv g S w g' S' w' := by
      refine ⟨u, hu, u, trunc g' S'.boxes.length S'.toks.length, rfl, ?_, hC'.inv.weak hle, ⟨hm.I, fun i z hz => ?_, fun k n hk => ?_, hm.base, hm.ent, hm.icl⟩, hm.frm⟩
      · have := (leV_rel hur hl).trunc hok
        rw [← hle.2.eq.2] at this
        exact this
      · have hi : i < S.boxes.length := by rw [← hI.len]; exact (List.getElem?_eq_some_iff.1 hz).1
        simp only [trunc, List.getElem?_take]
        rw [if_pos (by omega)]
        exact hm.β i z hi hz
      · have hk' : k < S.toks.length := (List.getElem?_eq_some_iff.1 hk).1
        obtain ⟨n', h1, h2, h3⟩ := hm.τ k n hk' hk
        refine ⟨n', ?_, h2, fun he => ?_⟩
        · rw [hle.2.eq.2, List.getElem?_take, if_pos (by omega)]; exact h1
        · simp only [trunc, List.getElem?_take]; rw [if_pos (by omega)]; exact h3 he
    cases x with
    | nx => exact ⟨hC'.defers, hres⟩
    | rt => exact ⟨hC'.defers, hres⟩
    | ex id => exact hx.elim
  · exact hfin.elim

/-! ### pure contracts: no box, no token -/
mutual
def era : V → V
  | .t x => .t x
  | .und => .und
  | .junk => .junk
  | .snil => .t (.sl [])
  | .full es => .t (.sl es)
  | .own _ _ _ es => .t (.sl es)
  | .ptr _ _ => .junk
  | .tp e o => .tp e o
  | .mp _ => .junk
  | .vw _ _ _ => .junk
  | .fn f caps => .fn f (eras caps)
  | .agg cs => .agg (eras cs)
  | .tup cs => .tup (eras cs)
def eras : List V → List V
  | [] => []
  | v :: vs => era v :: eras vs
end

theorem eras_eq (vs : List V) : eras vs = vs.map era := by
  induction vs with
  | nil => rfl
  | cons v vs ih => simp [eras, ih]

theorem eras_map (l : List T) : eras (l.map V.t) = l.map V.t := by
  induction l with
  | nil => rfl
  | cons x l ih => simp [eras, era, ih]

/-- A ghost without boxes and tokens. -/
def bare (g : Gh) (n : Nat) : Gh := { I := g.I, β := [], τ := [], base := n, ent := [] }

theorem RelV.era {g : Gh} {tk : List Nat} {n : Nat} {v : V} {u : Value} (h : RelV g tk v u) : RelV (bare g n) [] (E.era v) u := by
  induction h with
  | t x v h => exact .t x v h
  | und => exact .und
  | junk v => exact .junk v
  | snil => exact .t _ _ .slnil
  | full es a h => exact .t _ _ h
  | own k e z es v n h hz hn hle hg => exact .t _ _ h
  | ptr b o blk h => exact .junk _
  | tp e o blk off c hI hr => exact .tp e o blk off c hI hr
  | fn f caps vs hl hr ih =>
    simp only [E.era, eras_eq]
    refine .fn f _ vs (by simpa using hl) (fun j hj => ?_)
    have hj' : j < caps.length := by simpa using hj
    have := ih j hj'
    simpa [List.getD_eq_getElem?_getD, hj'] using this
  | agg cs vs hl hr ih =>
    simp only [E.era, eras_eq]
    refine .agg _ vs (by simpa using hl) (fun j hj => ?_)
    have hj' : j < cs.length := by simpa using hj
    have := ih j hj'
    simpa [List.getD_eq_getElem?_getD, hj'] using this
  | tup cs vs hl hr ih =>
    simp only [E.era, eras_eq]
    refine .tup _ vs (by simpa using hl) (fun j hj => ?_)
    have hj' : j < cs.length := by simpa using hj
    have := ih j hj'
    simpa [List.getD_eq_getElem?_getD, hj'] using this
  | mp b blk h => exact .junk _
  | vw b o n blk cap h hc hm => exact .junk _

theorem RelV.mono' {g g' : Gh} {tk tk' : List Nat} (hI : g'.I = g.I) (hβ : ∀ (i x : Nat), g.β[i]? = some x → g'.β[i]? = some x) (hτ : ∀ (k n : Nat), tk[k]? = some n → tk'[k]? = some n ∧ g'.τ[k]? = g.τ[k]?) {x : V} {v : Value} (h : RelV g tk x v) : RelV g' tk' x v := by
  have h0 : RelV { g' with base := g.base, ent := g.ent } tk' x v := h.mono (g' := { g' with base := g.base, ent := g.ent }) ⟨fun b o c hc => by rw [hI]; exact hc, hβ, fun k n hk => ⟨n, (hτ k n hk).1, Nat.le_refl _, fun _ => (hτ k n hk).2⟩, rfl, rfl, fun b o c hc => .inl (by simp only [hI] at hc; exact hc)⟩
  clear h
  induction h0 with
  | t x v h => exact .t x v h
  | und => exact .und
  | junk v => exact .junk v
  | snil => exact .snil
  | full es a h => exact .full es a h
  | own k e z es v n h hz hn hle hg => exact .own k e z es v n h hz hn hle hg
  | ptr b o blk h => exact .ptr b o blk h
  | tp e o blk off c hI hr => exact .tp e o blk off c hI hr
  | fn f caps vs hl hr ih => exact .fn f caps vs hl ih
  | agg cs vs hl hr ih => exact .agg cs vs hl ih
  | tup cs vs hl hr ih => exact .tup cs vs hl ih
  | mp b blk h => exact .mp b blk h
  | vw b o n blk cap h hc hm => exact .vw b o n blk cap h hc hm

def St0 : St := ⟨[], []⟩

/-- A function that only computes: from trees to a tree, whatever else there is. -/
def Pure (P : Program) (f : Nat) (vs : List V) (r : V) : Prop := FnS P f vs St0 r St0

theorem Pure.call {P : Program} {f : Nat} {vs : List V} {r : V} (h : Pure P f (eras vs) r) (S : St) : FnS P f vs S r S := by
  refine ⟨h.1, fun g w us hI hus hrel => ?_⟩
  have hI0 : Inv (bare g w.heap.size) St0 w :=
    ⟨hI.imm, rfl, List.nodup_nil, fun i blk bx hi => by simp [bare] at hi, fun i blk bx hi => by simp [bare] at hi, fun i blk hi => by simp [bare] at hi, rfl, fun k n blk e z cap hk => by simp [bare] at hk, fun k n hk => by simp [bare] at hk, fun k l x y hk => by simp [bare] at hk,
      Nat.le_refl _, fun i blk hi => by simp [bare] at hi⟩
  refine (h.2 (bare g w.heap.size) w us hI0 (by rw [eras_eq]; simpa using hus) (fun j hj => ?_)).mono fun e w' he => ?_
  · rw [eras_eq] at hj ⊢
    have hj' : j < vs.length := by simpa using hj
    have := (hrel j hj').era (n := w.heap.size)
    simpa [List.getD_eq_getElem?_getD, hj', St0] using this
  · obtain ⟨u, g', rfl, hr, hm⟩ := he
    have hblk : ∀ k, k < w.heap.size → w'.heap[k]? = w.heap[k]? := fun k hk => hm.frm.block k hk (by simp [bare])
    have hI' : ∀ {b o : Nat} {c : Value}, g'.I b o = some c → g.I b o = some c ∨ w.heap.size ≤ b := by
      intro b o c hc
      rcases hm.ext.icl b o c hc with h1 | h1 | h1
      · exact .inl h1
      · exact .inr h1
      · simp [bare] at h1
    have hold : ∀ {b : Nat}, b < w.heap.size → ∀ o, g.I b o = none → g'.I b o = none := by
      intro b hb o hn
      cases hc : g'.I b o with
      | none => rfl
      | some c =>
        rcases hI' hc with h1 | h1
        · rw [hn] at h1; cases h1
        · omega
    have hext : Ext g S.toks { g with I := g'.I } S.toks := by
      refine ⟨hm.ext.I, fun _ _ h => h, fun k n hk => ⟨n, hk, Nat.le_refl _, fun _ => rfl⟩, rfl, rfl, fun b o c hc => ?_⟩
      rcases hI' hc with h1 | h1
      · exact .inl h1
      · right; left; have := hI.lo; omega
    refine ⟨u, { g with I := g'.I }, rfl, ?_, ⟨hm.inv.imm, hI.len, hI.nodup, fun i blk bx hi hbx => ?_, fun i blk bx hi hbx hd o => ?_, hI.bwr, hI.tlen, fun k n blk e z cap hk hn => ?_, hI.tnil, hI.tdis, Nat.le_trans hI.lo hm.frm.size, fun i blk hi => Nat.lt_of_lt_of_le (hI.bold i blk hi) hm.frm.size⟩, hext,
      ⟨hm.frm.os, hm.frm.tape, hm.frm.output, hm.frm.size, fun k hk _ => hblk k (Nat.lt_of_lt_of_le hk hI.lo)⟩⟩
    · have h1 : g'.β.length = 0 := hm.inv.len
      have h2 : g'.β = [] := List.eq_nil_of_length_eq_zero h1
      have h3 : ∀ (q : Gh), q.I = g'.I → RelV q S.toks r u := fun q hq => RelV.mono' (g := g') (g' := q) (tk := St0.toks) (tk' := S.toks) hq (fun i x hx => by rw [h2] at hx; simp at hx) (fun k n hk => by simp [St0] at hk) hr
      exact h3 _ rfl
    · exact (hI.box i blk bx hi hbx).mono hext (hblk blk (hI.bold i blk hi))
    · exact hold (hI.bold i blk hi) o (hI.sep i blk bx hi hbx hd o)
    · obtain ⟨⟨cur, h1, h2⟩, h3, h4, h5⟩ := hI.tok k n blk e z cap hk hn
      have hlt : blk < w.heap.size := (Array.getElem?_eq_some_iff.1 h1).1
      exact ⟨⟨cur, by rw [hblk blk hlt]; exact h1, h2⟩, fun o ho => hold hlt o (h3 o ho), h4, h5⟩

/-- A function's code, its slots and its results, as the engine reads them. -/
def ecF (P : Program) (f : Nat) : Option (Nat × EC × List RV) :=
  match P.funcs[f]? with
  | some fn => match fn.body with
    | some code => match ecOf P fn.ntmps code, rvsOf P fn.results.toList with
      | some c, some rs => some (fn.ntmps, c, rs)
      | _, _ => none
    | none => none
  | none => none

theorem FnS.of_code {P : Program} (hmix : P.follows .mixedOrders = true) {f N : Nat} {c : EC} {rs : List RV} {vs : List V} {S S' : St} {r : V} (hE : Enters P f) (hc : ecF P f = some (N, c, rs)) (hlen : vs.length ≤ N)
    (h : ewp P S.boxes.length S.toks.length c (FinK rs S.boxes.length S.toks.length r S') (fr0 vs) S) : FnS P f vs S r S' := by
  unfold ecF at hc
  split at hc
  · rename_i fn hf
    split at hc
    · rename_i code hb
      split at hc
      · rename_i c' rs' h1 h2
        simp only [Option.some.injEq, Prod.mk.injEq] at hc
        obtain ⟨rfl, rfl, rfl⟩ := hc
        exact FnS.of_ewp hmix hE hf hb rfl h1 h2 hlen h
      · cases hc
    · cases hc
  · cases hc

theorem Pure.of_code {P : Program} (hmix : P.follows .mixedOrders = true) {f N : Nat} {c : EC} {rs : List RV} {vs : List V} {r : V} (hE : Enters P f) (hc : ecF P f = some (N, c, rs)) (hlen : vs.length ≤ N)
    (h : ewp P 0 0 c (FinK rs 0 0 r St0) (fr0 vs) St0) : Pure P f vs r := FnS.of_code hmix hE hc hlen h

end E
end Go.Proofs.Ythfnaaeddlnckaa
