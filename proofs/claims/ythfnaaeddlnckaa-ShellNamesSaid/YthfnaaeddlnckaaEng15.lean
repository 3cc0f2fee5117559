/- The engine, part 15: regions that draw their order: one walk in the order of the text serves every order. -/
import Derived.Test.YthfnaaeddlnckaaEng14
set_option linter.unusedSimpArgs false
set_option linter.unusedVariables false
namespace Go.Proofs.Ythfnaaeddlnckaa
namespace E
section
variable {P : Program}

/-- Operations that have nothing to do with the state (0), that read boxes (1), that read all of the state (2), that change boxes (3), that read all and change tokens (4). -/
def cls : EK → Nat
  | .load .. => 1
  | .call _ | .callv => 2
  | .box | .alloc _ | .store _ => 3
  | .app .. => 4
  | _ => 0

def tb (c : Nat) : Bool := c != 0
def tt (c : Nat) : Bool := c == 2 || c == 4
def wb (c : Nat) : Bool := c == 3
def wt (c : Nat) : Bool := c == 4

def looks (e : EO) : List Nat :=
  (e.xs.filterMap fun | .tmp t => some t | .c _ => none) ++ (match e.g with | some (t, _) => [t] | none => [])

def apartE (x y : EO) : Bool :=
  (match x.d with | some d => !(looks y).contains d && y.d != some d | none => true) &&
  (match y.d with | some d => !(looks x).contains d | none => true) &&
  !((wb (cls x.k) && tb (cls y.k)) || (wb (cls y.k) && tb (cls x.k)) || (wt (cls x.k) && tt (cls y.k)) || (wt (cls y.k) && tt (cls x.k)))

def resK (P : Program) (k : EK) (vs : List V) (S : St) (v : V) (S' : St) : Prop := opK P true k vs S fun v' S'' => v' = v ∧ S'' = S'

theorem estepK_det {k : EK} {vs : List V} {S : St} {K : V → St → Prop} (hk : estepK k vs S K) : ∃ v S', estepK k vs S (fun v' S'' => v' = v ∧ S'' = S') ∧ K v S' := by
  cases k <;> simp only [estepK, pickK, boxK, loadK, storeK, faddrK, fldK, iaSK, iaAK, ixAK, ixSK, binK, intB, strB, eqvK, unK, cvIK, cvSK, extK, nilcK, lenSK, lenLK, appK, bslK] at hk ⊢ <;>
    (repeat' split at hk) <;> first
      | exact hk.elim
      | exact hk.2.elim
      | exact ⟨_, _, ⟨rfl, rfl⟩, hk⟩
      | exact ⟨_, _, ⟨hk.1, rfl, rfl⟩, hk.2⟩
      | exact ⟨_, _, ⟨hk.1, hk.2.1, rfl, rfl⟩, hk.2.2⟩
      | (simp_all; done)
      | (refine ⟨_, _, ?_, hk⟩; simp_all; done)
      | (refine ⟨_, _, ?_, hk.2⟩; simp_all; done)
      | (refine ⟨_, _, ?_, hk.2.2⟩; simp_all; done)

theorem opK_det {k : EK} {vs : List V} {S : St} {K : V → St → Prop} (hk : opK P true k vs S K) : ∃ v S', resK P k vs S v S' ∧ K v S' := by
  unfold resK
  cases k with
  | call f => obtain ⟨r, S', h1, h2, h3⟩ := hk; exact ⟨r, S', ⟨r, S', h1, h2, rfl, rfl⟩, h3⟩
  | callv =>
    simp only [opK] at hk ⊢
    split at hk
    · obtain ⟨r, S', h1, h2, h3⟩ := hk; exact ⟨r, S', ⟨r, S', h1, h2, rfl, rfl⟩, h3⟩
    · exact hk.elim
  | _ => simp only [opK] at hk ⊢; exact estepK_det hk

theorem opK_of_res {k : EK} {vs : List V} {S : St} {K : V → St → Prop} {v : V} {S' : St} (h : resK P k vs S v S') (hk : K v S') : opK P true k vs S K := by
  unfold resK at h
  cases k with
  | call f => obtain ⟨r, S2, h1, h2, rfl, rfl⟩ := h; exact ⟨_, _, h1, h2, hk⟩
  | callv =>
    simp only [opK] at h ⊢
    split at h
    · obtain ⟨r, S2, h1, h2, rfl, rfl⟩ := h; exact ⟨_, _, h1, h2, hk⟩
    · exact h.elim
  | _ => simp only [opK] at h ⊢; exact estepK_mono (fun x S1 hx => by obtain ⟨rfl, rfl⟩ := hx; exact hk) h

theorem estepK_unif {k : EK} (hc : cls k = 0) (vs : List V) (S S2 : St) (K : V → St → Prop) : estepK k vs S K = estepK k vs S2 (fun v _ => K v S) := by
  cases k with
  | load => cases hc
  | call => cases hc
  | callv => cases hc
  | box => cases hc
  | alloc => cases hc
  | store => cases hc
  | app => cases hc
  | pick => simp only [estepK]; unfold pickK; split <;> rfl
  | bsl => simp only [estepK]; unfold bslK; split <;> rfl
  | build => simp only [estepK]
  | faddr => simp only [estepK]; unfold faddrK; split <;> rfl
  | fld => simp only [estepK]; unfold fldK; split <;> rfl
  | iaS => simp only [estepK]; unfold iaSK; split <;> first | rfl | (split <;> rfl)
  | iaA => simp only [estepK]; unfold iaAK; split <;> rfl
  | ixA => simp only [estepK]; unfold ixAK; split <;> rfl
  | ixS => simp only [estepK]; unfold ixSK; split <;> rfl
  | bin op => simp only [estepK]; unfold binK; split <;> first | rfl | (unfold intB; cases op <;> rfl) | (unfold strB; cases op <;> rfl)
  | eqv => simp only [estepK]; unfold eqvK; split <;> first | rfl | (split <;> rfl)
  | un op => simp only [estepK]; unfold unK; split <;> rfl
  | cvI => simp only [estepK]; unfold cvIK; split <;> rfl
  | cvS => simp only [estepK]; unfold cvSK; split <;> rfl
  | ext => simp only [estepK]; unfold extK; split <;> rfl
  | nilc => simp only [estepK]; unfold nilcK; split <;> rfl
  | lenS => simp only [estepK]; unfold lenSK; split <;> rfl
  | lenL => simp only [estepK]; unfold lenLK; split <;> first | rfl | (split <;> rfl)
  | slA => simp only [estepK]
  | slS => simp only [estepK]
  | slL => simp only [estepK]
  | _ => rfl

theorem opK_estep {k : EK} (hc : cls k = 0) {vs : List V} {S : St} {K : V → St → Prop} : opK P true k vs S K = estepK k vs S K := by
  cases k <;> first | rfl | (simp [cls] at hc; done)

/-- What an operation leaves alone, and what it does not look at. -/
structure Local (P : Program) (k : EK) (vs : List V) (S : St) (v : V) (S' : St) : Prop where
  keepB : wb (cls k) = false → S'.boxes = S.boxes
  keepT : wt (cls k) = false → S'.toks = S.toks
  look : ∀ S2 : St, (tb (cls k) = true → S2.boxes = S.boxes) → (tt (cls k) = true → S2.toks = S.toks) →
    resK P k vs S2 v ⟨if wb (cls k) then S'.boxes else S2.boxes, if wt (cls k) then S'.toks else S2.toks⟩

theorem St.eq_of {A B : St} (h1 : A.boxes = B.boxes) (h2 : A.toks = B.toks) : A = B := by cases A; cases B; simp_all

theorem res_local {k : EK} {vs : List V} {S : St} {v : V} {S' : St} (h : resK P k vs S v S') : Local P k vs S v S' := by
  by_cases h0 : cls k = 0
  · have h1 := h
    unfold resK at h1
    rw [opK_estep h0, estepK_unif h0 vs S S] at h1
    obtain ⟨_, _, _, _, h2⟩ := estepK_det h1
    subst h2
    refine ⟨fun _ => rfl, fun _ => rfl, fun S2 _ _ => ?_⟩
    simp only [h0, wb, wt]
    show resK P k vs S2 v S2
    unfold resK
    rw [opK_estep h0, estepK_unif h0 vs S2 S]
    exact estepK_mono (fun x _ hx => ⟨hx.1, rfl⟩) h1
  · have hcall : S' = S → tb (cls k) = true → tt (cls k) = true → Local P k vs S v S' := by
      intro he htb htt
      subst he
      refine ⟨fun _ => rfl, fun _ => rfl, fun S2 e1 e2 => ?_⟩
      have : S2 = S' := St.eq_of (e1 htb) (e2 htt)
      subst this
      have : (⟨if wb (cls k) then S2.boxes else S2.boxes, if wt (cls k) then S2.toks else S2.toks⟩ : St) = S2 := by cases S2; simp
      rw [this]
      exact h
    cases k with
    | call f =>
      refine hcall ?_ rfl rfl
      obtain ⟨r, S2, h1, h2, rfl, rfl⟩ := h
      exact h2 rfl
    | callv =>
      refine hcall ?_ rfl rfl
      unfold resK at h
      simp only [opK] at h
      split at h
      · obtain ⟨r, S2, h1, h2, rfl, rfl⟩ := h; exact (by simpa using h2)
      · exact h.elim
    | load n a =>
      have hS : S' = S := by
        unfold resK at h
        simp only [opK, estepK] at h
        unfold loadK at h
        split at h
        · split at h
          · exact h.2.2.symm
          · exact h.elim
        · exact h.2.2.symm
        · exact h.elim
      subst hS
      refine ⟨fun _ => rfl, fun _ => rfl, fun S2 e1 _ => ?_⟩
      have e2 := e1 rfl
      show resK P _ vs S2 v S2
      unfold resK at h ⊢
      simp only [opK, estepK, loadK] at h ⊢
      rw [e2]
      split at h
      · split at h
        · exact ⟨h.1, h.2.1, by first | rfl | trivial⟩
        · exact h.elim
      · exact ⟨h.1, h.2.1, by first | rfl | trivial⟩
      · exact h.elim
    | box =>
      unfold resK at h
      simp only [opK, estepK, boxK] at h
      obtain ⟨h1, h2, h3⟩ := h
      subst h3
      refine ⟨fun h => by simp [wb, cls] at h, fun _ => rfl, fun S2 e1 _ => ?_⟩
      have e2 := e1 rfl
      unfold resK
      simp only [opK, estepK, boxK]
      exact ⟨h1, by rw [e2]; exact h2, St.eq_of (by simp [wb, cls, e2]) (by simp [wt, cls])⟩
    | alloc z =>
      unfold resK at h
      simp only [opK, estepK] at h
      obtain ⟨h2, h3⟩ := h
      subst h3
      refine ⟨fun h => by simp [wb, cls] at h, fun _ => rfl, fun S2 e1 _ => ?_⟩
      have e2 := e1 rfl
      unfold resK
      simp only [opK, estepK]
      exact ⟨by rw [e2]; exact h2, St.eq_of (by simp [wb, cls, e2]) (by simp [wt, cls])⟩
    | store n =>
      unfold resK at h
      simp only [opK, estepK, storeK] at h
      split at h
      · rename_i b o hb
        split at h
        · rename_i cs hcs
          obtain ⟨h1, h2, h3⟩ := h
          subst h3
          refine ⟨fun h => by simp [wb, cls] at h, fun _ => rfl, fun S2 e1 _ => ?_⟩
          have e2 := e1 rfl
          unfold resK
          simp only [opK, estepK, storeK, hb, e2, hcs]
          exact ⟨h1, h2, St.eq_of (by simp [wb, cls]) (by simp [wt, cls])⟩
        · exact h.elim
      · exact h.elim
    | app e sz bytes =>
      have hB : S'.boxes = S.boxes := by
        unfold resK at h
        simp only [opK, estepK] at h
        unfold appK at h
        split at h
        · exact h.elim
        · have h := h.2
          split at h
          · rw [← h.2.2]
          · rw [← h.2.2]
          · rw [← h.2.2]
          · exact h.elim
      refine ⟨fun _ => hB, fun h => by simp [wt, cls] at h, fun S2 e1 e2 => ?_⟩
      have : S2 = S := St.eq_of (e1 rfl) (e2 rfl)
      subst this
      have : (⟨if wb (cls (.app e sz bytes)) then S'.boxes else S2.boxes, if wt (cls (.app e sz bytes)) then S'.toks else S2.toks⟩ : St) = S' := St.eq_of (by simp [wb, cls, hB]) (by simp [wt, cls])
      rw [this]
      exact h
    | _ => exact absurd rfl h0

def runG (a : Fr) (g : Option (Nat × Bool)) : Option Bool :=
  match g with
  | none => some true
  | some (t, want) => match a t with
    | .t (.bool b) => some (b == want)
    | .und => some false
    | _ => none

def YE (P : Program) (e : EO) (v : V) (S' : St) (a : Fr) (S : St) : Prop :=
  (runG a e.g = some true ∧ resK P e.k (e.xs.map (opv a)) S v S') ∨ (runG a e.g = some false ∧ v = .und ∧ S' = S)

theorem guardK_run (a : Fr) (g : Option (Nat × Bool)) (X Y : Prop) : (runG a g = some true → (guardK a g X Y ↔ X)) ∧ (runG a g = some false → (guardK a g X Y ↔ Y)) ∧ (runG a g = none → ¬ guardK a g X Y) := by
  cases g with
  | none => simp [runG, guardK]
  | some gw =>
    obtain ⟨t, want⟩ := gw
    unfold runG guardK
    simp only []
    generalize a t = q
    cases q with
    | t x =>
      cases x with
      | bool b => cases b <;> cases want <;> simp
      | _ => simp
    | _ => simp

theorem eop1_iff {e : EO} {next : Fr → St → Prop} {a : Fr} {S : St} : eop1 P true e next a S ↔ ∃ v S', YE P e v S' a S ∧ next (putF a e.d v) S' := by
  have hrun : opK P true e.k (e.xs.map (opv a)) S (fun v S' => next (putF a e.d v) S') ↔ ∃ v S', resK P e.k (e.xs.map (opv a)) S v S' ∧ next (putF a e.d v) S' :=
    ⟨fun h => opK_det h, fun ⟨v, S', h1, h2⟩ => opK_of_res h1 h2⟩
  have hskip : next (putF a e.d .und) S ↔ ∃ v S', (v = V.und ∧ S' = S) ∧ next (putF a e.d v) S' :=
    ⟨fun hn => ⟨_, _, ⟨rfl, rfl⟩, hn⟩, fun ⟨v, S', ⟨h1, h2⟩, hn⟩ => by rw [h1, h2] at hn; exact hn⟩
  obtain ⟨case1, case2, case3⟩ := guardK_run a e.g (opK P true e.k (e.xs.map (opv a)) S fun v S' => next (putF a e.d v) S') (next (putF a e.d .und) S)
  unfold eop1 YE
  cases hr : runG a e.g with
  | none => simp only [reduceCtorEq, false_and, or_self, exists_false, iff_false]; exact case3 hr
  | some b =>
    cases b
    · rw [case2 hr, hskip]; simp
    · rw [case1 hr, hrun]; simp

theorem putF_get {a : Fr} {d : Option Nat} {u : V} {i : Nat} (h : ∀ k, d = some k → i ≠ k) : putF a d u i = a i := by
  cases d with
  | none => rfl
  | some k => simp [putF, upd, h k rfl]

theorem YE_put {e : EO} {v : V} {S' : St} {a : Fr} {S : St} {d : Option Nat} {u : V} (h : ∀ k, d = some k → k ∉ looks e) : YE P e v S' (putF a d u) S ↔ YE P e v S' a S := by
  have h1 : e.xs.map (opv (putF a d u)) = e.xs.map (opv a) := by
    apply List.map_congr_left
    intro x hx
    cases x with
    | c v => rfl
    | tmp t =>
      refine putF_get fun k hk heq => h k hk ?_
      subst heq
      exact List.mem_append_left _ (List.mem_filterMap.2 ⟨.tmp t, hx, rfl⟩)
  have h2 : runG (putF a d u) e.g = runG a e.g := by
    unfold runG
    cases hg : e.g with
    | none => rfl
    | some gw =>
      obtain ⟨t, want⟩ := gw
      simp only []
      rw [putF_get fun k hk heq => h k hk (by subst heq; exact List.mem_append_right _ (by simp [hg]))]
  unfold YE
  rw [h1, h2]

theorem putF_comm {a : Fr} {x y : Option Nat} {u v : V} (h : ∀ d, x = some d → y ≠ some d) : putF (putF a x u) y v = putF (putF a y v) x u := by
  cases x with
  | none => rfl
  | some d =>
    cases y with
    | none => rfl
    | some k =>
      have hne : d ≠ k := fun e => h d rfl (by rw [e])
      funext i
      simp only [putF, upd]
      by_cases h1 : i = d
      · subst h1; simp [hne]
      · simp [h1]

theorem apart_spec {x y : EO} (h : apartE x y = true) : (∀ d, x.d = some d → d ∉ looks y) ∧ (∀ d, x.d = some d → y.d ≠ some d) ∧ (∀ d, y.d = some d → d ∉ looks x) ∧
    (wb (cls x.k) = true → tb (cls y.k) = false) ∧ (wb (cls y.k) = true → tb (cls x.k) = false) ∧ (wt (cls x.k) = true → tt (cls y.k) = false) ∧ (wt (cls y.k) = true → tt (cls x.k) = false) := by
  unfold apartE at h
  simp only [Bool.and_eq_true, Bool.not_eq_true', Bool.or_eq_false_iff, Bool.and_eq_false_iff] at h
  obtain ⟨⟨h1, h2⟩, ⟨⟨h3, h4⟩, h5⟩, h6⟩ := h
  refine ⟨fun d hd => ?_, fun d hd => ?_, fun d hd => ?_, fun hc => ?_, fun hc => ?_, fun hc => ?_, fun hc => ?_⟩
  · rw [hd] at h1; simp at h1; exact h1.1
  · rw [hd] at h1; simp at h1; exact h1.2
  · rw [hd] at h2; simpa using h2
  · rcases h3 with h | h
    · rw [hc] at h; cases h
    · exact h
  · rcases h4 with h | h
    · rw [hc] at h; cases h
    · exact h
  · rcases h5 with h | h
    · rw [hc] at h; cases h
    · exact h
  · rcases h6 with h | h
    · rw [hc] at h; cases h
    · exact h

/-- 'Local', for an operation that may be skipped. -/
structure LocalE (P : Program) (e : EO) (v : V) (S' : St) (a : Fr) (S : St) : Prop where
  keepB : wb (cls e.k) = false → S'.boxes = S.boxes
  keepT : wt (cls e.k) = false → S'.toks = S.toks
  look : ∀ S2 : St, (tb (cls e.k) = true → S2.boxes = S.boxes) → (tt (cls e.k) = true → S2.toks = S.toks) →
    YE P e v ⟨if wb (cls e.k) then S'.boxes else S2.boxes, if wt (cls e.k) then S'.toks else S2.toks⟩ a S2

theorem wb_tb {c : Nat} (h : wb c = true) : tb c = true := by simp [wb] at h; subst h; rfl
theorem wt_tt {c : Nat} (h : wt c = true) : tt c = true := by simp [wt] at h; subst h; rfl

theorem YE.local {e : EO} {v : V} {S' : St} {a : Fr} {S : St} (h : YE P e v S' a S) : LocalE P e v S' a S := by
  rcases h with ⟨g, h⟩ | ⟨g, rfl, rfl⟩
  · obtain ⟨h1, h2, h3⟩ := res_local h
    exact ⟨h1, h2, fun S2 e1 e2 => .inl ⟨g, h3 S2 e1 e2⟩⟩
  · refine ⟨fun _ => rfl, fun _ => rfl, fun S2 e1 e2 => .inr ⟨g, rfl, St.eq_of ?_ ?_⟩⟩
    · cases hw : wb (cls e.k)
      · rfl
      · exact (e1 (wb_tb hw)).symm
    · cases hw : wt (cls e.k)
      · rfl
      · exact (e2 (wt_tt hw)).symm

theorem commuteE {ei ej : EO} {vi : V} {Si : St} {a : Fr} {S : St} {K : Fr → St → Prop} (hap : apartE ei ej = true) (hi : YE P ei vi Si a S) (hj : eop1 P true ej K (putF a ei.d vi) Si) :
    eop1 P true ej (fun a' S1 => ∃ Si', YE P ei vi Si' a' S1 ∧ K (putF a' ei.d vi) Si') a S := by
  obtain ⟨h1, h2, h3, h4, h5, h6, h7⟩ := apart_spec hap
  obtain ⟨u, Sj, hu, hK⟩ := eop1_iff.1 hj
  rw [YE_put h1] at hu
  rw [putF_comm h2] at hK
  have li := hi.local
  have lj := hu.local
  have no : ∀ {b : Bool}, b = false → b = true → False := fun h k => by rw [h] at k; cases k
  have kB : tb (cls ej.k) = true → Si.boxes = S.boxes := fun ht => li.keepB (by cases hw : wb (cls ei.k); rfl; exact (no (h4 hw) ht).elim)
  have kT : tt (cls ej.k) = true → Si.toks = S.toks := fun ht => li.keepT (by cases hw : wt (cls ei.k); rfl; exact (no (h6 hw) ht).elim)
  have hj' := lj.look S (fun h => (kB h).symm) (fun h => (kT h).symm)
  refine eop1_iff.2 ⟨u, _, hj', ?_⟩
  have hi' := li.look ⟨if wb (cls ej.k) then Sj.boxes else S.boxes, if wt (cls ej.k) then Sj.toks else S.toks⟩
    (fun h => by cases hw : wb (cls ej.k); simp; exact (no (h5 hw) h).elim) (fun h => by cases hw : wt (cls ej.k); simp; exact (no (h7 hw) h).elim)
  refine ⟨_, (YE_put h3).2 hi', ?_⟩
  have hfin : (⟨if wb (cls ei.k) then Si.boxes else (if wb (cls ej.k) then Sj.boxes else S.boxes), if wt (cls ei.k) then Si.toks else (if wt (cls ej.k) then Sj.toks else S.toks)⟩ : St) = Sj := by
    refine St.eq_of ?_ ?_
    · cases wi : wb (cls ei.k) <;> cases wj : wb (cls ej.k)
      · simp; rw [lj.keepB wj, li.keepB wi]
      · simp
      · simp; exact (lj.keepB wj).symm
      · exact (no (h4 wi) (wb_tb wj)).elim
    · cases wi : wt (cls ei.k) <;> cases wj : wt (cls ej.k)
      · simp; rw [lj.keepT wj, li.keepT wi]
      · simp
      · simp; exact (lj.keepT wj).symm
      · exact (no (h6 wi) (wt_tt wj)).elim
  rw [hfin]
  exact hK

def eAny (P : Program) (ops : Array Oper) (es : List EO) (Q : Fr → St → Prop) : Nat → Array Bool → Fr → St → Prop
  | 0, listed, a, S => Region.ready .any ops listed = [] ∧ Q a S
  | fuel + 1, listed, a, S =>
    (Region.ready .any ops listed = [] → Q a S) ∧
    ∀ i ∈ Region.ready .any ops listed, ∀ e, es[i]? = some e → eop1 P true e (eAny P ops es Q fuel (listed.setIfInBounds i true)) a S

theorem eop1_mono {dr : Bool} {e : EO} {K K' : Fr → St → Prop} (h : ∀ a S, K a S → K' a S) {a : Fr} {S : St} (hk : eop1 P true e K a S) : eop1 P true e K' a S := by
  obtain ⟨v, S', h1, h2⟩ := eop1_iff.1 hk
  exact eop1_iff.2 ⟨v, S', h1, h _ _ h2⟩

theorem eAny_first {ops : Array Oper} {es : List EO} {Q : Fr → St → Prop} {i : Nat} {ei : EO} {v : V} (hi : es[i]? = some ei) :
    ∀ (fuel : Nat) (listed : Array Bool) (a : Fr) (S S' : St),
      (∀ j oj ej, ops[j]? = some oj → es[j]? = some ej → j ≠ i → listed.getD j true = false → (∀ e ∈ oj.after, Region.binds .any e = true → e.on ≠ i) → apartE ei ej = true) →
      i ∈ Region.ready .any ops listed → YE P ei v S' a S → eAny P ops es Q fuel (listed.setIfInBounds i true) (putF a ei.d v) S' → eAny P ops es Q (fuel + 1) listed a S := by
  intro fuel
  induction fuel with
  | zero =>
    intro listed a S S' _ hr hy H
    refine ⟨fun h => (by rw [h] at hr; cases hr), fun j hj e he => ?_⟩
    by_cases hji : j = i
    · subst hji
      rw [hi] at he; cases he
      exact eop1_iff.2 ⟨v, S', hy, H⟩
    · have := ready_mono hj hji
      rw [H.1] at this
      cases this
  | succ fuel ih =>
    intro listed a S S' hfree hr hy H
    refine ⟨fun h => (by rw [h] at hr; cases hr), fun j hj e he => ?_⟩
    by_cases hji : j = i
    · subst hji
      rw [hi] at he; cases he
      exact eop1_iff.2 ⟨v, S', hy, H⟩
    · have h1 := H.2 j (ready_mono hj hji) e he
      obtain ⟨hjun, oj, hoj, hall⟩ := mem_ready.1 hj
      have hnot : ∀ e ∈ oj.after, Region.binds .any e = true → e.on ≠ i := fun e he hb heq => by
        have h1 := hall e he hb
        have h0 := (mem_ready.1 hr).1
        rw [heq] at h1
        rcases Nat.lt_or_ge i listed.size with h' | h'
        · simp [h'] at h0 h1; rw [h0] at h1; cases h1
        · simp [Array.getElem?_eq_none h'] at h1
      have h2 := commuteE (hfree j oj e hoj he hji hjun hnot) hy h1
      have hfree' : ∀ k ok ek, ops[k]? = some ok → es[k]? = some ek → k ≠ i → (listed.setIfInBounds j true).getD k true = false → (∀ e ∈ ok.after, Region.binds .any e = true → e.on ≠ i) → apartE ei ek = true := fun k ok ek hk hek hki hun hno => by
        refine hfree k ok ek hk hek hki ?_ hno
        by_cases hjk : j = k
        · subst hjk; exact hjun
        · rw [getD_set_ne true hjk] at hun; exact hun
      refine eop1_mono (dr := true) (fun a' S1 h3 => ?_) h2
      obtain ⟨Si', y1, y2⟩ := h3
      refine ih (listed.setIfInBounds j true) a' S1 Si' hfree' (ready_mono hr (Ne.symm hji)) y1 ?_
      rw [Array.setIfInBounds_comm _ _ hji]
      exact y2

def freeE (ops : Array Oper) (es : List EO) (listed : Array Bool) (i : Nat) : Bool :=
  match es[i]? with
  | none => false
  | some ei => (List.range ops.size).all fun j => j == i || listed.getD j true || match ops[j]?, es[j]? with
      | some oj, some ej => oj.after.any (fun e => Region.binds .any e && e.on == i) || apartE ei ej
      | _, _ => true

theorem freeE_spec {ops : Array Oper} {es : List EO} {i : Nat} {ei : EO} {listed : Array Bool} (hi : es[i]? = some ei) (h : freeE ops es listed i = true) (j : Nat) (oj : Oper) (ej : EO) (hj : ops[j]? = some oj) (hej : es[j]? = some ej)
    (hne : j ≠ i) (hun : listed.getD j true = false) (hno : ∀ e ∈ oj.after, Region.binds .any e = true → e.on ≠ i) : apartE ei ej = true := by
  simp only [freeE, hi, List.all_eq_true, List.mem_range] at h
  have h1 := h j (Array.getElem?_eq_some_iff.1 hj).1
  simp only [hj, hej, Bool.or_eq_true, beq_iff_eq, hne, false_or, hun, Bool.false_eq_true] at h1
  rcases h1 with h1 | h1
  · rw [← Array.any_toList, List.any_eq_true] at h1
    obtain ⟨e, he, hb⟩ := h1
    simp only [Bool.and_eq_true, beq_iff_eq] at hb
    exact absurd hb.2 (hno e (by simpa using he) hb.1)
  · exact h1

def lexE (ops : Array Oper) (es : List EO) : Nat → Nat → Array Bool → Bool
  | 0, _, listed => (Region.ready .any ops listed).isEmpty
  | fuel + 1, k, listed => (Region.ready .any ops listed).contains k && freeE ops es listed k && lexE ops es fuel (k + 1) (listed.setIfInBounds k true)

theorem eAny_lex {ops : Array Oper} {es : List EO} {Q : Fr → St → Prop} : ∀ (l : List EO) (k : Nat) (listed : Array Bool) (a : Fr) (S : St), (∀ j, l[j]? = es[k + j]?) → lexE ops es l.length k listed = true → ewpOps P true l Q a S → eAny P ops es Q l.length listed a S
  | [], k, listed, a, S, _, hB, h => ⟨by simpa [lexE] using hB, h⟩
  | e :: l, k, listed, a, S, hl, hB, h => by
    have h0 : es[k]? = some e := by simpa using (hl 0).symm
    simp only [List.length_cons, lexE, Bool.and_eq_true] at hB
    obtain ⟨⟨hr, hf⟩, hB'⟩ := hB
    obtain ⟨v, S', hy, hK⟩ := eop1_iff.1 h
    exact eAny_first h0 l.length listed a S S' (freeE_spec h0 hf) (by simpa using hr) hy
      (eAny_lex l (k + 1) _ _ _ (fun j => by have := hl (j + 1); simpa [Nat.add_assoc, Nat.add_comm 1 j] using this) hB' hK)

theorem wpAny_of_eAny {N nb nt : Nat} {ops : Array Oper} {es : List EO} (hd : ∀ (i : Nat) (o : Oper), ops[i]? = some o → ∀ k, o.dst = some k → k < N) (hes : ∀ (i : Nat) (o : Oper), ops[i]? = some o → ∃ e, es[i]? = some e ∧ eopOf P ops o = some e) :
    ∀ (fuel : Nat) (listed : Array Bool) {g : Gh} {a : Fr} {S : St} {act : Act} {w : World} {Q : Fr → St → Prop} {Q' : Exit → Act → World → Prop}, Conc N g a S act w → nb ≤ S.boxes.length → nt ≤ S.toks.length → eAny P ops es Q fuel listed a S →
      (∀ act' w', Behind N nb nt g S w Q act' w' → Q' .normal act' w') → wpAny P .any ops Q' fuel listed act w
  | 0, listed, g, a, S, act, w, Q, Q', hC, hb, ht, h, hQ => ⟨h.1, hQ _ _ (Behind.conc hC hb ht h.2)⟩
  | fuel + 1, listed, g, a, S, act, w, Q, Q', hC, hb, ht, h, hQ => by
    refine ⟨fun h0 => hQ _ _ (Behind.conc hC hb ht (h.1 h0)), fun i hi => ?_⟩
    obtain ⟨_, o, ho, _⟩ := mem_ready.1 hi
    obtain ⟨e, he, hoe⟩ := hes i o ho
    refine wpOp_mono (fun act' w' hbh => ?_) (op_sound (nb := nb) (nt := nt) ho hoe (hd i o ho) hC hb ht (h.2 i hi e he))
    obtain ⟨a', S', g', hn, hC', hm⟩ := hbh
    exact wpAny_of_eAny hd hes fuel _ hC' hm.nb hm.nt hn (fun act'' w'' hb'' => hQ _ _ (Behind.trans hm hb''))

end
end E
end Go.Proofs.Ythfnaaeddlnckaa
