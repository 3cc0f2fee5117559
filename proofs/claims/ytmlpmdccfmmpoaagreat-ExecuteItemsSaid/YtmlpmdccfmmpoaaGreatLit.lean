/- Chapter 35: results that stay in buffers; items turned; the reference's Valid and Same; the law ExecuteItems. -/
import Derived.Test.YtmlpmdccfmmpoaaGreatLba
import Derived.Test.YtmlpmdccfmmpoaaGreatCodeM
import Derived.Test.YtmlpmdccfmmpoaaGreatExS
set_option linter.unusedVariables false
namespace Go.Proofs.YtmlpmdccfmmpoaaGreat
namespace E
def FinU (rvs : List RV) (nb nt : Nat) (r : V) (S' : St) (e : Ex) (a : Fr) (S1 : St) : Prop :=
 (match e with | .ex _ => False | .pn _ => False | _ => True) ∧ (nb ≤ S'.boxes.length ∧ nt ≤ S'.toks.length) ∧
 match rvVs a S1 rvs with
 | some vs => leS S1 S' ∧ leV (packV vs) r ∧ okN S'.boxes.length S'.toks.length r = true
 | none => False
attribute [simp] FinU
theorem fin_retU {P : Program} {fn : Func} {rs : List RV} {g g0 : Gh} {S S1 S' : St} {w w' : World} {a' : Fr} {act' : Act} {N : Nat} {Df : List Deferred} {x : Ex} {r : V} (hI : Inv g S w) (hr : rvsOf P fn.results.toList = some rs)
  (hfinK : FinU rs S.boxes.length S.toks.length r S' x a' S1) (hC' : Conc N Df g0 a' S1 act' w') (hm0 : Mv0 S.boxes.length S.toks.length g S w g0 S1 w') :
  ∃ v, (results fn act'.tmps).run P w' = .ok v w' ∧ ∃ u g', Ending.returned v = .returned u ∧ RelV g' S'.toks r u ∧ Mv g S w g' S' w' := by
 obtain ⟨hx, hcnt, hfin⟩ := hfinK
 split at hfin
 ·rename_i rvals hrv
  obtain ⟨hle, hl, hok⟩ := hfin
  obtain ⟨u, hu, hur⟩ := results_run (P := P) (fn := fn) hC' hr hrv
  refine ⟨u, hu, u, trunc g0 S'.boxes.length S'.toks.length, rfl, ?_, hm0.mv hI hC'.inv hle hcnt⟩
  have := (leV_rel hur hl).trunc hok
  rw [← hle.2.eq.2] at this
  exact this
 ·exact hfin.elim
theorem FnS.of_ewpU {P : Program} {fl wl : Bool} (hmix : P.follows .mixedOrders = true) {f : Nat} {fn : Func} {code : Go.Code} {c : EC} {rs : List RV} {vs : List V} {S S' : St} {r : V} (hE : Enters P f) (hf : P.funcs[f]? = some fn) (hb : fn.body = some code)
  {N : Nat} (hN : fn.ntmps = N) (hc : ecOf P fl wl N code = some c) (hr : rvsOf P fn.results.toList = some rs) (hlen : vs.length ≤ N)
  (h : ewp P S.boxes.length S.toks.length c (FinU rs S.boxes.length S.toks.length r S') (fr0 vs) S) : FnS P f vs S r S' := by
 refine ⟨hE, fun g w us hI hus hrel => ?_⟩
 subst hN
 refine calls_of_wp hf hb ?_
 refine wp_mono (ewp_sound hmix code c hc (Conc.start hI hus hrel hlen) (Nat.le_refl _) (Nat.le_refl _) h) ?_
 rintro e act' w' ⟨x, a', S1, g0, hex, hfin, hC', hm0⟩
 have hres := fin_retU (P := P) (fn := fn) hI hr hfin hC' hm0
 cases x with
 | nx => subst hex; exact ⟨hC'.defers, hres⟩
 | rt => subst hex; exact ⟨hC'.defers, hres⟩
 | ex id => exact hfin.1.elim
 | pn v => exact hfin.1.elim
theorem FnS.of_codeU {P : Program} (hmix : P.follows .mixedOrders = true) {f N : Nat} {c : EC} {rs : List RV} {vs : List V} {S S' : St} {r : V} {fl wl : Bool} (hE : Enters P f) (hc : ecG fl wl P f = some (N, c, rs)) (hlen : vs.length ≤ N)
  (h : bdVs vs → ewp P S.boxes.length S.toks.length c (FinU rs S.boxes.length S.toks.length r S') (fr0 vs) S) : FnS P f vs S r S' := FnS.of_bd hE fun hb' => by
 have h := h hb'
 unfold ecG at hc
 split at hc
 ·rename_i fn hf
  split at hc
  ·rename_i code hb
   split at hc
   ·rename_i c' rs' h1 h2
    simp only [Option.some.injEq, Prod.mk.injEq] at hc
    obtain ⟨rfl, rfl, rfl⟩ := hc
    exact FnS.of_ewpU hmix hE hf hb rfl h1 h2 hlen h
   ·cases hc
  ·cases hc
 ·cases hc
theorem FnS.of_codeUB {P : Program} (hmix : P.follows .mixedOrders = true) {f N : Nat} {c : EC} {rs : List RV} {vs : List V} {S S' : St} {r : V} (hE : Enters P f) (hc : ecB P f = some (N, c, rs)) (hlen : vs.length ≤ N)
  (h : bdVs vs → ewp P S.boxes.length S.toks.length c (FinU rs S.boxes.length S.toks.length r S') (fr0 vs) S) : FnS P f vs S r S' := FnS.of_codeU hmix hE hc hlen h
end E
end Go.Proofs.YtmlpmdccfmmpoaaGreat
set_option linter.unusedSimpArgs false
set_option linter.unusedVariables false
namespace Go.Proofs.YtmlpmdccfmmpoaaGreat
open E
theorem readN_app (a b : List Item) (f t : Int) (any : Bool) (p : Int) : readN (a ++ b) f t any p = readN a f t any p + readN b f t any p := by
 unfold readN; rw [List.map_append, List.sum_append]
structure Alike (a b : Src) : Prop where
 ent : a.ent = b.ent
 full : a.full = b.full
 num : a.num = b.num
 den : a.den = b.den
 rd : ∀ f t any p, readN a.items f t any p = readN b.items f t any p
theorem valX_alike {a b : Src} (h : Alike a b) (oth : Int) (x : Ins) (st loc : List Int) : valX a oth x st loc = valX b oth x st loc := by
 unfold valX scaleS
 simp only [h.rd, h.num, h.den]
theorem execR_alike {a b : Src} (h : Alike a b) (oth : Int) : ∀ (l : List Ins) (st loc : List Int) (ps : List Part), execR a oth l st loc ps = execR b oth l st loc ps
 | [], _, _, _ => rfl
 | x :: l, st, loc, ps => by simp only [execR, valX_alike h, execR_alike h oth l]
theorem instR_alike {a b : Src} (h : Alike a b) (c : Code) (oth rule : Int) : instR c a oth rule = instR c b oth rule := by
 unfold instR postR
 rw [execR_alike h, h.ent]
theorem runR_alike (c : List Code) {i : Nat} {l : List Src} {a b : Src} (h : Alike a b) (ha : l[i]? = some a) : runR c (l.set i b) = runR c l := by
 obtain ⟨hi, he⟩ := List.getElem?_eq_some_iff.1 ha
 have e0 : l = l.take i ++ a :: l.drop (i + 1) := by rw [← he, ← List.drop_eq_getElem_cons hi, List.take_append_drop]
 have e1 : l.set i b = l.take i ++ b :: l.drop (i + 1) := by rw [List.set_eq_take_append_cons_drop, if_pos hi]
 generalize hx : l.take i = x at *
 generalize hy : l.drop (i + 1) = y at *
 rw [e1]
 clear e1 hx hy
 rw [e0]
 clear e0 ha he hi
 have ho : ∀ pair (s t : Src), s.ent = t.ent → othersR (x ++ b :: y) pair s = othersR (x ++ a :: y) pair t := fun pair s t hst => by
  unfold othersR
  simp only [List.filter_append, List.filter_cons, h.full, h.ent, hst]
  by_cases hq : (b.full && b.ent != t.ent) = true
  ·simp [hq, h.ent]
  ·simp [hq]
 have hin : ∀ (r : Bool × (Src → Int → Option Posting)), (∀ o, r.2 a o = r.2 b o) → (instsR (x ++ b :: y) r.1).map (fun z => r.2 z.1 z.2) = (instsR (x ++ a :: y) r.1).map (fun z => r.2 z.1 z.2) := fun r hr => by
  unfold instsR
  have e : ∀ (s : Src), othersR (x ++ b :: y) r.1 s = othersR (x ++ a :: y) r.1 s := fun s => ho r.1 s s rfl
  simp only [List.filter_append, List.filter_cons, h.full, e]
  by_cases hq : b.full = true
  ·have e2 : othersR (x ++ a :: y) r.1 b = othersR (x ++ a :: y) r.1 a := by rw [← e, ho r.1 b a h.ent.symm]
   simp only [hq, if_true, List.flatMap_append, List.flatMap_cons, List.map_append, e2]
   congr 2
   simp [hr]
  ·simp [hq]
 unfold runR allR
 congr 1
 have : ∀ (rs : List (Bool × (Src → Int → Option Posting))), (∀ r ∈ rs, ∀ o, r.2 a o = r.2 b o) → rs.flatMap (fun r => (instsR (x ++ b :: y) r.1).map fun z => r.2 z.1 z.2) = rs.flatMap (fun r => (instsR (x ++ a :: y) r.1).map fun z => r.2 z.1 z.2) := fun rs hrs => by
  induction rs with
  | nil => rfl
  | cons r rs ih =>
   rw [List.flatMap_cons, List.flatMap_cons, ih fun r' h' => hrs r' (by simp [h']), hin r (hrs r (by simp))]
 apply this
 intro r hr o
 obtain ⟨z, _, rfl⟩ := List.mem_map.1 hr
 exact instR_alike h _ _ _
def splitI (x : Item) : List Item := [{ x with amt := x.amt.tdiv 3 }, { x with amt := x.amt - x.amt.tdiv 3 }]
theorem readN_split (x : Item) (f t : Int) (any : Bool) (p : Int) : readN (splitI x) f t any p = readN [x] f t any p := by
 unfold readN splitI
 simp only [List.map_cons, List.map_nil, List.sum_cons, List.sum_nil]
 by_cases h : f ≤ x.acc ∧ x.acc ≤ t ∧ (any = true ∨ x.par = p)
 ·simp only [if_pos h]; omega
 ·simp only [if_neg h]; rfl
def turnI (k : Nat) (l : List Item) : List Item := (l.zipIdx.map fun z => if z.2 = k then splitI z.1 else [z.1]).reverse.flatten
theorem readN_turn (k : Nat) (l : List Item) (f t : Int) (any : Bool) (p : Int) : readN (turnI k l) f t any p = readN l f t any p := by
 unfold turnI
 have h1 : ∀ (ls : List (List Item)), readN ls.reverse.flatten f t any p = readN ls.flatten f t any p := fun ls => by
  induction ls with
  | nil => rfl
  | cons a ls ih => simp only [List.reverse_cons, List.flatten_append, List.flatten_cons, List.flatten_nil, List.append_nil, readN_app, ih]; omega
 have h2 : ∀ (l : List Item) (n : Nat), readN ((l.zipIdx n).map fun z => if z.2 = k then splitI z.1 else [z.1]).flatten f t any p = readN l f t any p := by
  intro l
  induction l with
  | nil => intro n; rfl
  | cons x l ih =>
   intro n
   rw [List.zipIdx_cons, List.map_cons, List.flatten_cons, readN_app, ih]
   have e : x :: l = [x] ++ l := rfl
   rw [e, readN_app]
   congr 1
   split
   ·exact readN_split x f t any p
   ·rfl
 rw [h1, h2]
end Go.Proofs.YtmlpmdccfmmpoaaGreat
set_option linter.unusedSimpArgs false
set_option linter.unusedVariables false
set_option maxHeartbeats 4000000
set_option maxRecDepth 8000
namespace Go.Proofs.YtmlpmdccfmmpoaaGreat
open E

theorem w_rsamep (l : List Posting) (hl : ∀ p ∈ l, p.parts.length ≤ 1000000) : Pure Tryz.prog 14 [Posting.l l, Posting.l l] (vB true) := by
 (refine Pure.of_code mix Tryz.call14 k_14 (by simp) (fun hB => ?_); (try simp at hB); (try simp -implicitDefEqProofs [c_tallystoneref35_Same_14]))
 simp only [maxLen] at hB
 refine loop_rule (X := Nat) (fun k => k ≤ l.length) (fun k => [(0, Posting.l l), (1, Posting.l l), (5, vI k)]) (fun _ => ⟨[], []⟩) (fun k => l.length - k) 0 (by omega) (by simp) ?_
 rintro k hk hbd
 clear hbd
 rcases Nat.lt_or_ge k l.length with h | h
 ·obtain ⟨p, hp⟩ := get_of_lt h
  have e3 : IntKind.i64.wrap ((k : Int) + 1) = (k : Int) + 1 := wrap64 (by omega) (by omega)
  have hpc : (l.map Posting.c)[k]? = some p.c := by simp [hp]
  have hpc' : ∀ h, (l.map Posting.c)[k]'h = p.c := fun h => by rw [List.getElem?_eq_getElem h] at hpc; exact Option.some.inj hpc
  have hpl := hl p (List.mem_of_getElem? hp)
  obtain ⟨kd, en, ot, ru, ps⟩ := p
  simp only [] at hpl
  have hfin : ∃ z' : Nat, z' ≤ l.length ∧ l.length - z' < l.length - k ∧ (z' : Int) = (k : Int) + 1 := ⟨k + 1, by omega, by omega, by push_cast; rfl⟩
  ((try simp -implicitDefEqProofs [h, hpc, hpc', Posting.c]); repeat' first | ((with_reducible first | apply gdK_em | apply cdK_em | apply pickK_em) <;> (intro hc; have hc' := hc; (try simp at hc'); simp -implicitDefEqProofs [hc, hc', h, hpc, hpc', Posting.c])))
  refine loop_rule (X := Nat) (fun j => j ≤ ps.length) (fun j => [(0, Posting.l l), (1, Posting.l l), (5, vI k), (6, vI j)]) (fun _ => ⟨[], []⟩) (fun j => ps.length - j) 0 (by omega) (by simp) ?_
  rintro j hj hbd
  clear hbd
  rcases Nat.lt_or_ge j ps.length with h2 | h2
  ·obtain ⟨x, hx⟩ := get_of_lt h2
   have e4 : IntKind.i64.wrap ((j : Int) + 1) = (j : Int) + 1 := wrap64 (by omega) (by omega)
   have hxc : (ps.map Part.c)[j]? = some x.c := by simp [hx]
   have hxc' : ∀ h, (ps.map Part.c)[j]'h = x.c := fun h => by rw [List.getElem?_eq_getElem h] at hxc; exact Option.some.inj hxc
   obtain ⟨ac, am⟩ := x
   have hfin2 : ∃ z' : Nat, z' ≤ ps.length ∧ ps.length - z' < ps.length - j ∧ (z' : Int) = (j : Int) + 1 := ⟨j + 1, by omega, by omega, by push_cast; rfl⟩
   ((try simp -implicitDefEqProofs [h, hpc, hpc', Posting.c, h2, hxc, hxc', Part.c, e4]); repeat' first | ((with_reducible first | apply gdK_em | apply cdK_em | apply pickK_em) <;> (intro hc; have hc' := hc; (try simp at hc'); simp -implicitDefEqProofs [hc, hc', h, hpc, hpc', Posting.c, h2, hxc, hxc', Part.c, e4])))
   exact hfin2
  ·have : j = ps.length := by omega
   subst this
   ((try simp -implicitDefEqProofs [h, hpc, hpc', Posting.c, e3]); repeat' first | ((with_reducible first | apply gdK_em | apply cdK_em | apply pickK_em) <;> (intro hc; have hc' := hc; (try simp at hc'); simp -implicitDefEqProofs [hc, hc', h, hpc, hpc', Posting.c, e3])))
   exact hfin
 ·have : k = l.length := by omega
  subst this
  ((try simp -implicitDefEqProofs); repeat' first | ((with_reducible first | apply gdK_em | apply cdK_em | apply pickK_em) <;> (intro hc; have hc' := hc; (try simp at hc'); simp -implicitDefEqProofs [hc, hc'])))
theorem w_rvalid35 (l : List Src) (hl : l.length ≤ 1000000) (hi : ∀ s ∈ l, s.items.length ≤ 1000000) : Pure Tryz.prog 16 [Src.ql l] (vB (srcOk l)) := by
 obtain ⟨R, hR⟩ : ∃ R, R = srcOk l := ⟨_, rfl⟩
 rw [← hR]
 have hok := srcOk_bad l
 rw [← hR] at hok
 (refine Pure.of_code mix Tryz.call16 k_16 (by simp) (fun hB => ?_); (try simp at hB); (try simp -implicitDefEqProofs [c_tallystoneref35_Valid_16]))
 ((try simp -implicitDefEqProofs); repeat' first | ((with_reducible first | apply gdK_em | apply cdK_em | apply pickK_em) <;> (intro hc; have hc' := hc; (try simp at hc'); simp -implicitDefEqProofs [hc, hc'])))
 refine loop_rule (X := Nat) (fun k => k ≤ l.length ∧ ∀ j, j < k → badS l j (l.getD j ⟨0, false, 0, 0, []⟩) = false) (fun k => [(0, Src.ql l), (3, vI k)]) (fun _ => ⟨[], []⟩) (fun k => l.length - k) 0 ⟨by omega, fun j h => by omega⟩ ?hs ?_
 case hs => simp [Src.ql, okN]
 rintro k ⟨hk, hb⟩ hbd
 clear hbd
 have e3 : IntKind.i64.wrap ((k : Int) + 1) = (k : Int) + 1 := wrap64 (by omega) (by omega)
 have e4 : IntKind.i64.wrap ((k : Int) - 1) = (k : Int) - 1 := wrap64 (by omega) (by omega)
 rcases Nat.lt_or_ge k l.length with h | h
 ·obtain ⟨s, hs⟩ := get_of_lt h
  have hgd : l.getD k ⟨0, false, 0, 0, []⟩ = s := by rw [List.getD_eq_getElem?_getD, hs]; rfl
  have hsc : (l.map Src.q)[k]? = some s.q := by simp [hs]
  have hsc' : ∀ h, (l.map Src.q)[k]'h = s.q := fun h => by rw [List.getElem?_eq_getElem h] at hsc; exact Option.some.inj hsc
  have hcc : s.q = [.int .i64 s.ent, .bool s.full, .bool (nB s.num), .sl (qE s.num), .bool (nB s.den), .sl (qE s.den), .sl (s.items.map Item.c)] := rfl
  rw [hcc] at hsc hsc'
  have hil := hi s (List.mem_of_getElem? hs)
  have hfail : badS l k s = true → R = false := fun hq => by
   rw [hok, List.all_eq_false]
   exact ⟨k, List.mem_range.2 h, by rw [hgd, hq]; simp⟩
  have hnext : badS l k s = false → ∀ j, j < k + 1 → badS l j (l.getD j ⟨0, false, 0, 0, []⟩) = false := fun hq j hj => by
   rcases Nat.lt_or_ge j k with h1 | h1
   ·exact hb j h1
   ·have : j = k := by omega
    subst this; rw [hgd]; exact hq
  by_cases c1 : s.ent < 0
  ·have hf := hfail (by simp [badS, c1])
   rw [hf]
   ((try simp -implicitDefEqProofs [h, hsc, hsc', Src.ql, c1]); repeat' first | ((with_reducible first | apply gdK_em | apply cdK_em | apply pickK_em) <;> (intro hc; have hc' := hc; (try simp at hc'); simp -implicitDefEqProofs [hc, hc', h, hsc, hsc', Src.ql, c1])))
  by_cases c2 : 12 ≤ s.ent
  ·have hf := hfail (by simp [badS, c2])
   rw [hf]
   ((try simp -implicitDefEqProofs [h, hsc, hsc', Src.ql, c1, c2]); repeat' first | ((with_reducible first | apply gdK_em | apply cdK_em | apply pickK_em) <;> (intro hc; have hc' := hc; (try simp at hc'); simp -implicitDefEqProofs [hc, hc', h, hsc, hsc', Src.ql, c1, c2])))
  have hrest : badS l k s = ((decide (0 < k) && decide (s.ent ≤ (l.getD (k - 1) ⟨0, false, 0, 0, []⟩).ent)) || s.items.any fun x => !amtB x.amt) := by
   unfold badS
   have d1 : decide (s.ent < 0) = false := by simpa using c1
   have d2 : decide (12 ≤ s.ent) = false := by simpa using c2
   rw [d1, d2]; rfl
  rcases Nat.eq_zero_or_pos k with k0 | k0
  ·subst k0
   ((try simp -implicitDefEqProofs [h, hsc, hsc', Src.ql, c1, c2]); repeat' first | ((with_reducible first | apply gdK_em | apply cdK_em | apply pickK_em) <;> (intro hc; have hc' := hc; (try simp at hc'); simp -implicitDefEqProofs [hc, hc', h, hsc, hsc', Src.ql, c1, c2])))
   refine loop_rule (X := Nat) (fun j => j ≤ s.items.length ∧ ∀ y ∈ s.items.take j, amtB y.amt = true) (fun j => [(0, Src.ql l), (3, vI (0 : Int)), (4, vI j)]) (fun _ => ⟨[], []⟩) (fun j => s.items.length - j) 0 ⟨by omega, by simp⟩ (by simp [Src.ql, okN]) ?_
   rintro j ⟨hj, hjb⟩ hbd
   clear hbd
   rcases Nat.lt_or_ge j s.items.length with h2 | h2
   ·obtain ⟨x, hx⟩ := get_of_lt h2
    have e5 : IntKind.i64.wrap ((j : Int) + 1) = (j : Int) + 1 := wrap64 (by omega) (by omega)
    have hxc : (s.items.map Item.c)[j]? = some x.c := by simp [hx]
    have hxc' : ∀ h, (s.items.map Item.c)[j]'h = x.c := fun h => by rw [List.getElem?_eq_getElem h] at hxc; exact Option.some.inj hxc
    have ha := w_ramt x.amt
    cases hv : amtB x.amt
    ·rw [hv] at ha
     rw [hfail (by rw [hrest]; simp only [Bool.or_eq_true]; exact .inr (List.any_eq_true.2 ⟨x, List.mem_of_getElem? hx, by rw [hv]; rfl⟩))]
     obtain ⟨i1, i2, i3, i4, i5, i6, i7⟩ := x
     ((try simp at ha); (try simp -implicitDefEqProofs [h, hsc, hsc', Src.ql, h2, hxc, hxc', Item.c]); repeat' first | ((with_reducible first | apply gdK_em | apply cdK_em | apply pickK_em) <;> (intro hc; have hc' := hc; (try simp at hc'); simp -implicitDefEqProofs [hc, hc', h, hsc, hsc', Src.ql, h2, hxc, hxc', Item.c])) | (with_reducible apply callK_pure <;> first | (simp only [eras, era, eras_map]; first | with_reducible exact ha | simpa using ha) | (simp -implicitDefEqProofs [h, hsc, hsc', Src.ql, h2, hxc, hxc', Item.c])))
    ·rw [hv] at ha
     have hfin : ∃ z' : Nat, (z' ≤ s.items.length ∧ ∀ y ∈ s.items.take z', amtB y.amt = true) ∧ s.items.length - z' < s.items.length - j ∧ (z' : Int) = (j : Int) + 1 := by
      refine ⟨j + 1, ⟨by omega, fun y hy => ?_⟩, by omega, by push_cast; rfl⟩
      rw [take_next hx] at hy
      rcases List.mem_append.1 hy with h1 | h1
      ·exact hjb y h1
      ·simp at h1; subst h1; exact hv
     obtain ⟨i1, i2, i3, i4, i5, i6, i7⟩ := x
     ((try simp at ha); (try simp -implicitDefEqProofs [h, hsc, hsc', Src.ql, h2, hxc, hxc', Item.c, e5]); repeat' first | ((with_reducible first | apply gdK_em | apply cdK_em | apply pickK_em) <;> (intro hc; have hc' := hc; (try simp at hc'); simp -implicitDefEqProofs [hc, hc', h, hsc, hsc', Src.ql, h2, hxc, hxc', Item.c, e5])) | (with_reducible apply callK_pure <;> first | (simp only [eras, era, eras_map]; first | with_reducible exact ha | simpa using ha) | (simp -implicitDefEqProofs [h, hsc, hsc', Src.ql, h2, hxc, hxc', Item.c, e5])))
     exact hfin
   ·have hje : j = s.items.length := by omega
    subst hje
    rw [List.take_of_length_le (Nat.le_refl _)] at hjb
    have ha : (s.items.any fun x => !amtB x.amt) = false := by
     rw [List.any_eq_false]; intro y hy; simp [hjb y hy]
    have hn := hnext (by rw [hrest, ha]; rfl)
    have hfin : ∃ z' : Nat, (z' ≤ l.length ∧ ∀ j, j < z' → badS l j (l.getD j ⟨0, false, 0, 0, []⟩) = false) ∧ l.length - z' < l.length - (0 : Nat) ∧ (z' : Int) = ((0 : Nat) : Int) + 1 := ⟨(0 : Nat) + 1, ⟨by omega, hn⟩, by omega, by simp⟩
    ((try simp -implicitDefEqProofs [h, hsc, hsc', Src.ql, e3]); repeat' first | ((with_reducible first | apply gdK_em | apply cdK_em | apply pickK_em) <;> (intro hc; have hc' := hc; (try simp at hc'); simp -implicitDefEqProofs [hc, hc', h, hsc, hsc', Src.ql, e3])))
    simpa [List.getD_eq_getElem?_getD] using hfin
  ·obtain ⟨q, hq⟩ := get_of_lt (show k - 1 < l.length by omega)
   have hgq : l.getD (k - 1) ⟨0, false, 0, 0, []⟩ = q := by rw [List.getD_eq_getElem?_getD, hq]; rfl
   rw [hgq] at hrest
   have hqc : (l.map Src.q)[k - 1]? = some q.q := by simp [hq]
   have hqc' : ∀ h, (l.map Src.q)[k - 1]'h = q.q := fun h => by rw [List.getElem?_eq_getElem h] at hqc; exact Option.some.inj hqc
   have hqq : q.q = [.int .i64 q.ent, .bool q.full, .bool (nB q.num), .sl (qE q.num), .bool (nB q.den), .sl (qE q.den), .sl (q.items.map Item.c)] := rfl
   rw [hqq] at hqc hqc'
   have i1 : ((k : Int) - 1).toNat = k - 1 := by omega
   have j1 : (1 : Int) ≤ k := by omega
   have j2 : (k : Int) - 1 < l.length := by omega
   have d0 : decide (0 < k) = true := by simpa using k0
   rw [d0, Bool.true_and] at hrest
   by_cases c3 : s.ent ≤ q.ent
   ·rw [hfail (by rw [hrest]; simp [c3])]
    ((try simp -implicitDefEqProofs [h, hsc, hsc', hqc, hqc', Src.ql, c1, c2, k0, i1, j1, j2, e4, c3]); repeat' first | ((with_reducible first | apply gdK_em | apply cdK_em | apply pickK_em) <;> (intro hc; have hc' := hc; (try simp at hc'); simp -implicitDefEqProofs [hc, hc', h, hsc, hsc', hqc, hqc', Src.ql, c1, c2, k0, i1, j1, j2, e4, c3])))
   ·have d3 : decide (s.ent ≤ q.ent) = false := by simpa using c3
    rw [d3, Bool.false_or] at hrest
    ((try simp -implicitDefEqProofs [h, hsc, hsc', hqc, hqc', Src.ql, c1, c2, k0, i1, j1, j2, e4, c3]); repeat' first | ((with_reducible first | apply gdK_em | apply cdK_em | apply pickK_em) <;> (intro hc; have hc' := hc; (try simp at hc'); simp -implicitDefEqProofs [hc, hc', h, hsc, hsc', hqc, hqc', Src.ql, c1, c2, k0, i1, j1, j2, e4, c3])))
    refine loop_rule (X := Nat) (fun j => j ≤ s.items.length ∧ ∀ y ∈ s.items.take j, amtB y.amt = true) (fun j => [(0, Src.ql l), (3, vI k), (4, vI j)]) (fun _ => ⟨[], []⟩) (fun j => s.items.length - j) 0 ⟨by omega, by simp⟩ (by simp [Src.ql, okN]) ?_
    rintro j ⟨hj, hjb⟩ hbd
    clear hbd
    rcases Nat.lt_or_ge j s.items.length with h2 | h2
    ·obtain ⟨x, hx⟩ := get_of_lt h2
     have e5 : IntKind.i64.wrap ((j : Int) + 1) = (j : Int) + 1 := wrap64 (by omega) (by omega)
     have hxc : (s.items.map Item.c)[j]? = some x.c := by simp [hx]
     have hxc' : ∀ h, (s.items.map Item.c)[j]'h = x.c := fun h => by rw [List.getElem?_eq_getElem h] at hxc; exact Option.some.inj hxc
     have ha := w_ramt x.amt
     cases hv : amtB x.amt
     ·rw [hv] at ha
      rw [hfail (by rw [hrest]; exact List.any_eq_true.2 ⟨x, List.mem_of_getElem? hx, by rw [hv]; rfl⟩)]
      obtain ⟨i1, i2, i3, i4, i5, i6, i7⟩ := x
      ((try simp at ha); (try simp -implicitDefEqProofs [h, hsc, hsc', Src.ql, h2, hxc, hxc', Item.c]); repeat' first | ((with_reducible first | apply gdK_em | apply cdK_em | apply pickK_em) <;> (intro hc; have hc' := hc; (try simp at hc'); simp -implicitDefEqProofs [hc, hc', h, hsc, hsc', Src.ql, h2, hxc, hxc', Item.c])) | (with_reducible apply callK_pure <;> first | (simp only [eras, era, eras_map]; first | with_reducible exact ha | simpa using ha) | (simp -implicitDefEqProofs [h, hsc, hsc', Src.ql, h2, hxc, hxc', Item.c])))
     ·rw [hv] at ha
      have hfin : ∃ z' : Nat, (z' ≤ s.items.length ∧ ∀ y ∈ s.items.take z', amtB y.amt = true) ∧ s.items.length - z' < s.items.length - j ∧ (z' : Int) = (j : Int) + 1 := by
       refine ⟨j + 1, ⟨by omega, fun y hy => ?_⟩, by omega, by push_cast; rfl⟩
       rw [take_next hx] at hy
       rcases List.mem_append.1 hy with h1 | h1
       ·exact hjb y h1
       ·simp at h1; subst h1; exact hv
      obtain ⟨i1, i2, i3, i4, i5, i6, i7⟩ := x
      ((try simp at ha); (try simp -implicitDefEqProofs [h, hsc, hsc', Src.ql, h2, hxc, hxc', Item.c, e5]); repeat' first | ((with_reducible first | apply gdK_em | apply cdK_em | apply pickK_em) <;> (intro hc; have hc' := hc; (try simp at hc'); simp -implicitDefEqProofs [hc, hc', h, hsc, hsc', Src.ql, h2, hxc, hxc', Item.c, e5])) | (with_reducible apply callK_pure <;> first | (simp only [eras, era, eras_map]; first | with_reducible exact ha | simpa using ha) | (simp -implicitDefEqProofs [h, hsc, hsc', Src.ql, h2, hxc, hxc', Item.c, e5])))
      exact hfin
    ·have hje : j = s.items.length := by omega
     subst hje
     rw [List.take_of_length_le (Nat.le_refl _)] at hjb
     have ha : (s.items.any fun x => !amtB x.amt) = false := by
      rw [List.any_eq_false]; intro y hy; simp [hjb y hy]
     have hn := hnext (by rw [hrest, ha])
     have hfin : ∃ z' : Nat, (z' ≤ l.length ∧ ∀ j, j < z' → badS l j (l.getD j ⟨0, false, 0, 0, []⟩) = false) ∧ l.length - z' < l.length - k ∧ (z' : Int) = (k : Int) + 1 := ⟨k + 1, ⟨by omega, hn⟩, by omega, by push_cast; rfl⟩
     ((try simp -implicitDefEqProofs [h, hsc, hsc', Src.ql, e3]); repeat' first | ((with_reducible first | apply gdK_em | apply cdK_em | apply pickK_em) <;> (intro hc; have hc' := hc; (try simp at hc'); simp -implicitDefEqProofs [hc, hc', h, hsc, hsc', Src.ql, e3])))
     simpa [List.getD_eq_getElem?_getD] using hfin
 ·have hkk : k = l.length := by omega
  subst hkk
  have hRt : R = true := by
   rw [hok]
   exact List.all_eq_true.2 fun j hj => by rw [hb j (List.mem_range.1 hj)]; rfl
  rw [hRt]
  ((try simp -implicitDefEqProofs [Src.ql]); repeat' first | ((with_reducible first | apply gdK_em | apply cdK_em | apply pickK_em) <;> (intro hc; have hc' := hc; (try simp at hc'); simp -implicitDefEqProofs [hc, hc', Src.ql])))
end Go.Proofs.YtmlpmdccfmmpoaaGreat
set_option linter.unusedSimpArgs false
set_option linter.unusedVariables false
set_option maxHeartbeats 4000000
set_option maxRecDepth 8000
namespace Go.Proofs.YtmlpmdccfmmpoaaGreat
open E

theorem leB_tb (n m : Nat) (e : TypeId) (z : Nat) (l : List T) : E.leB n m (.buf e z (l.map .t)) (.buf e z (l.map .t)) := ⟨rfl, rfl, LeL_refl _, okNs_map _ _ _⟩
theorem LeBs.dead {n m : Nat} : ∀ (D : List Bx), LeBs n m D (List.replicate D.length .dead)
 | [] => trivial
 | x :: D => ⟨trivial, LeBs.dead D⟩
theorem LeBs.append {n m : Nat} : ∀ {A A' l l' : List Bx}, LeBs n m A A' → LeBs n m l l' → A.length = A'.length → LeBs n m (A ++ l) (A' ++ l')
 | [], [], _, _, _, h, _ => h
 | a :: A, b :: B, l, l', h, h2, hl => ⟨h.1, LeBs.append h.2 h2 (by simpa using hl)⟩
def bufS (l : List Src) : Bx := .buf 58 7 ((l.flatMap Src.c).map .t)
def bufQ (l : List Src) : Bx := .buf 89 7 ((l.flatMap Src.q).map .t)
theorem bufS_le (l : List Src) (n m : Nat) : E.leB n m (bufS l) (bufS l) := leB_tb n m _ _ _
theorem bufQ_le (l : List Src) (n m : Nat) : E.leB n m (bufQ l) (bufQ l) := leB_tb n m _ _ _
def souB (B D : List Bx) (l : List Src) : List Bx := if l = [] then B else B ++ D ++ [bufS l, bufQ l]
def souV (B D : List Bx) (j k : Nat) : V := if k = 0 then .snil else .bw (B.length + D.length + j) k
theorem srcs_len (l : List Src) : (l.flatMap Src.c).length = l.length * 7 ∧ (l.flatMap Src.q).length = l.length * 7 := by
 induction l with
 | nil => exact ⟨rfl, rfl⟩
 | cons x l ih => simp only [List.flatMap_cons, List.length_append, ih.1, ih.2, List.length_cons, Nat.succ_mul, show x.c.length = 7 from rfl, show x.q.length = 7 from rfl]; omega
theorem w_sourcesB (l : List Sou) (B : List Bx) (hU : OkU B) (hl0 : l ≠ []) (hl : l.length ≤ 1000) (hw : ∀ x ∈ l, x.wf) : FnS Tryz.prog 10 [Sou.l l] ⟨B, []⟩ (.tup [.bw (B.length + (3 * l.length - 2)) l.length, .bw (B.length + (3 * l.length - 2) + 1) l.length])
  ⟨B ++ List.replicate (3 * l.length - 2) .dead ++ [bufS (l.map Sou.src), bufQ (l.map Sou.src)], []⟩ := by
 have hsrc : ∀ x : Sou, Src.c x.src = [.int .i64 x.ent, .bool x.full, .bool (nB (lowN x.sh 10000)), .sl (pE (lowN x.sh 10000)), .bool (nB (lowD x.sh 10000)), .sl (pE (lowD x.sh 10000)), .sl (x.items.map Item.c)] := fun _ => rfl
 obtain ⟨L, hL⟩ : ∃ L, L = l.map Sou.src := ⟨_, rfl⟩
 have hLl : L.length = l.length := by rw [hL]; simp
 rw [← hL]
 (refine FnS.of_codeUB mix Tryz.call10 kb_10 (by simp) (fun hB => ?_); (try simp at hB); (try simp -implicitDefEqProofs [b_tallystonelaw35_sources_10]))
 refine loop_rule (X := Nat × List Bx) (fun X => X.1 ≤ l.length ∧ OkU (B ++ X.2) ∧ X.2.length = 3 * X.1 - 2)
  (fun X => [(0, Sou.l l), (4, souV B X.2 0 X.1), (5, souV B X.2 1 X.1), (6, vI X.1)])
  (fun X => ⟨souB B X.2 (L.take X.1), []⟩) (fun X => l.length - X.1) (0, []) ⟨by simp, by simpa using hU, rfl⟩ (by simp [souB, souV]; exact hU _ _ (by omega)) ?_
 rintro ⟨k, D⟩ ⟨hk, hD, hDl⟩ hbd
 simp only [] at hk hD hDl
 clear hbd
 rcases Nat.lt_or_ge k l.length with h | h
 ·obtain ⟨x, hx⟩ := get_of_lt h
  have e3 : IntKind.i64.wrap ((k : Int) + 1) = (k : Int) + 1 := wrap64 (by omega) (by omega)
  have hxw := hw x (List.mem_of_getElem? hx)
  have r1 := take_next (l := L) (k := k) (x := x.src) (by rw [hL]; simp [hx])
  have l1 : (L.take k).length = k := by simp; omega
  obtain ⟨f1, f2⟩ := srcs_len (L.take k)
  rw [l1] at f1 f2
  generalize L.take k = A at *
  have hxc : (l.map Sou.c)[k]? = some x.c := by simp [hx]
  have hxc' : ∀ h, (l.map Sou.c)[k]'h = x.c := fun h => by rw [List.getElem?_eq_getElem h] at hxc; exact Option.some.inj hxc
  obtain ⟨ent, full, sh, items⟩ := x
  unfold Sou.wf at hxw
  simp only [] at hxw
  have w1 := w_ROf (n := sh) (d := 10000) (by omega) (by omega) (by decide) (by decide)
  have w2 := w_rShare (n := sh) (by omega) (by omega)
  obtain ⟨s, hs⟩ : ∃ s : Src, s = Sou.src ⟨ent, full, sh, items⟩ := ⟨_, rfl⟩
  rw [← hs] at r1
  have sc : s.c = [.int .i64 ent, .bool full, .bool (nB (lowN sh 10000)), .sl (pE (lowN sh 10000)), .bool (nB (lowD sh 10000)), .sl (pE (lowD sh 10000)), .sl (items.map Item.c)] := by rw [hs]; rfl
  have sq : s.q = [.int .i64 ent, .bool full, .bool (nB (lowN sh 10000)), .sl (qE (lowN sh 10000)), .bool (nB (lowD sh 10000)), .sl (qE (lowD sh 10000)), .sl (items.map Item.c)] := by rw [hs]; rfl
  unfold rV at w1
  unfold sV at w2
  generalize lowN sh 10000 = N at *
  generalize lowD sh 10000 = Dn at *
  have hbs : ∀ A : List Src, bufS (A ++ [s]) = .buf 58 7 ((A.flatMap Src.c).map .t ++ [.t (.int .i64 ent), .t (.bool full), .t (.bool (nB N)), .t (.sl (pE N)), .t (.bool (nB Dn)), .t (.sl (pE Dn)), .t (.sl (items.map Item.c))]) := fun A => by
   unfold bufS; rw [List.flatMap_append]; simp [sc]
  have hbq : ∀ A : List Src, bufQ (A ++ [s]) = .buf 89 7 ((A.flatMap Src.q).map .t ++ [.t (.int .i64 ent), .t (.bool full), .t (.bool (nB N)), .t (.sl (qE N)), .t (.bool (nB Dn)), .t (.sl (qE Dn)), .t (.sl (items.map Item.c))]) := fun A => by
   unfold bufQ; rw [List.flatMap_append]; simp [sq]
  have e4 : IntKind.i64.wrap sh = sh := wrap64 (by omega) (by omega)
  have j1 : k ≤ 9223372036854775806 := by omega
  have j2 : (k + 1) * 104 ≤ 140737488355328 := by omega
  have hne : A ++ [s] ≠ [] := by simp
  rcases Nat.eq_zero_or_pos k with k0 | k0
  ·subst k0
   have hD0 : D = [] := List.eq_nil_of_length_eq_zero (by omega)
   subst hD0
   have gz : ∀ (l : List Bx), (B ++ l)[B.length]? = l[0]? := fun l => by rw [List.getElem?_append_right (by omega)]; simp
   have g1 : ∀ (l : List Bx) (j : Nat), (B ++ l)[B.length + j]? = l[j]? := fun l j => by rw [List.getElem?_append_right (by omega)]; simp
   have s0 : ∀ (l : List Bx) (v : Bx), (B ++ l).set B.length v = B ++ l.set 0 v := fun l v => by rw [List.set_append_right _ _ (by omega)]; simp
   have hA0 : A = [] := List.eq_nil_of_length_eq_zero l1
   subst hA0
   rw [show souB B [] [] = B from rfl, show souV B [] 0 0 = .snil from rfl, show souV B [] 1 0 = .snil from rfl]
   ((try simp at w1); (try simp at w2); (try simp -implicitDefEqProofs [h, hxc, hxc', Sou.c, e3, e4, maxLen, gz, g1, s0]); repeat' first | ((with_reducible first | apply gdK_em | apply cdK_em | apply pickK_em) <;> (intro hc; have hc' := hc; (try simp at hc'); simp -implicitDefEqProofs [hc, hc', h, hxc, hxc', Sou.c, e3, e4, maxLen, gz, g1, s0])) | (with_reducible apply callK_pure <;> first | (simp only [eras, era, eras_map]; first | with_reducible exact w1 | with_reducible exact w2 | simpa using w1 | simpa using w2) | (simp -implicitDefEqProofs [h, hxc, hxc', Sou.c, e3, e4, maxLen, gz, g1, s0])))
   refine ⟨1, [.cells [V.t (T.bool (nB N)), V.t (T.sl (pE N)), V.t (T.bool (nB ↑Dn)), V.t (T.sl (pE ↑Dn))]], ⟨by omega, ?_, rfl⟩, by omega, ?_⟩
   ·intro n m hn
    exact (LeBs.appU (hU n m (by simp at hn; omega))).2 ⟨⟨LeL_refl _, rfl⟩, trivial⟩
   ·rw [show (0 : Nat) + 1 = 1 from rfl] at r1
    rw [r1]
    have hz := hU
    obtain ⟨xb, hxb⟩ : ∃ xb, xb = Bx.cells [V.t (T.bool (nB N)), V.t (T.sl (pE N)), V.t (T.bool (nB ↑Dn)), V.t (T.sl (pE ↑Dn))] := ⟨_, rfl⟩
    have hxl : ∀ n m, E.leB n m xb xb := fun n m => by rw [hxb]; exact ⟨LeL_refl _, rfl⟩
    have q1 := bufS_le ([] ++ [s])
    have q2 := bufQ_le ([] ++ [s])
    rw [hbs] at q1
    rw [hbq] at q2
    simp only [List.flatMap_nil, List.map_nil, List.nil_append] at q1 q2
    simp only [souB, if_neg hne, hbs, hbq, souV, ← hxb]
    simp
    exact (LeBs.appU (hU _ 0 (by omega))).2 ⟨hxl _ _, q1 _ _, q2 _ _, trivial⟩
  ·obtain ⟨Q, hQ⟩ : ∃ Q, Q = B ++ D := ⟨_, rfl⟩
   have hQl : Q.length = B.length + D.length := by rw [hQ]; simp
   have hA0 : A ≠ [] := fun h => by rw [h] at l1; simp at l1; omega
   have hQU : OkU Q := by rw [hQ]; exact hD
   obtain ⟨ca, hca⟩ : ∃ ca, ca = (A.flatMap Src.c).map V.t := ⟨_, rfl⟩
   obtain ⟨cb, hcb⟩ : ∃ cb, cb = (A.flatMap Src.q).map V.t := ⟨_, rfl⟩
   have c1 : ca.length = k * 7 := by rw [hca, List.length_map]; exact f1
   have c2 : cb.length = k * 7 := by rw [hcb, List.length_map]; exact f2
   have c3 : ca.take (k * 7) = ca := List.take_of_length_le (by omega)
   have c4 : cb.take (k * 7) = cb := List.take_of_length_le (by omega)
   have ee : souB B D A = Q ++ [.buf 58 7 ca, .buf 89 7 cb] := by
    unfold souB; rw [if_neg hA0, ← hQ, hca, hcb]; rfl
   have ev : ∀ j, souV B D j k = .bw (Q.length + j) k := fun j => by unfold souV; rw [if_neg (by omega), hQl]
   have gz : ∀ (l : List Bx), (Q ++ l)[Q.length]? = l[0]? := fun l => by rw [List.getElem?_append_right (by omega)]; simp
   have g1 : ∀ (l : List Bx) (j : Nat), (Q ++ l)[Q.length + j]? = l[j]? := fun l j => by rw [List.getElem?_append_right (by omega)]; simp
   have s0 : ∀ (l : List Bx) (v : Bx), (Q ++ l).set Q.length v = Q ++ l.set 0 v := fun l v => by rw [List.set_append_right _ _ (by omega)]; simp
   have s1 : ∀ (l : List Bx) (j : Nat) (v : Bx), (Q ++ l).set (Q.length + j) v = Q ++ l.set j v := fun l j v => by rw [List.set_append_right _ _ (by omega)]; simp
   rw [ee, ev 0, ev 1, Nat.add_zero]
   ((try simp at w1); (try simp at w2); (try simp -implicitDefEqProofs [h, hxc, hxc', Sou.c, e3, e4, maxLen, gz, g1, s0, s1, c1, c2, c3, c4, j1, j2]); repeat' first | ((with_reducible first | apply gdK_em | apply cdK_em | apply pickK_em) <;> (intro hc; have hc' := hc; (try simp at hc'); simp -implicitDefEqProofs [hc, hc', h, hxc, hxc', Sou.c, e3, e4, maxLen, gz, g1, s0, s1, c1, c2, c3, c4, j1, j2])) | (with_reducible apply callK_pure <;> first | (simp only [eras, era, eras_map]; first | with_reducible exact w1 | with_reducible exact w2 | simpa using w1 | simpa using w2) | (simp -implicitDefEqProofs [h, hxc, hxc', Sou.c, e3, e4, maxLen, gz, g1, s0, s1, c1, c2, c3, c4, j1, j2])))
   obtain ⟨xb, hxb⟩ : ∃ xb, xb = Bx.cells [V.t (T.bool (nB N)), V.t (T.sl (pE N)), V.t (T.bool (nB ↑Dn)), V.t (T.sl (pE ↑Dn))] := ⟨_, rfl⟩
   have hxl : ∀ n m, E.leB n m xb xb := fun n m => by rw [hxb]; exact ⟨LeL_refl _, rfl⟩
   have q1 := bufS_le (A ++ [s])
   have q2 := bufQ_le (A ++ [s])
   rw [hbs, ← hca] at q1
   rw [hbq, ← hcb] at q2
   have hD' : B ++ (D ++ [.dead, .dead, xb]) = Q ++ [.dead, .dead, xb] := by rw [hQ]; simp
   have hsb : souB B (D ++ [.dead, .dead, xb]) (L.take (k + 1)) = Q ++ [.dead, .dead, xb, .buf 58 7 (ca ++ [.t (.int .i64 ent), .t (.bool full), .t (.bool (nB N)), .t (.sl (pE N)), .t (.bool (nB Dn)), .t (.sl (pE Dn)), .t (.sl (items.map Item.c))]), .buf 89 7 (cb ++ [.t (.int .i64 ent), .t (.bool full), .t (.bool (nB N)), .t (.sl (qE N)), .t (.bool (nB Dn)), .t (.sl (qE Dn)), .t (.sl (items.map Item.c))])] := by
    rw [r1]
    unfold souB
    rw [if_neg hne, hbs, hbq, hD', ← hca, ← hcb]; simp
   have hsv : ∀ j, souV B (D ++ [.dead, .dead, xb]) j (k + 1) = .bw (Q.length + (3 + j)) (k + 1) := fun j => by
    unfold souV; rw [if_neg (by omega), hQl]; congr 1; simp; omega
   refine ⟨k + 1, D ++ [.dead, .dead, xb], ⟨by omega, ?_, by simp; omega⟩, by omega, ?_⟩
   ·rw [hD']
    intro n m hn
    exact (LeBs.appU (hQU n m (by simp at hn; omega))).2 ⟨trivial, trivial, hxl _ _, trivial⟩
   ·rw [hsb, hsv 0, hsv 1, ← hxb]
    refine ⟨by simp; omega, (LeBs.appU (hQU _ 0 (by simp))).2 ⟨trivial, trivial, hxl _ _, q1 _ _, q2 _ _, trivial⟩, ⟨leA.refl _, by simp [okN]⟩, ⟨leA.refl _, by simp [okN]⟩, by push_cast; rfl⟩
 ·have hke : k = l.length := by omega
  subst hke
  have hk0 : l.length ≠ 0 := fun h => hl0 (List.eq_nil_of_length_eq_zero h)
  have hL0 : L ≠ [] := fun h => hk0 (by rw [← hLl, h]; rfl)
  have t1 : L.take l.length = L := List.take_of_length_le (by omega)
  rw [t1]
  simp only [souB, souV, if_neg hk0, if_neg hL0]
  ((try simp -implicitDefEqProofs); repeat' first | ((with_reducible first | apply gdK_em | apply cdK_em | apply pickK_em) <;> (intro hc; have hc' := hc; (try simp at hc'); simp -implicitDefEqProofs [hc, hc'])))
  have hle : LeBs (B.length + (3 * l.length - 2 + 2)) 0 (D ++ [bufS L, bufQ L]) (List.replicate (3 * l.length - 2) Bx.dead ++ [bufS L, bufQ L]) := by
   have := LeBs.dead (n := B.length + (3 * l.length - 2 + 2)) (m := 0) D
   rw [hDl] at this
   exact LeBs.append this ⟨bufS_le _ _ _, bufQ_le _ _ _, trivial⟩ (by simp [hDl])
  refine ⟨(LeBs.appU (hU _ 0 (by omega))).2 hle, ⟨?_, ?_⟩, by omega⟩
  ·rw [hDl]; exact leA.refl _
  ·rw [hDl]; exact leA.refl _
theorem rows_any {α : Type} {c : α → List T} {z : Nat} (hz : ∀ x, (c x).length = z) (o : List α) : rowsT z o.length (o.flatMap c) = some (o.map c) := by
 have hl : (o.flatMap c).length = o.length * z := by
  induction o with
  | nil => simp
  | cons x o ih => simp only [List.flatMap_cons, List.length_append, hz, ih, List.length_cons, Nat.succ_mul]; omega
 unfold rowsT
 rw [if_pos hl]
 congr 1
 clear hl
 induction o with
 | nil => rfl
 | cons x o ih =>
  rw [List.length_cons, List.range_succ_eq_map, List.map_cons, List.map_cons, List.flatMap_cons, List.map_map]
  congr 1
  ·simp [hz]
  ·rw [← ih]
   apply List.map_congr_left
   intro i _
   simp only [Function.comp_apply, Nat.succ_mul]
   rw [Nat.add_comm (i * z) z, ← List.drop_drop, List.drop_left' (hz x)]
theorem fm_row {α : Type} {c : α → List T} {z : Nat} (hz : ∀ x, (c x).length = z) : ∀ (o : List α) (i : Nat) (x : α), o[i]? = some x → ∀ j, j < z → (o.flatMap c)[i * z + j]? = (c x)[j]?
 | y :: o, 0, x, h, j, hj => by
  cases h
  rw [List.flatMap_cons, Nat.zero_mul, Nat.zero_add, List.getElem?_append_left (by rw [hz]; exact hj)]
 | y :: o, i + 1, x, h, j, hj => by
  have := fm_row hz o i x (by simpa using h) j hj
  rw [List.flatMap_cons, List.getElem?_append_right (by rw [hz, Nat.succ_mul]; omega), hz, ← this]
  congr 1; rw [Nat.succ_mul]; omega
def turnT (kk : Nat) (l : List Item) (m : Nat) : List Item := ((l.zipIdx.drop m).map fun z => if z.2 = kk then splitI z.1 else [z.1]).reverse.flatten
theorem turnT_all (kk : Nat) (l : List Item) : turnT kk l l.length = [] := by unfold turnT; rw [List.drop_of_length_le (by simp)]; rfl
theorem turnT_zero (kk : Nat) (l : List Item) : turnT kk l 0 = turnI kk l := rfl
theorem turnT_step {kk : Nat} {l : List Item} {m : Nat} {x : Item} (h : l[m]? = some x) : turnT kk l m = turnT kk l (m + 1) ++ (if m = kk then splitI x else [x]) := by
 obtain ⟨hm, rfl⟩ := List.getElem?_eq_some_iff.1 h
 unfold turnT
 rw [List.drop_eq_getElem_cons (by simpa using hm), List.map_cons, List.reverse_cons, List.flatten_append]
 simp
theorem turnT_len (kk : Nat) (l : List Item) : ∀ n m, l.length - m = n → m ≤ l.length → (turnT kk l m).length ≤ 2 * n
 | 0, m, h, hm => by
  have : m = l.length := by omega
  rw [this, turnT_all]; simp
 | n + 1, m, h, hm => by
  obtain ⟨x, hx⟩ := get_of_lt (show m < l.length by omega)
  have ih := turnT_len kk l n (m + 1) (by omega) (by omega)
  rw [turnT_step hx, List.length_append]
  split <;> simp [splitI] <;> omega
theorem turnI_amt {kk : Nat} {l : List Item} (h : ∀ x ∈ l, amtB x.amt = true) : ∀ x ∈ turnI kk l, amtB x.amt = true := by
 intro x hx
 unfold turnI at hx
 obtain ⟨q, hq, hx⟩ := List.mem_flatten.1 hx
 obtain ⟨z, hz, rfl⟩ := List.mem_map.1 (List.mem_reverse.1 hq)
 have hm : z.1 ∈ l := by
  have := List.mk_mem_zipIdx_iff_getElem?.1 (show (z.1, z.2) ∈ l.zipIdx from hz)
  exact List.mem_of_getElem? this
 have ha := amtB_bd (h _ hm)
 have htd : (0 ≤ z.1.amt ∧ 0 ≤ z.1.amt.tdiv 3 ∧ z.1.amt.tdiv 3 ≤ z.1.amt) ∨ (z.1.amt ≤ 0 ∧ z.1.amt ≤ z.1.amt.tdiv 3 ∧ z.1.amt.tdiv 3 ≤ 0) := by
  rcases Int.le_total 0 z.1.amt with h0 | h0
  ·left
   rw [Int.tdiv_eq_ediv_of_nonneg h0]; omega
  ·right
   obtain ⟨b, hb⟩ : ∃ b, b = -z.1.amt := ⟨_, rfl⟩
   have e : z.1.amt = -b := by omega
   rw [e, Int.neg_tdiv, Int.tdiv_eq_ediv_of_nonneg (by omega)]; omega
 split at hx
 ·unfold splitI at hx
  simp only [List.mem_cons, List.not_mem_nil, or_false] at hx
  rcases hx with rfl | rfl
  ·unfold amtB; simp only [Bool.and_eq_true, decide_eq_true_eq]; omega
  ·unfold amtB; simp only [Bool.and_eq_true, decide_eq_true_eq]; omega
 ·simp only [List.mem_cons, List.not_mem_nil, or_false] at hx
  subst hx; exact h _ hm
theorem turn_alike (s : Src) (kk : Nat) : Alike s { s with items := turnI kk s.items } := ⟨rfl, rfl, rfl, rfl, fun f t any p => (readN_turn kk s.items f t any p).symm⟩
theorem runE_turn {cs : List Code} {L : List Src} {i : Nat} {s : Src} (kk : Nat) (hs : L[i]? = some s) (h : srcOk L = true) : runE cs (L.set i { s with items := turnI kk s.items }) = runE cs L := by
 have h2 : srcOk (L.set i { s with items := turnI kk s.items }) = true := by
  rw [srcOk_iff] at h ⊢
  obtain ⟨hi, rfl⟩ := List.getElem?_eq_some_iff.1 hs
  constructor
  ·intro z hz
   rcases List.mem_or_eq_of_mem_set hz with hz | rfl
   ·exact h.1 z hz
   ·obtain ⟨q1, q2, q3⟩ := h.1 _ (List.getElem_mem hi)
    exact ⟨q1, q2, turnI_amt q3⟩
  ·have e : (L.set i { L[i] with items := turnI kk L[i].items }).map Src.ent = L.map Src.ent := by
    apply List.ext_getElem (by simp)
    intro j h1 h2
    simp only [List.getElem_map, List.getElem_set]
    split
    ·rename_i hij; subst hij; rfl
    ·rfl
   have := List.pairwise_map (f := Src.ent) (R := fun a b : Int => a < b) (l := L)
   have h3 := this.2 h.2
   rw [← e] at h3
   exact List.pairwise_map.1 h3
 unfold runE
 rw [h, h2, runR_alike cs (turn_alike s kk) hs]
end Go.Proofs.YtmlpmdccfmmpoaaGreat
set_option linter.unusedSimpArgs false
set_option linter.unusedVariables false
set_option maxHeartbeats 4000000
set_option maxRecDepth 8000
namespace Go.Proofs.YtmlpmdccfmmpoaaGreat
open E

theorem toTs_mid {v : V} {x : T} (h : toT v = some x) (B : List T) : ∀ A : List T, toTs (A.map V.t ++ v :: B.map V.t) = some (A ++ x :: B)
 | [] => by simp only [List.map_nil, List.nil_append, toTs, h, toTs_map]
 | a :: A => by simp only [List.map_cons, List.cons_append, toTs, toT, toTs_mid h B A]
theorem set_flat {it : List Item} : ∀ {L : List Src} {i : Nat} {s : Src}, L[i]? = some s → (L.set i { s with items := it }).flatMap Src.c = (L.flatMap Src.c).take (i * 7 + 6) ++ T.sl (it.map Item.c) :: (L.flatMap Src.c).drop (i * 7 + 6 + 1)
 | y :: L, 0, s, h => by
  cases h
  simp only [List.set_cons_zero, List.flatMap_cons]
  rw [List.take_append_of_le_length (by simp [Src.c, rC]), Nat.zero_mul, List.drop_left' (show y.c.length = 0 + 6 + 1 from rfl)]
  rfl
 | y :: L, i + 1, s, h => by
  have ih := set_flat (it := it) (L := L) (i := i) (s := s) (by simpa using h)
  simp only [List.set_cons_succ, List.flatMap_cons]
  rw [ih, show (i + 1) * 7 + 6 = y.c.length + (i * 7 + 6) by rw [show y.c.length = 7 from rfl]; omega, List.take_length_add_append, Nat.add_assoc y.c.length, List.drop_length_add_append, List.append_assoc]
theorem rows_set {L : List Src} {i : Nat} {s : Src} (hs : L[i]? = some s) (tu : List Item) : (toTs (((L.flatMap Src.c).take (i * 7 + 6)).map V.t ++ V.own 0 62 7 (tu.map Item.c) :: ((L.flatMap Src.c).drop (i * 7 + 6 + 1)).map V.t)).bind (rowsT 7 L.length) = some ((L.set i { s with items := tu }).map Src.c) := by
 rw [toTs_mid (x := .sl (tu.map Item.c)) rfl, ← set_flat hs, Option.bind_some]
 have := rows_any (c := Src.c) (z := 7) (fun _ => rfl) (L.set i { s with items := tu })
 rw [List.length_set] at this
 exact this
theorem roomT {n : Nat} (h : n ≤ 120) : n ≤ 9223372036854775806 ∧ (n + 1) * 56 ≤ 140737488355328 ∧ n + 1 ≤ 9223372036854775806 ∧ (n + 1 + 1) * 56 ≤ 140737488355328 ∧ n ≤ 9223372036854775805 := by omega
theorem join {P : Program} {nb nt : Nat} {x y : EC} {l : List EC} {K : Ex → Fr → St → Prop} {a : Fr} {S : St} (C : Fr → St → Prop) (h1 : ∀ K' : Ex → Fr → St → Prop, (∀ a' S', C a' S' → K' .nx a' S') → ewp P nb nt x (thenK (ewp P nb nt (seqs (y :: l)) K') K') a S) (h2 : ∀ a' S', C a' S' → K .nx a' S') : ewp P nb nt x (thenK (ewp P nb nt (seqs (y :: l)) K) K) a S := h1 K h2
theorem l_items (cs : List Code) (l : List Sou) (hw : ∀ x ∈ l, x.wf) (x y : Int) (hx : 0 ≤ x ∧ x ≤ 255) (hy : 0 ≤ y ∧ y ≤ 255) : Pure Tryz.prog 5 [Code.l cs, Sou.l l, .agg [.t (.int .u8 x), .t (.int .u8 y)]] (vB true) := by
 have ha := w_awake35
 have hf := w_few35 l cs
 cases h : fewE l cs
 ·rw [h] at hf
  (refine Pure.of_code mix Tryz.call5 k_5 (by simp) (fun hB => ?_); (try simp at hB); (try simp -implicitDefEqProofs [c_tallystonelaw35_ExecuteItems_5]))
  ((try simp at ha); (try simp at hf); (try simp -implicitDefEqProofs); repeat' first | ((with_reducible first | apply gdK_em | apply cdK_em | apply pickK_em) <;> (intro hc; have hc' := hc; (try simp at hc'); simp -implicitDefEqProofs [hc, hc'])) | (with_reducible apply callK_pure <;> first | (simp only [eras, era, eras_map]; first | with_reducible exact ha | with_reducible exact hf | simpa using ha | simpa using hf) | (simp -implicitDefEqProofs)))
 rw [h] at hf
 cases hl0 : l with
 | nil =>
  rw [hl0] at hf
  (refine Pure.of_code mix Tryz.call5 k_5 (by simp) (fun hB => ?_); (try simp at hB); (try simp -implicitDefEqProofs [c_tallystonelaw35_ExecuteItems_5]))
  ((try simp at ha); (try simp at hf); (try simp -implicitDefEqProofs); repeat' first | ((with_reducible first | apply gdK_em | apply cdK_em | apply pickK_em) <;> (intro hc; have hc' := hc; (try simp at hc'); simp -implicitDefEqProofs [hc, hc'])) | (with_reducible apply callK_pure <;> first | (simp only [eras, era, eras_map]; first | with_reducible exact ha | with_reducible exact hf | simpa using ha | simpa using hf) | (simp -implicitDefEqProofs)))
 | cons l0 lt =>
 rw [← hl0]
 have hne : l ≠ [] := by rw [hl0]; simp
 have hlp : l.length ≠ 0 := by rw [hl0]; simp
 clear hl0
 obtain ⟨f1, f2, f3, f4⟩ := few35_of h
 have hs := w_sources l (by omega) hw
 have hsB := w_sourcesB l [.cells [.t (.int .u8 x), .t (.int .u8 y)]] (fun n m _ => ⟨⟨LeL_refl _, rfl⟩, trivial⟩) hne (by omega) hw
 have hcd := w_codes cs (by omega) (fun c hc => by have := f3 c hc; omega)
 have hr := w_runOf h hw
 have hrm := src_room h hw
 have hv := w_rvalid35 (l.map Sou.src) (by simp; omega) (fun s hs => by have := (hrm s hs).2.2.2; omega)
 have hLl : (l.map Sou.src).length = l.length := by simp
 have hit : ∀ s ∈ l.map Sou.src, s.items.length ≤ 60 := fun s hs => by
  obtain ⟨z, hz, rfl⟩ := List.mem_map.1 hs
  exact f4 z hz
 obtain ⟨L, hL⟩ : ∃ L, L = l.map Sou.src := ⟨_, rfl⟩
 rw [← hL] at hs hsB hr hrm hv hLl hit
 unfold Src.l Src.ql at hs
 unfold Src.l at hr
 unfold Src.ql at hv
 cases hok : srcOk L
 ·rw [hok] at hv
  generalize L.map Src.c = A at *
  generalize L.map Src.q = A2 at *
  (refine Pure.of_code mix Tryz.call5 k_5 (by simp) (fun hB => ?_); (try simp at hB); (try simp -implicitDefEqProofs [c_tallystonelaw35_ExecuteItems_5]))
  ((try simp at ha); (try simp at hf); (try simp at hs); (try simp at hv); (try simp -implicitDefEqProofs [hlp]); repeat' first | ((with_reducible first | apply gdK_em | apply cdK_em | apply pickK_em) <;> (intro hc; have hc' := hc; (try simp at hc'); simp -implicitDefEqProofs [hc, hc', hlp])) | (with_reducible apply callK_pure <;> first | (simp only [eras, era, eras_map]; first | with_reducible exact ha | with_reducible exact hf | with_reducible exact hs | with_reducible exact hv | simpa using ha | simpa using hf | simpa using hs | simpa using hv) | (simp -implicitDefEqProofs [hlp])))
 rw [hok] at hv
 (refine Pure.of_code mix Tryz.call5 k_5 (by simp) (fun hB => ?_); (try simp at hB); (try simp -implicitDefEqProofs [c_tallystonelaw35_ExecuteItems_5]))
 ((try simp at ha); (try simp at hf); (try simp -implicitDefEqProofs [hlp]); repeat' first | ((with_reducible first | apply gdK_em | apply cdK_em | apply pickK_em) <;> (intro hc; have hc' := hc; (try simp at hc'); simp -implicitDefEqProofs [hc, hc', hlp])) | (with_reducible apply callK_pure <;> first | (simp only [eras, era, eras_map]; first | with_reducible exact ha | with_reducible exact hf | simpa using ha | simpa using hf) | (simp -implicitDefEqProofs [hlp])))
 obtain ⟨i, hi⟩ : ∃ i : Nat, i = x.toNat % l.length := ⟨_, rfl⟩
 have hil : i < l.length := by rw [hi]; exact Nat.mod_lt _ (by omega)
 obtain ⟨s, hsi⟩ := get_of_lt (show i < L.length by omega)
 have hr2 := w_xRun cs (L.set i { s with items := turnI y.toNat s.items }) (by simp; omega) (by omega) (fun c hc => by have := f3 c hc; omega) (fun z hz => by
  rcases List.mem_or_eq_of_mem_set hz with hz | rfl
  ·exact hrm z hz
  ·obtain ⟨q1, q2, q3, q4⟩ := hrm s (List.mem_of_getElem? hsi)
   have := hit s (List.mem_of_getElem? hsi)
   have h2 := turnT_len y.toNat s.items s.items.length 0 (by omega) (by omega)
   rw [turnT_zero] at h2
   exact ⟨q1, q2, q3, by simp only []; omega⟩)
 rw [runE_turn y.toNat hsi hok] at hr2
 have hpl : ∀ p ∈ (runE cs L).1, p.parts.length ≤ 1000000 := by
  intro p hp
  unfold runE at hp
  split at hp
  ·rename_i g
   cases hrr : runR cs L with
   | none => rw [hrr] at hp; simp at hp
   | some q => rw [hrr] at hp; have := (balP_of (fun c hc => by have := f3 c hc; omega) g.1 hrr hp).len; omega
  ·simp at hp
 have hsm := w_rsamep (runE cs L).1 hpl
 unfold psV Src.l at hr2
 generalize runE cs L = R at *
 refine callK_p hs rfl ?_
 ((try simp at hv); (try simp at hcd); (try simp at hr); (try simp -implicitDefEqProofs); repeat' first | ((with_reducible first | apply gdK_em | apply cdK_em | apply pickK_em) <;> (intro hc; have hc' := hc; (try simp at hc'); simp -implicitDefEqProofs [hc, hc'])) | (with_reducible apply callK_pure <;> first | (simp only [eras, era, eras_map]; first | with_reducible exact hv | with_reducible exact hcd | with_reducible exact hr | simpa using hv | simpa using hcd | simpa using hr) | (simp -implicitDefEqProofs)))
 refine callKf hsB ?_
 obtain ⟨Q, hQ⟩ : ∃ Q : List Bx, Q = [Bx.cells [V.t (.int .u8 x), .t (.int .u8 y)]] ++ List.replicate (3 * l.length - 2) Bx.dead := ⟨_, rfl⟩
 have hQl : Q.length = 1 + (3 * l.length - 2) := by rw [hQ]; simp; omega
 have hQ0 : ∀ m : List Bx, (Q ++ m)[0]? = some (.cells [V.t (.int .u8 x), .t (.int .u8 y)]) := fun m => by rw [hQ]; rfl
 have hQ0' : ∀ (m : List Bx) h, (Q ++ m)[0]'h = .cells [V.t (.int .u8 x), .t (.int .u8 y)] := fun m h => by have := hQ0 m; rw [List.getElem?_eq_getElem h] at this; exact Option.some.inj this
 have hQU : OkU Q := fun n m hn => by
  rw [hQ]
  refine LeBs.append ⟨⟨LeL_refl _, rfl⟩, trivial⟩ ?_ rfl
  generalize 3 * l.length - 2 = w
  clear hsB hQ hQl hQ0 hn
  induction w with
  | zero => trivial
  | succ w ih => exact ⟨trivial, ih⟩
 rw [← hQ, show [Bx.cells [V.t (.int .u8 x), .t (.int .u8 y)]].length + (3 * l.length - 2) = Q.length by rw [hQl]; rfl]
 obtain ⟨ls, hls⟩ : ∃ ls, ls = L.flatMap Src.c := ⟨_, rfl⟩
 have hbS : bufS L = .buf 58 7 (ls.map .t) := by rw [hls]; rfl
 have hlsl : ls.length = L.length * 7 := by rw [hls]; exact (srcs_len L).1
 have hcell : ls[i * 7 + 6]? = some (.sl (s.items.map Item.c)) := by
  rw [hls]
  have := fm_row (c := Src.c) (z := 7) (fun _ => rfl) L i s hsi 6 (by omega)
  rw [this]; rfl
 have gz : ∀ (l : List Bx), (Q ++ l)[Q.length]? = l[0]? := fun l => by rw [List.getElem?_append_right (by omega)]; simp
 have g1 : ∀ (l : List Bx) (j : Nat), (Q ++ l)[Q.length + j]? = l[j]? := fun l j => by rw [List.getElem?_append_right (by omega)]; simp
 have s0 : ∀ (l : List Bx) (v : Bx), (Q ++ l).set Q.length v = Q ++ l.set 0 v := fun l v => by rw [List.set_append_right _ _ (by omega)]; simp
 have s1 : ∀ (l : List Bx) (j : Nat) (v : Bx), (Q ++ l).set (Q.length + j) v = Q ++ l.set j v := fun l j v => by rw [List.set_append_right _ _ (by omega)]; simp
 rw [hbS]
 have x1 : IntKind.i64.wrap x = x := wrap64 (by omega) (by omega)
 have x2 : x.tmod l.length = (i : Int) := by rw [Int.tmod_eq_emod_of_nonneg hx.1, hi, Int.natCast_emod, Int.toNat_of_nonneg hx.1]
 have x3 : IntKind.i64.wrap (i : Int) = i := wrap64 (by omega) (by omega)
 have hln : ¬ ((l.length : Int) = 0) := by omega
 have hlsm : ls.length = l.length * 7 := by rw [hlsl, hLl]
 have hiv : i * 7 + 6 < ls.length := by omega
 have hiv2 : i * 7 + 6 + 1 ≤ ls.length := by omega
 have hcell' : ∀ h, ls[i * 7 + 6]'h = .sl (s.items.map Item.c) := fun h => by rw [List.getElem?_eq_getElem h] at hcell; exact Option.some.inj hcell
 ((try simp -implicitDefEqProofs [hQ0, hQ0', gz, g1, s0, s1, x1, x2, x3, hln, hlp, hil, hcell, hcell', hiv, hiv2]); repeat' first | ((with_reducible first | apply gdK_em | apply cdK_em | apply pickK_em) <;> (intro hc; have hc' := hc; (try simp at hc'); simp -implicitDefEqProofs [hc, hc', hQ0, hQ0', gz, g1, s0, s1, x1, x2, x3, hln, hlp, hil, hcell, hcell', hiv, hiv2])))
 have hs60 := hit s (List.mem_of_getElem? hsi)
 obtain ⟨kk, hkk⟩ : ∃ kk, kk = y.toNat := ⟨_, rfl⟩
 rw [← hkk] at hr2
 obtain ⟨its, hits⟩ : ∃ its, its = s.items := ⟨_, rfl⟩
 rw [← hits] at hr2 hcell hcell' hs60
 have hLe : ∀ n m, Q.length + 2 ≤ n → LeBs n m (Q ++ [.buf 58 7 (ls.map .t), bufQ L]) (Q ++ [.buf 58 7 (ls.map .t), bufQ L]) := fun n m hn => (LeBs.appU (hQU n m (by omega))).2 ⟨leB_tb _ _ _ _ _, bufQ_le _ _ _, trivial⟩
 have hLe0 := hLe (Q.length + 2) 1 (by omega)
 have x4 : IntKind.i64.wrap ((its.length : Int) - 1) = (its.length : Int) - 1 := wrap64 (by omega) (by omega)
 obtain ⟨p, e⟩ := R
 refine loop_grow [(.slot 14, 62, 7)] (X := Nat) (fun m => m ≤ its.length)
  (fun m => [(0, Code.l cs), (5, .ptr 0 0), (9, Posting.l p), (10, vI e), (11, .bw Q.length l.length), (13, vI i), (14, .own 0 62 7 ((turnT kk its m).map Item.c)), (15, vI ((m : Int) - 1))])
  (fun m => ⟨Q ++ [.buf 58 7 (ls.map .t), bufQ L], [(turnT kk its m).length]⟩) (fun m => m) its.length (by omega) ?hs ?_
 case hs => simp [turnT_all, okN, hLe0, x4, ← hits]
 rintro m hm hbd
 clear hbd
 rcases Nat.eq_zero_or_pos m with h0 | h0
 ·subst h0
  have : ¬ (0 : Int) ≤ -1 := by omega
  ((try simp -implicitDefEqProofs [hQ0, hQ0', gz, g1, s0, s1, x1, x2, x3, hln, hlp, hil, hcell, hcell', hiv, hiv2]); repeat' first | ((with_reducible first | apply gdK_em | apply cdK_em | apply pickK_em) <;> (intro hc; have hc' := hc; (try simp at hc'); simp -implicitDefEqProofs [hc, hc', hQ0, hQ0', gz, g1, s0, s1, x1, x2, x3, hln, hlp, hil, hcell, hcell', hiv, hiv2])))
  refine callK_p hcd rfl ?_
  ((try simp -implicitDefEqProofs [gz]); repeat' first | ((with_reducible first | apply gdK_em | apply cdK_em | apply pickK_em) <;> (intro hc; have hc' := hc; (try simp at hc'); simp -implicitDefEqProofs [hc, hc', gz])))
  have hrow := rows_set hsi (turnT kk its 0)
  rw [← hls, hLl] at hrow
  have hTl := turnT_zero kk its
  simp only [List.map_take, List.map_drop] at hrow
  obtain ⟨cl, hcl⟩ : ∃ cl, cl = List.take (i * 7 + 6) (List.map V.t ls) ++ V.own 0 62 7 (List.map Item.c (turnT kk its 0)) :: List.drop (i * 7 + 6 + 1) (List.map V.t ls) := ⟨_, rfl⟩
  rw [← hcl] at hrow ⊢
  have hcll : cl.length = l.length * 7 := by
   rw [hcl, List.length_append, List.length_take, List.length_cons, List.length_drop, List.length_map]
   clear hr2 hrow hcl
   omega
  have hclt : cl.take (l.length * 7) = cl := List.take_of_length_le (by rw [hcll]; exact Nat.le_refl _)
  have hr3 := hr2
  rw [← hTl] at hr3
  refine callK_frz (r := .tup [Posting.l p, vI e]) ?_ ?_
  ·simp only [frzVs, frzV, gz, List.getElem?_cons_zero, rowsV, List.drop_zero, hclt, hrow, eras, era]
   exact hr3
  ·simp only [frzVs, frzV, gz, List.getElem?_cons_zero, rowsV, List.drop_zero, hclt, hrow, eras, era]
   ((try simp at hsm); (try simp -implicitDefEqProofs [gz, s0]); repeat' first | ((with_reducible first | apply gdK_em | apply cdK_em | apply pickK_em) <;> (intro hc; have hc' := hc; (try simp at hc'); simp -implicitDefEqProofs [hc, hc', gz, s0])) | (with_reducible apply callK_pure <;> first | (simp only [eras, era, eras_map]; first | with_reducible exact hsm | simpa using hsm) | (simp -implicitDefEqProofs [gz, s0])))
 ·obtain ⟨j, rfl⟩ : ∃ j, m = j + 1 := ⟨m - 1, by omega⟩
  obtain ⟨z, hz⟩ := get_of_lt (show j < its.length by omega)
  have hst := turnT_step (kk := kk) hz
  have htl := turnT_len kk its (its.length - (j + 1)) (j + 1) rfl (by omega)
  have htu : (turnT kk its (j + 1)).length ≤ 120 := Nat.le_trans htl (by omega)
  clear htl
  generalize turnT kk its (j + 1) = tu at *
  have y1 : ((j + 1 : Nat) : Int) - 1 = (j : Int) := by omega
  have y2 : IntKind.i64.wrap ((j : Int) - 1) = (j : Int) - 1 := wrap64 (by omega) (by omega)
  have y3 : j < its.length := by omega
  have hzc : (its.map Item.c)[j]? = some z.c := by simp [hz]
  have hzc' : ∀ h, (its.map Item.c)[j]'h = z.c := fun h => by rw [List.getElem?_eq_getElem h] at hzc; exact Option.some.inj hzc
  have hza := (src_in hok (List.mem_of_getElem? hsi)).2.2 z (by rw [← hits]; exact List.mem_of_getElem? hz)
  obtain ⟨i1, i2, i3, i4, i5, i6, i7⟩ := z
  have hza := amtB_bd hza
  simp only [] at hza
  have htd : -1000000000000 ≤ i7.tdiv 3 ∧ i7.tdiv 3 ≤ 1000000000000 := by
   rcases Int.le_total 0 i7 with h0 | h0
   ·rw [Int.tdiv_eq_ediv_of_nonneg h0]; omega
   ·obtain ⟨b, hb⟩ : ∃ b, b = -i7 := ⟨_, rfl⟩
    have e : i7 = -b := by omega
    rw [e, Int.neg_tdiv, Int.tdiv_eq_ediv_of_nonneg (by omega)]; omega
  have q1 : IntKind.i64.wrap (i7.tdiv 3) = i7.tdiv 3 := wrap64 (by omega) (by omega)
  have q2 : IntKind.i64.wrap (i7 - i7.tdiv 3) = i7 - i7.tdiv 3 := wrap64 (by omega) (by omega)
  have y6 : ((j : Int) == IntKind.i64.wrap y) = decide (j = kk) := by
   rw [wrap64 (by omega) (by omega), Bool.eq_iff_iff]; simp; omega
  obtain ⟨m1, m2, m3, m4, m5⟩ := roomT htu
  have hend : ∀ c : List Bx, LeBs (Q.length + 2) 1 (Q ++ [.buf 58 7 (ls.map .t), bufQ L] ++ c) (Q ++ [.buf 58 7 (ls.map .t), bufQ L]) := fun c => LeBs.ext c (hLe _ _ (Nat.le_refl _))
  have hyj : IntKind.i64.wrap y = y := wrap64 (by omega) (by omega)
  rw [y1]
  (try simp -implicitDefEqProofs [-e5_18, y3])
  refine join (fun a' S' => S' = ⟨Q ++ [.buf 58 7 (ls.map .t), bufQ L, .cells [V.t (.int .i64 i1), .t (.int .i64 i2), .t (.int .i64 i3), .t (.int .i64 i4), .t (.int .i64 i5), .t (.int .i64 i6), .t (.int .i64 i7)], .cells [V.t (.int .i64 i1), .t (.int .i64 i2), .t (.int .i64 i3), .t (.int .i64 i4), .t (.int .i64 i5), .t (.int .i64 i6), .t (.int .i64 i7)]], [tu.length]⟩ ∧ a' 0 = Code.l cs ∧ a' 5 = .ptr 0 0 ∧ a' 9 = Posting.l p ∧ a' 10 = vI e ∧ a' 11 = .bw Q.length l.length ∧ a' 13 = vI i ∧ a' 14 = .own 0 62 7 (tu.map Item.c) ∧ a' 15 = vI j ∧
   ((a' 16 = .ptr (Q.length + 2) 0 ∧ a' 17 = .ptr (Q.length + 3) 0) ∨ (a' 16 = .ptr (Q.length + 3) 0 ∧ a' 17 = .ptr (Q.length + 2) 0))) (fun K' hK' => ?_) (fun a' S' hC => ?_)
  ·((try simp -implicitDefEqProofs [hQ0, hQ0', gz, g1, s0, s1, x1, x2, x3, hln, hlp, hil, hcell, hcell', hiv, hiv2, y3, hzc, hzc', Item.c]); repeat' first | ((with_reducible first | apply gdK_em | apply cdK_em | apply pickK_em) <;> (intro hc; have hc' := hc; (try simp at hc'); simp -implicitDefEqProofs [hc, hc', hQ0, hQ0', gz, g1, s0, s1, x1, x2, x3, hln, hlp, hil, hcell, hcell', hiv, hiv2, y3, hzc, hzc', Item.c])))
   all_goals (repeat' with_reducible apply And.intro)
   all_goals refine hK' _ _ ⟨rfl, rfl, rfl, rfl, rfl, rfl, rfl, rfl, rfl, ?_⟩
   all_goals first | exact .inl ⟨rfl, rfl⟩ | exact .inr ⟨rfl, rfl⟩
  ·obtain ⟨rfl, c0, c5, c9, c10, c11, c13, c14, c15, c16⟩ := hC
   have hfin : ∀ (n : Nat) (z : Nat), n ≤ its.length → n < j + 1 → True := fun _ _ _ _ => trivial
   rcases c16 with ⟨c16, c17⟩ | ⟨c16, c17⟩
   all_goals by_cases hjk : j = kk
   all_goals first | rw [if_pos hjk] at hst | rw [if_neg hjk] at hst
   all_goals first | rw [decide_eq_true hjk] at y6 | rw [decide_eq_false hjk] at y6
   all_goals ((try simp -implicitDefEqProofs [c0, c5, c9, c10, c11, c13, c14, c15, c16, c17, hQ0, hQ0', gz, g1, s0, s1, y2, y6, q1, q2, m1, m2, m3, m4, m5, maxLen]); repeat' first | ((with_reducible first | apply gdK_em | apply cdK_em | apply pickK_em) <;> (intro hc; have hc' := hc; (try simp at hc'); simp -implicitDefEqProofs [hc, hc', c0, c5, c9, c10, c11, c13, c14, c15, c16, c17, hQ0, hQ0', gz, g1, s0, s1, y2, y6, q1, q2, m1, m2, m3, m4, m5, maxLen])))
   all_goals refine ⟨j, Nat.le_of_lt y3, Nat.lt_succ_self j, ⟨(LeBs.appU (hQU _ _ (Nat.le_add_right _ _))).2 ⟨leB_tb _ _ _ _ _, bufQ_le _ _ _, trivial⟩, by rw [hst]; simp [splitI]⟩, ?_, rfl⟩
   all_goals rw [hst, List.map_append]
   all_goals exact leA.refl _
end Go.Proofs.YtmlpmdccfmmpoaaGreat
