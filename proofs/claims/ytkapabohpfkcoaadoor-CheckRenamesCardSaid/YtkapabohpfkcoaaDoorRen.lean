/- Chapter 33: plain laws of renamed rules. -/
import Derived.Test.YtkapabohpfkcoaaDoorChp
import Derived.Test.YtkapabohpfkcoaaDoorRck
import Derived.Test.YtkapabohpfkcoaaDoorSyf
section
set_option linter.unusedSimpArgs false
set_option linter.unusedVariables false
set_option maxHeartbeats 1000000
namespace Go.Proofs.YtkapabohpfkcoaaDoor
open E

/-- The first name of N whose place in D has s. -/
def rnS : List (List UInt8) → List (List UInt8) → List UInt8 → List UInt8
  | d :: D, n :: N, s => if d = s then n else rnS D N s
  | _, _, s => s
namespace Xp
mutual
def ren (D N : List (List UInt8)) : Xp → Xp
  | .mk k v f t n xs => if k = 2 then .mk k v f t (rnS D N n) xs else .mk k v f t n (rens D N xs)
def rens (D N : List (List UInt8)) : List Xp → List Xp
  | [] => []
  | x :: xs => ren D N x :: rens D N xs
end
theorem rens_map (D N : List (List UInt8)) (l : List Xp) : rens D N l = l.map (ren D N) := by
  induction l with
  | nil => rfl
  | cons x l ih => rw [rens, ih]; rfl
mutual
def free (D N : List (List UInt8)) : Xp → Bool
  | .mk k v f t n xs => (k == 2 && memB N n && !memB D n) || frees D N xs
def frees (D N : List (List UInt8)) : List Xp → Bool
  | [] => false
  | x :: xs => free D N x || frees D N xs
end
theorem frees_any (D N : List (List UInt8)) (l : List Xp) : frees D N l = l.any (free D N) := by
  induction l with
  | nil => rfl
  | cons x l ih => rw [frees, ih]; rfl
mutual
theorem ren_cnt (D N : List (List UInt8)) : ∀ x : Xp, (ren D N x).cnt = x.cnt
  | .mk k v f t n xs => by
    rw [ren]
    split
    · rw [cnt, cnt]
    · rw [cnt, cnt, rens_cnt D N xs]
theorem rens_cnt (D N : List (List UInt8)) : ∀ xs : List Xp, cnts (rens D N xs) = cnts xs
  | [] => by rw [rens]
  | x :: xs => by rw [rens, cnts, cnts, ren_cnt D N x, rens_cnt D N xs]
end
end Xp
theorem rnS_mem : ∀ {D N : List (List UInt8)} {s : List UInt8}, s ∈ D → D.length ≤ N.length → rnS D N s ∈ N
  | d :: D, n :: N, s, h, hl => by
    rw [rnS]
    split
    · exact List.mem_cons_self
    · rename_i hd
      exact List.mem_cons_of_mem _ (rnS_mem ((List.mem_cons.1 h).resolve_left (Ne.symm hd)) (by simpa using hl))
  | d :: D, [], s, h, hl => by simp at hl
  | [], N, s, h, hl => by cases h
theorem rnS_not : ∀ {D N : List (List UInt8)} {s : List UInt8}, s ∉ D → rnS D N s = s
  | d :: D, n :: N, s, h => by
    rw [rnS, if_neg (fun e => h (by rw [e]; exact List.mem_cons_self)), rnS_not (fun e => h (List.mem_cons_of_mem _ e))]
  | d :: D, [], s, h => by rw [rnS]; simp
  | [], N, s, h => by rw [rnS]; simp
theorem rnS_inj : ∀ {D N : List (List UInt8)} {s t : List UInt8}, N.Nodup → D.length ≤ N.length → s ∈ D → t ∈ D → rnS D N s = rnS D N t → s = t
  | d :: D, n :: N, s, t, hn, hl, hs, ht, h => by
    rw [rnS, rnS] at h
    have hn' := List.nodup_cons.1 hn
    have hl' : D.length ≤ N.length := by simpa using hl
    by_cases h1 : d = s
    · by_cases h2 : d = t
      · exact h1.symm.trans h2
      · rw [if_pos h1, if_neg h2] at h
        exact absurd (h ▸ rnS_mem ((List.mem_cons.1 ht).resolve_left (Ne.symm h2)) hl') hn'.1
    · by_cases h2 : d = t
      · rw [if_neg h1, if_pos h2] at h
        exact absurd (h ▸ rnS_mem ((List.mem_cons.1 hs).resolve_left (Ne.symm h1)) hl') hn'.1
      · rw [if_neg h1, if_neg h2] at h
        exact rnS_inj hn'.2 hl' ((List.mem_cons.1 hs).resolve_left (Ne.symm h1)) ((List.mem_cons.1 ht).resolve_left (Ne.symm h2)) h
  | d :: D, [], s, t, hn, hl, hs, ht, h => by simp at hl
  | [], N, s, t, hn, hl, hs, ht, h => by cases hs
theorem rnS_memB {D N M : List (List UInt8)} {s : List UInt8} (hn : N.Nodup) (hl : D.length ≤ N.length) (hM : ∀ m ∈ M, m ∈ D) (hs : s ∈ D ∨ s ∉ N) : memB (M.map (rnS D N)) (rnS D N s) = memB M s := by
  unfold memB
  rw [decide_eq_decide]
  constructor
  · intro h
    obtain ⟨m, hm, e⟩ := List.mem_map.1 h
    by_cases hd : s ∈ D
    · rw [← rnS_inj hn hl (hM m hm) hd e]; exact hm
    · have h1 := hs.resolve_left hd
      rw [rnS_not hd] at e
      exact absurd (e ▸ rnS_mem (hM m hm) hl) h1
  · exact fun h => List.mem_map_of_mem h
namespace Xp
mutual
theorem inf_ren {D N M : List (List UInt8)} (hn : N.Nodup) (hl : D.length ≤ N.length) (hM : ∀ m ∈ M, m ∈ D) (pair : Bool) : ∀ x : Xp, x.prop = true → x.free D N = false → (x.ren D N).inf (memB (M.map (rnS D N))) pair = x.inf (memB M) pair
  | .mk k v f t n xs => by
    intro hp hf
    rw [prop, Bool.and_eq_true] at hp
    rw [free, Bool.or_eq_false_iff] at hf
    rw [ren]
    by_cases hk : k = 2
    · subst hk
      have hxs : xs = [] := by
        have := hp.1
        unfold shpB at this
        simp only [Bool.and_eq_true, beq_iff_eq] at this
        have h := this.1.2
        have h0 : argsI 2 = 0 := by decide
        rw [h0] at h
        exact List.length_eq_zero_iff.1 (by omega)
      subst hxs
      rw [if_pos rfl, inf, inf, infs]
      rw [rnS_memB hn hl hM]
      · rw [infs]
      have h1 := hf.1
      unfold memB at h1
      by_cases hd : n ∈ D
      · exact .inl hd
      · refine .inr fun h => ?_
        simp [h, hd] at h1
    · rw [if_neg hk, inf, inf, infs_ren hn hl hM pair (opdI k) xs hp.2 hf.2]
      unfold finI
      simp [hk]
theorem infs_ren {D N M : List (List UInt8)} (hn : N.Nodup) (hl : D.length ≤ N.length) (hM : ∀ m ∈ M, m ∈ D) (pair : Bool) (w : Int) : ∀ xs : List Xp, props xs = true → frees D N xs = false → infs (memB (M.map (rnS D N))) pair w (rens D N xs) = infs (memB M) pair w xs
  | [] => by intro _ _; rw [rens, infs, infs]
  | x :: xs => by
    intro hp hf
    rw [props, Bool.and_eq_true] at hp
    rw [frees, Bool.or_eq_false_iff] at hf
    rw [rens, infs, infs, inf_ren hn hl hM pair x hp.1 hf.1, infs_ren hn hl hM pair w xs hp.2 hf.2]
end
end Xp
/-- A statement whose names are replaced. -/
def Stm.ren (D N : List (List UInt8)) (s : Stm) : Stm := ⟨s.kind, s.acc, if s.kind = 1 then rnS D N s.name else s.name, s.ex.ren D N⟩
theorem stmE_ren {known : Int → Bool} {D N M : List (List UInt8)} (hn : N.Nodup) (hl : D.length ≤ N.length) (hM : ∀ m ∈ M, m ∈ D) (pair : Bool) (s : Stm) (hp : s.ex.prop = true) (hf : s.ex.free D N = false) (hd : s.kind = 1 → s.name ∈ D) :
    stmE known (memB (M.map (rnS D N))) pair (s.ren D N) = stmE known (memB M) pair s := by
  unfold stmE Stm.ren
  simp only []
  rw [Xp.inf_ren hn hl hM pair s.ex hp hf]
  by_cases hk : s.kind = 1
  · rw [if_pos hk, rnS_memB hn hl hM (.inl (hd hk))]
  · simp [hk]
theorem stmsE_ren {known : Int → Bool} {D N : List (List UInt8)} (hn : N.Nodup) (hl : D.length ≤ N.length) (pair : Bool) : ∀ (ss : List Stm) (M : List (List UInt8)), (∀ m ∈ M, m ∈ D) → (∀ s ∈ ss, s.ex.prop = true) → (∀ s ∈ ss, s.ex.free D N = false) → (∀ s ∈ ss, s.kind = 1 → s.name ∈ D) →
    stmsE known pair (M.map (rnS D N)) (ss.map (Stm.ren D N)) = stmsE known pair M ss
  | [], M, _, _, _, _ => by rw [List.map_nil, stmsE, stmsE]
  | s :: ss, M, hM, hp, hf, hd => by
    rw [List.map_cons, stmsE, stmsE, stmE_ren hn hl hM pair s (hp s List.mem_cons_self) (hf s List.mem_cons_self) (hd s List.mem_cons_self)]
    have e : M.map (rnS D N) ++ namesOf [s.ren D N] = (M ++ namesOf [s]).map (rnS D N) := by
      rw [List.map_append]
      congr 1
      unfold namesOf Stm.ren
      by_cases hk : s.kind = 1
      · simp [hk]
      · simp [hk]
    rw [e, stmsE_ren hn hl pair ss (M ++ namesOf [s]) ?_ (fun x hx => hp x (List.mem_cons_of_mem _ hx)) (fun x hx => hf x (List.mem_cons_of_mem _ hx)) (fun x hx => hd x (List.mem_cons_of_mem _ hx))]
    intro m hm
    rcases List.mem_append.1 hm with h | h
    · exact hM m h
    · unfold namesOf at h
      obtain ⟨x, hx, rfl⟩ := List.mem_map.1 h
      obtain ⟨h1, h2⟩ := List.mem_filter.1 hx
      simp at h1
      subst h1
      exact hd x List.mem_cons_self (by simpa using h2)
theorem rulE_ren {known : Int → Bool} {D N : List (List UInt8)} (hn : N.Nodup) (hl : D.length ≤ N.length) (r : Rul) (hp : ∀ s ∈ r.stmts, s.ex.prop = true) (hf : ∀ s ∈ r.stmts, s.ex.free D N = false) (hd : ∀ s ∈ r.stmts, s.kind = 1 → s.name ∈ D) :
    rulE known ⟨r.name, r.pair, r.stmts.map (Stm.ren D N), r.to⟩ = rulE known r := by
  unfold rulE
  simp only []
  have := stmsE_ren (known := known) hn hl r.pair r.stmts [] (fun m h => by cases h) hp hf hd
  rw [List.map_nil] at this
  rw [this]
theorem rulsE_last {known : Int → Bool} {r r' : Rul} (h1 : r'.name = r.name) (h2 : rulE known r' = rulE known r) : ∀ (p : List Rul) (M : List (List UInt8)) (i : Nat), rulsE known M i (p ++ [r']) = rulsE known M i (p ++ [r])
  | [], M, i => by simp only [List.nil_append, rulsE, h1, h2]
  | x :: p, M, i => by
    rw [List.cons_append, List.cons_append, rulsE, rulsE, rulsE_last h1 h2 p]
/-- The law of renamed rules. -/
theorem chkR_ren {p : List Rul} {r : Rul} {D N : List (List UInt8)} (l : List Account) (hn : N.Nodup) (hl : D.length ≤ N.length) (hf : ∀ s ∈ r.stmts, s.ex.free D N = false) (hd : ∀ s ∈ r.stmts, s.kind = 1 → s.name ∈ D)
    (hv : prgB (p ++ [⟨r.name, r.pair, r.stmts.map (Stm.ren D N), r.to⟩]) = prgB (p ++ [r])) : chkR (p ++ [⟨r.name, r.pair, r.stmts.map (Stm.ren D N), r.to⟩]) l = chkR (p ++ [r]) l := by
  unfold chkR
  rw [hv]
  by_cases h : prgB (p ++ [r]) = true ∧ Cht.validR l true = true
  · rw [if_pos h, if_pos h]
    refine rulsE_last (known := knownB l) (r := r) (r' := ⟨r.name, r.pair, r.stmts.map (Stm.ren D N), r.to⟩) rfl (rulE_ren hn hl r ?_ hf hd) p [] 0
    intro s hs
    have h1 := h.1
    unfold prgB rulB stmB at h1
    simp only [Bool.and_eq_true, List.all_eq_true, decide_eq_true_eq] at h1
    exact ((h1.1 r (by simp)).2 s hs).2
  · rw [if_neg h, if_neg h]
end Go.Proofs.YtkapabohpfkcoaaDoor
end

/- Chapter 33: the law's free and used, the reference's Rename. -/
section
set_option linter.unusedSimpArgs false
set_option linter.unusedVariables false
set_option maxHeartbeats 4000000
set_option maxRecDepth 8000
namespace Go.Proofs.YtkapabohpfkcoaaDoor
open E

theorem w_free (D N : List (List UInt8)) : ∀ (x : Xp), Pure Tryd.prog 72 [x.v, vSL D, vSL N] (vB (x.free D N)) := by
  refine Xp.ind fun kd vl fr to nm xs ih => ?_
  have i1 := w_In N nm
  have i2 := w_In D nm
  rw [inS_memB] at i1 i2
  rw [Xp.free, Xp.frees_any, Xp.v, Xp.c_mk]
  generalize memB N nm = b1 at *
  generalize memB D nm = b2 at *
  by_cases hf : (kd == 2 && b1 && !b2) = true
  · rw [hf, Bool.true_or]
    simp only [Bool.and_eq_true, beq_iff_eq, Bool.not_eq_true'] at hf
    obtain ⟨⟨rfl, rfl⟩, rfl⟩ := hf
    (refine Pure.of_code mix Tryd.call72 k_72 (by simp) (fun hB => ?_); (try simp at hB); (try simp -implicitDefEqProofs [c_tallystonelaw33_free_72]))
    ((try simp at i1); (try simp at i2); (try simp -implicitDefEqProofs); repeat' first | ((first | with_reducible refine gdK_em (fun hc => ?_) (fun hc => ?_) | with_reducible refine cdK_em (fun hc => ?_) (fun hc => ?_) | with_reducible refine pickK_em (fun hc => ?_) (fun hc => ?_)) <;> (have hc' := hc; (try simp at hc'); simp -implicitDefEqProofs [hc, hc'])) | (with_reducible apply callK_pure <;> first | (simp only [eras, era, eras_map]; first | with_reducible exact i1 | with_reducible exact i2 | simpa using i1 | simpa using i2) | (simp -implicitDefEqProofs)))
  · rw [Bool.not_eq_true] at hf
    rw [hf, Bool.false_or]
    generalize hR : xs.any (Xp.free D N) = R
    have main : ∀ k2 : Bool, (kd == 2) = k2 → Pure Tryd.prog 72 [.agg ([T.int .i64 kd, .int .i64 vl, .int .i64 fr, .int .i64 to, .str nm, .sl (xs.map Xp.c)].map V.t), vSL D, vSL N] (vB R) := by
      intro k2 hk2
      rw [hk2] at hf
      (refine Pure.of_code mix Tryd.call72 k_72 (by simp) (fun hB => ?_); (try simp at hB); (try simp -implicitDefEqProofs [c_tallystonelaw33_free_72]))
      cases k2
      · ((try simp at i1); (try simp at i2); (try simp -implicitDefEqProofs [hk2]); repeat' first | ((first | with_reducible refine gdK_em (fun hc => ?_) (fun hc => ?_) | with_reducible refine cdK_em (fun hc => ?_) (fun hc => ?_) | with_reducible refine pickK_em (fun hc => ?_) (fun hc => ?_)) <;> (have hc' := hc; (try simp at hc'); simp -implicitDefEqProofs [hc, hc', hk2])) | (with_reducible apply callK_pure <;> first | (simp only [eras, era, eras_map]; first | with_reducible exact i1 | with_reducible exact i2 | simpa using i1 | simpa using i2) | (simp -implicitDefEqProofs [hk2])))
        refine loop_rule (X := Nat) (fun k => k ≤ xs.length ∧ (xs.drop k).any (Xp.free D N) = R) (fun k => [(1, vSL D), (2, vSL N), (3, .ptr 0 0), (7, vI k)]) (fun _ => ⟨[.cells [vI kd, vI vl, vI fr, vI to, vS nm, Xp.l xs]], []⟩) (fun k => xs.length - k) 0 ⟨by simp, by simpa using hR⟩ (by simp) ?_
        rintro k ⟨hk, hi⟩ hbd
        clear hbd
        rcases Nat.lt_or_ge k xs.length with h | h
        · have hx : xs[k]? = some xs[k] := by simp [h]
          have hrec := ih xs[k] (List.getElem_mem h)
          have e3 : IntKind.i64.wrap ((k : Int) + 1) = (k : Int) + 1 := wrap64 (by omega) (by simp [maxLen] at hB; omega)
          have hlc := len_c xs[k]
          have htc := take_c xs[k]
          rw [List.drop_eq_getElem_cons h, List.any_cons] at hi
          generalize Xp.free D N xs[k] = b at *
          cases b
          · rw [Bool.false_or] at hi
            ((try simp at hrec); (try simp -implicitDefEqProofs [h, e3, hlc, htc]); repeat' first | ((first | with_reducible refine gdK_em (fun hc => ?_) (fun hc => ?_) | with_reducible refine cdK_em (fun hc => ?_) (fun hc => ?_) | with_reducible refine pickK_em (fun hc => ?_) (fun hc => ?_)) <;> (have hc' := hc; (try simp at hc'); simp -implicitDefEqProofs [hc, hc', h, e3, hlc, htc])) | (with_reducible apply callK_pure <;> first | (simp only [eras, era, eras_map]; first | with_reducible exact hrec | simpa using hrec) | (simp -implicitDefEqProofs [h, e3, hlc, htc])))
            exact ⟨k + 1, ⟨by omega, hi⟩, by omega, by push_cast; rfl⟩
          · rw [Bool.true_or] at hi
            subst hi
            ((try simp at hrec); (try simp -implicitDefEqProofs [h, e3, hlc, htc]); repeat' first | ((first | with_reducible refine gdK_em (fun hc => ?_) (fun hc => ?_) | with_reducible refine cdK_em (fun hc => ?_) (fun hc => ?_) | with_reducible refine pickK_em (fun hc => ?_) (fun hc => ?_)) <;> (have hc' := hc; (try simp at hc'); simp -implicitDefEqProofs [hc, hc', h, e3, hlc, htc])) | (with_reducible apply callK_pure <;> first | (simp only [eras, era, eras_map]; first | with_reducible exact hrec | simpa using hrec) | (simp -implicitDefEqProofs [h, e3, hlc, htc])))
        · have : k = xs.length := by omega
          subst this
          rw [List.drop_length] at hi
          simp at hi
          subst hi
          ((try simp -implicitDefEqProofs); repeat' first | ((first | with_reducible refine gdK_em (fun hc => ?_) (fun hc => ?_) | with_reducible refine cdK_em (fun hc => ?_) (fun hc => ?_) | with_reducible refine pickK_em (fun hc => ?_) (fun hc => ?_)) <;> (have hc' := hc; (try simp at hc'); simp -implicitDefEqProofs [hc, hc'])))
      · cases b1
        · ((try simp at i1); (try simp at i2); (try simp -implicitDefEqProofs [hk2]); repeat' first | ((first | with_reducible refine gdK_em (fun hc => ?_) (fun hc => ?_) | with_reducible refine cdK_em (fun hc => ?_) (fun hc => ?_) | with_reducible refine pickK_em (fun hc => ?_) (fun hc => ?_)) <;> (have hc' := hc; (try simp at hc'); simp -implicitDefEqProofs [hc, hc', hk2])) | (with_reducible apply callK_pure <;> first | (simp only [eras, era, eras_map]; first | with_reducible exact i1 | with_reducible exact i2 | simpa using i1 | simpa using i2) | (simp -implicitDefEqProofs [hk2])))
          refine loop_rule (X := Nat) (fun k => k ≤ xs.length ∧ (xs.drop k).any (Xp.free D N) = R) (fun k => [(1, vSL D), (2, vSL N), (3, .ptr 0 0), (7, vI k)]) (fun _ => ⟨[.cells [vI kd, vI vl, vI fr, vI to, vS nm, Xp.l xs]], []⟩) (fun k => xs.length - k) 0 ⟨by simp, by simpa using hR⟩ (by simp) ?_
          rintro k ⟨hk, hi⟩ hbd
          clear hbd
          rcases Nat.lt_or_ge k xs.length with h | h
          · have hx : xs[k]? = some xs[k] := by simp [h]
            have hrec := ih xs[k] (List.getElem_mem h)
            have e3 : IntKind.i64.wrap ((k : Int) + 1) = (k : Int) + 1 := wrap64 (by omega) (by simp [maxLen] at hB; omega)
            have hlc := len_c xs[k]
            have htc := take_c xs[k]
            rw [List.drop_eq_getElem_cons h, List.any_cons] at hi
            generalize Xp.free D N xs[k] = b at *
            cases b
            · rw [Bool.false_or] at hi
              ((try simp at hrec); (try simp -implicitDefEqProofs [h, e3, hlc, htc]); repeat' first | ((first | with_reducible refine gdK_em (fun hc => ?_) (fun hc => ?_) | with_reducible refine cdK_em (fun hc => ?_) (fun hc => ?_) | with_reducible refine pickK_em (fun hc => ?_) (fun hc => ?_)) <;> (have hc' := hc; (try simp at hc'); simp -implicitDefEqProofs [hc, hc', h, e3, hlc, htc])) | (with_reducible apply callK_pure <;> first | (simp only [eras, era, eras_map]; first | with_reducible exact hrec | simpa using hrec) | (simp -implicitDefEqProofs [h, e3, hlc, htc])))
              exact ⟨k + 1, ⟨by omega, hi⟩, by omega, by push_cast; rfl⟩
            · rw [Bool.true_or] at hi
              subst hi
              ((try simp at hrec); (try simp -implicitDefEqProofs [h, e3, hlc, htc]); repeat' first | ((first | with_reducible refine gdK_em (fun hc => ?_) (fun hc => ?_) | with_reducible refine cdK_em (fun hc => ?_) (fun hc => ?_) | with_reducible refine pickK_em (fun hc => ?_) (fun hc => ?_)) <;> (have hc' := hc; (try simp at hc'); simp -implicitDefEqProofs [hc, hc', h, e3, hlc, htc])) | (with_reducible apply callK_pure <;> first | (simp only [eras, era, eras_map]; first | with_reducible exact hrec | simpa using hrec) | (simp -implicitDefEqProofs [h, e3, hlc, htc])))
          · have : k = xs.length := by omega
            subst this
            rw [List.drop_length] at hi
            simp at hi
            subst hi
            ((try simp -implicitDefEqProofs); repeat' first | ((first | with_reducible refine gdK_em (fun hc => ?_) (fun hc => ?_) | with_reducible refine cdK_em (fun hc => ?_) (fun hc => ?_) | with_reducible refine pickK_em (fun hc => ?_) (fun hc => ?_)) <;> (have hc' := hc; (try simp at hc'); simp -implicitDefEqProofs [hc, hc'])))
        · cases b2
          · simp at hf
          · ((try simp at i1); (try simp at i2); (try simp -implicitDefEqProofs [hk2]); repeat' first | ((first | with_reducible refine gdK_em (fun hc => ?_) (fun hc => ?_) | with_reducible refine cdK_em (fun hc => ?_) (fun hc => ?_) | with_reducible refine pickK_em (fun hc => ?_) (fun hc => ?_)) <;> (have hc' := hc; (try simp at hc'); simp -implicitDefEqProofs [hc, hc', hk2])) | (with_reducible apply callK_pure <;> first | (simp only [eras, era, eras_map]; first | with_reducible exact i1 | with_reducible exact i2 | simpa using i1 | simpa using i2) | (simp -implicitDefEqProofs [hk2])))
            refine loop_rule (X := Nat) (fun k => k ≤ xs.length ∧ (xs.drop k).any (Xp.free D N) = R) (fun k => [(1, vSL D), (2, vSL N), (3, .ptr 0 0), (7, vI k)]) (fun _ => ⟨[.cells [vI kd, vI vl, vI fr, vI to, vS nm, Xp.l xs]], []⟩) (fun k => xs.length - k) 0 ⟨by simp, by simpa using hR⟩ (by simp) ?_
            rintro k ⟨hk, hi⟩ hbd
            clear hbd
            rcases Nat.lt_or_ge k xs.length with h | h
            · have hx : xs[k]? = some xs[k] := by simp [h]
              have hrec := ih xs[k] (List.getElem_mem h)
              have e3 : IntKind.i64.wrap ((k : Int) + 1) = (k : Int) + 1 := wrap64 (by omega) (by simp [maxLen] at hB; omega)
              have hlc := len_c xs[k]
              have htc := take_c xs[k]
              rw [List.drop_eq_getElem_cons h, List.any_cons] at hi
              generalize Xp.free D N xs[k] = b at *
              cases b
              · rw [Bool.false_or] at hi
                ((try simp at hrec); (try simp -implicitDefEqProofs [h, e3, hlc, htc]); repeat' first | ((first | with_reducible refine gdK_em (fun hc => ?_) (fun hc => ?_) | with_reducible refine cdK_em (fun hc => ?_) (fun hc => ?_) | with_reducible refine pickK_em (fun hc => ?_) (fun hc => ?_)) <;> (have hc' := hc; (try simp at hc'); simp -implicitDefEqProofs [hc, hc', h, e3, hlc, htc])) | (with_reducible apply callK_pure <;> first | (simp only [eras, era, eras_map]; first | with_reducible exact hrec | simpa using hrec) | (simp -implicitDefEqProofs [h, e3, hlc, htc])))
                exact ⟨k + 1, ⟨by omega, hi⟩, by omega, by push_cast; rfl⟩
              · rw [Bool.true_or] at hi
                subst hi
                ((try simp at hrec); (try simp -implicitDefEqProofs [h, e3, hlc, htc]); repeat' first | ((first | with_reducible refine gdK_em (fun hc => ?_) (fun hc => ?_) | with_reducible refine cdK_em (fun hc => ?_) (fun hc => ?_) | with_reducible refine pickK_em (fun hc => ?_) (fun hc => ?_)) <;> (have hc' := hc; (try simp at hc'); simp -implicitDefEqProofs [hc, hc', h, e3, hlc, htc])) | (with_reducible apply callK_pure <;> first | (simp only [eras, era, eras_map]; first | with_reducible exact hrec | simpa using hrec) | (simp -implicitDefEqProofs [h, e3, hlc, htc])))
            · have : k = xs.length := by omega
              subst this
              rw [List.drop_length] at hi
              simp at hi
              subst hi
              ((try simp -implicitDefEqProofs); repeat' first | ((first | with_reducible refine gdK_em (fun hc => ?_) (fun hc => ?_) | with_reducible refine cdK_em (fun hc => ?_) (fun hc => ?_) | with_reducible refine pickK_em (fun hc => ?_) (fun hc => ?_)) <;> (have hc' := hc; (try simp at hc'); simp -implicitDefEqProofs [hc, hc'])))
    exact main _ rfl
theorem w_used (D N : List (List UInt8)) (r : Rul) (hss : r.stmts.length ≤ 1000) : Pure Tryd.prog 39 [r.v, vSL D, vSL N] (vB (r.stmts.any fun s => s.ex.free D N)) := by
  obtain ⟨nm, pair, ss, to⟩ := r
  simp only [] at hss ⊢
  generalize hR : ss.any (fun s => s.ex.free D N) = R
  have hrc : Rul.c ⟨nm, pair, ss, to⟩ = [T.str nm, T.bool pair, T.sl (ss.map Stm.c), T.int .i64 to] := rfl
  (refine Pure.of_code mix Tryd.call39 k_39 (by simp) (fun hB => ?_); (try simp at hB); (try simp -implicitDefEqProofs [c_tallystonelaw33_used_39]))
  ((try simp -implicitDefEqProofs [hrc]); repeat' first | ((first | with_reducible refine gdK_em (fun hc => ?_) (fun hc => ?_) | with_reducible refine cdK_em (fun hc => ?_) (fun hc => ?_) | with_reducible refine pickK_em (fun hc => ?_) (fun hc => ?_)) <;> (have hc' := hc; (try simp at hc'); simp -implicitDefEqProofs [hc, hc', hrc])))
  refine loop_rule (X := Nat) (fun k => k ≤ ss.length ∧ (ss.drop k).any (fun s => s.ex.free D N) = R) (fun k => [(1, vSL D), (2, vSL N), (3, .ptr 0 0), (7, vI k)]) (fun _ => ⟨[.cells [vS nm, vB pair, Stm.l ss, vI to]], []⟩) (fun k => ss.length - k) 0 ⟨by simp, by simpa using hR⟩ (by simp) ?_
  rintro k ⟨hk, hi⟩ hbd
  clear hbd
  rcases Nat.lt_or_ge k ss.length with h | h
  · have hx : ss[k]? = some ss[k] := by simp [h]
    obtain ⟨kd, acc, sn, x, hs⟩ : ∃ kd acc sn x, ss[k] = ⟨kd, acc, sn, x⟩ := ⟨_, _, _, _, rfl⟩
    have hsk : (ss.map Stm.c)[k]? = some (.int .i64 kd :: .int .i64 acc :: .str sn :: x.c) := by simp [h, hs, Stm.c]
    have hcc : ss[k].c = (.int .i64 kd :: .int .i64 acc :: .str sn :: x.c) := by rw [hs]; rfl
    have hrec := w_free D N x
    have e3 : IntKind.i64.wrap ((k : Int) + 1) = (k : Int) + 1 := wrap64 (by omega) (by omega)
    have hlc := len_c x
    have htc := take_c x
    rw [List.drop_eq_getElem_cons h, List.any_cons, hs] at hi
    simp only [] at hi
    generalize Xp.free D N x = b at *
    cases b
    · rw [Bool.false_or] at hi
      ((try simp at hrec); (try simp -implicitDefEqProofs [h, hsk, hcc, e3, hlc, htc]); repeat' first | ((first | with_reducible refine gdK_em (fun hc => ?_) (fun hc => ?_) | with_reducible refine cdK_em (fun hc => ?_) (fun hc => ?_) | with_reducible refine pickK_em (fun hc => ?_) (fun hc => ?_)) <;> (have hc' := hc; (try simp at hc'); simp -implicitDefEqProofs [hc, hc', h, hsk, hcc, e3, hlc, htc])) | (with_reducible apply callK_pure <;> first | (simp only [eras, era, eras_map]; first | with_reducible exact hrec | simpa using hrec) | (simp -implicitDefEqProofs [h, hsk, hcc, e3, hlc, htc])))
      exact ⟨k + 1, ⟨by omega, hi⟩, by omega, by push_cast; rfl⟩
    · rw [Bool.true_or] at hi
      subst hi
      ((try simp at hrec); (try simp -implicitDefEqProofs [h, hsk, hcc, e3, hlc, htc]); repeat' first | ((first | with_reducible refine gdK_em (fun hc => ?_) (fun hc => ?_) | with_reducible refine cdK_em (fun hc => ?_) (fun hc => ?_) | with_reducible refine pickK_em (fun hc => ?_) (fun hc => ?_)) <;> (have hc' := hc; (try simp at hc'); simp -implicitDefEqProofs [hc, hc', h, hsk, hcc, e3, hlc, htc])) | (with_reducible apply callK_pure <;> first | (simp only [eras, era, eras_map]; first | with_reducible exact hrec | simpa using hrec) | (simp -implicitDefEqProofs [h, hsk, hcc, e3, hlc, htc])))
  · have : k = ss.length := by omega
    subst this
    rw [List.drop_length] at hi
    simp at hi
    subst hi
    ((try simp -implicitDefEqProofs); repeat' first | ((first | with_reducible refine gdK_em (fun hc => ?_) (fun hc => ?_) | with_reducible refine cdK_em (fun hc => ?_) (fun hc => ?_) | with_reducible refine pickK_em (fun hc => ?_) (fun hc => ?_)) <;> (have hc' := hc; (try simp at hc'); simp -implicitDefEqProofs [hc, hc'])))
theorem rnS_at : ∀ {D N : List (List UInt8)} {s : List UInt8} {k : Nat}, (∀ j, j < k → D[j]? ≠ some s) → rnS (D.drop k) (N.drop k) s = rnS D N s
  | D, N, s, 0, _ => by simp
  | [], N, s, k + 1, _ => by simp [rnS]
  | d :: D, [], s, k + 1, _ => by simp [rnS]
  | d :: D, n :: N, s, k + 1, h => by
    rw [List.drop_succ_cons, List.drop_succ_cons, rnS_at (fun j hj => by have := h (j + 1) (by omega); simpa using this), rnS, if_neg (fun e => h 0 (by omega) (by simp [e]))]
theorem w_Rename (D N : List (List UInt8)) : ∀ (x : Xp), x.cnt ≤ 100000 → Pure Tryd.prog 38 [x.v, vSL D, vSL N] (x.ren D N).v := by
  refine Xp.ind fun kd vl fr to nm xs ih hcnt => ?_
  rw [Xp.cnt] at hcnt
  have hal := Xp.cnts_len xs
  rw [Xp.ren, Xp.v, Xp.c_mk]
  by_cases hk : kd = 2
  · subst hk
    rw [if_pos rfl, Xp.v, Xp.c_mk]
    generalize hE : rnS D N nm = E
    (refine Pure.of_code mix Tryd.call38 k_38 (by simp) (fun hB => ?_); (try simp at hB); (try simp -implicitDefEqProofs [c_tallystoneref33_Rename_38]))
    refine loop_rule (X := Nat) (fun k => (k ≤ D.length ∧ k ≤ N.length) ∧ rnS (D.drop k) (N.drop k) nm = E) (fun k => [(1, vSL D), (2, vSL N), (3, .ptr 0 0), (6, .ptr 1 0), (7, vI k)]) (fun _ => ⟨[.cells [vI 2, vI vl, vI fr, vI to, vS nm, Xp.l xs], .cells [vI 0, vI 0, vI 0, vI 0, vS [], .snil]], []⟩) (fun k => D.length - k) 0 ⟨by simp, by simpa using hE⟩ (by simp) ?_
    rintro k ⟨⟨hk, hk'⟩, hi⟩ hbd
    clear hbd
    rcases Nat.lt_or_ge k D.length with h | h
    · rcases Nat.lt_or_ge k N.length with h' | h'
      · have hx : D[k]? = some D[k] := by simp [h]
        have hx' : N[k]? = some N[k] := by simp [h']
        have e3 : IntKind.i64.wrap ((k : Int) + 1) = (k : Int) + 1 := wrap64 (by omega) (by simp [maxLen] at hB; omega)
        rw [List.drop_eq_getElem_cons h, List.drop_eq_getElem_cons h', rnS] at hi
        by_cases hq : D[k] = nm
        · have hq' : (D[k] == nm) = true := by simpa using hq
          rw [if_pos hq] at hi
          subst hi
          ((try simp -implicitDefEqProofs [h, h', hx, hx', e3, hq']); repeat' first | ((first | with_reducible refine gdK_em (fun hc => ?_) (fun hc => ?_) | with_reducible refine cdK_em (fun hc => ?_) (fun hc => ?_) | with_reducible refine pickK_em (fun hc => ?_) (fun hc => ?_)) <;> (have hc' := hc; (try simp at hc'); simp -implicitDefEqProofs [hc, hc', h, h', hx, hx', e3, hq'])))
        · have hq' : (D[k] == nm) = false := by simpa using hq
          rw [if_neg hq] at hi
          ((try simp -implicitDefEqProofs [h, h', hx, hx', e3, hq']); repeat' first | ((first | with_reducible refine gdK_em (fun hc => ?_) (fun hc => ?_) | with_reducible refine cdK_em (fun hc => ?_) (fun hc => ?_) | with_reducible refine pickK_em (fun hc => ?_) (fun hc => ?_)) <;> (have hc' := hc; (try simp at hc'); simp -implicitDefEqProofs [hc, hc', h, h', hx, hx', e3, hq'])))
          exact ⟨k + 1, ⟨⟨by omega, by omega⟩, hi⟩, by omega, by push_cast; rfl⟩
      · have : k = N.length := by omega
        subst this
        rw [List.drop_length, rnS] at hi
        subst hi
        ((try simp -implicitDefEqProofs [h, h']); repeat' first | ((first | with_reducible refine gdK_em (fun hc => ?_) (fun hc => ?_) | with_reducible refine cdK_em (fun hc => ?_) (fun hc => ?_) | with_reducible refine pickK_em (fun hc => ?_) (fun hc => ?_)) <;> (have hc' := hc; (try simp at hc'); simp -implicitDefEqProofs [hc, hc', h, h'])))
        all_goals simp
    · have : k = D.length := by omega
      subst this
      rw [List.drop_length, rnS] at hi
      subst hi
      ((try simp -implicitDefEqProofs [h]); repeat' first | ((first | with_reducible refine gdK_em (fun hc => ?_) (fun hc => ?_) | with_reducible refine cdK_em (fun hc => ?_) (fun hc => ?_) | with_reducible refine pickK_em (fun hc => ?_) (fun hc => ?_)) <;> (have hc' := hc; (try simp at hc'); simp -implicitDefEqProofs [hc, hc', h])))
      all_goals simp
  · have hk' : (kd == 2) = false := by simpa using hk
    rw [if_neg hk, Xp.rens_map, Xp.v, Xp.c_mk]
    obtain ⟨L, hL⟩ : ∃ L, L = (xs.map (Xp.ren D N)).map Xp.c := ⟨_, rfl⟩
    rw [← hL]
    have hLl : L.length = xs.length := by rw [hL]; simp
    (refine Pure.of_code mix Tryd.call38 k_38 (by simp) (fun hB => ?_); (try simp at hB); (try simp -implicitDefEqProofs [c_tallystoneref33_Rename_38]))
    ((try simp -implicitDefEqProofs [hk']); repeat' first | ((first | with_reducible refine gdK_em (fun hc => ?_) (fun hc => ?_) | with_reducible refine cdK_em (fun hc => ?_) (fun hc => ?_) | with_reducible refine pickK_em (fun hc => ?_) (fun hc => ?_)) <;> (have hc' := hc; (try simp at hc'); simp -implicitDefEqProofs [hc, hc', hk'])))
    refine loop_grow [(.slot 8, 32, 6)] (X := Nat) (fun k => k ≤ xs.length) (fun k => [(1, vSL D), (2, vSL N), (3, .ptr 0 0), (6, .ptr 1 0), (8, .own 0 32 6 (L.take k)), (9, vI k)])
      (fun k => ⟨[.cells [vI kd, vI vl, vI fr, vI to, vS nm, Xp.l xs], .cells [vI 0, vI 0, vI 0, vI 0, vS [], .snil]], [k]⟩) (fun k => xs.length - k) 0 (by omega) (by simp) ?_
    rintro k hk hbd
    clear hbd
    rcases Nat.lt_or_ge k xs.length with h | h
    · have hx : xs[k]? = some xs[k] := by simp [h]
      have hrec := ih xs[k] (List.getElem_mem h) (by have := Xp.cnts_mem (List.getElem_mem h); omega)
      have e3 : IntKind.i64.wrap ((k : Int) + 1) = (k : Int) + 1 := wrap64 (by omega) (by simp [maxLen] at hB; omega)
      have hmin : min k L.length = k := by omega
      have hlc := len_c xs[k]
      have htc := take_c xs[k]
      have hlc' := len_c (xs[k].ren D N)
      have htc' := take_c (xs[k].ren D N)
      have hrv : L.take (k + 1) = L.take k ++ [(xs[k].ren D N).c] := by rw [take_next (x := (xs[k].ren D N).c) (by rw [hL]; simp [h])]
      ((try simp at hrec); (try simp -implicitDefEqProofs [h, e3, maxLen, hmin, hlc, htc, hlc', htc']); repeat' first | ((first | with_reducible refine gdK_em (fun hc => ?_) (fun hc => ?_) | with_reducible refine cdK_em (fun hc => ?_) (fun hc => ?_) | with_reducible refine pickK_em (fun hc => ?_) (fun hc => ?_)) <;> (have hc' := hc; (try simp at hc'); simp -implicitDefEqProofs [hc, hc', h, e3, maxLen, hmin, hlc, htc, hlc', htc'])) | (with_reducible apply callK_pure <;> first | (simp only [eras, era, eras_map]; first | with_reducible exact hrec | simpa using hrec) | (simp -implicitDefEqProofs [h, e3, maxLen, hmin, hlc, htc, hlc', htc'])))
      exact ⟨⟨by omega, by omega⟩, k + 1, by omega, by omega, rfl, by rw [hrv]; exact .inl (.inl rfl), by push_cast; rfl⟩
    · have : k = xs.length := by omega
      subst this
      have ht : L.take xs.length = L := List.take_of_length_le (by omega)
      ((try simp -implicitDefEqProofs [ht]); repeat' first | ((first | with_reducible refine gdK_em (fun hc => ?_) (fun hc => ?_) | with_reducible refine cdK_em (fun hc => ?_) (fun hc => ?_) | with_reducible refine pickK_em (fun hc => ?_) (fun hc => ?_)) <;> (have hc' := hc; (try simp at hc'); simp -implicitDefEqProofs [hc, hc', ht])))
end Go.Proofs.YtkapabohpfkcoaaDoor
end

/- Chapter 33: plain facts of the law CheckRenames: the names that a rule defines, and renamed programs. -/
section
set_option linter.unusedSimpArgs false
set_option linter.unusedVariables false
set_option maxHeartbeats 1000000
namespace Go.Proofs.YtkapabohpfkcoaaDoor
open E

def dfS (D : List (List UInt8)) (s : Stm) : List (List UInt8) := if s.kind = 1 ∧ s.name ∉ D then D ++ [s.name] else D
/-- The names that statements define, each once. -/
def dfs : List (List UInt8) → List Stm → List (List UInt8)
  | D, [] => D
  | D, s :: ss => dfs (dfS D s) ss
theorem dfs_at {D : List (List UInt8)} {ss : List Stm} {k : Nat} {s : Stm} (h : ss[k]? = some s) : dfs D (ss.drop k) = dfs (dfS D s) (ss.drop (k + 1)) := by
  obtain ⟨hlt, rfl⟩ := List.getElem?_eq_some_iff.1 h
  rw [List.drop_eq_getElem_cons hlt, dfs]
theorem dfS_nodup {D : List (List UInt8)} {s : Stm} (h : D.Nodup) : (dfS D s).Nodup := by
  unfold dfS
  split
  · rename_i hs
    rw [List.nodup_append]
    exact ⟨h, by simp, fun x hx y hy => by simp at hy; subst hy; exact fun e => hs.2 (e ▸ hx)⟩
  · exact h
theorem dfs_nodup : ∀ (ss : List Stm) {D : List (List UInt8)}, D.Nodup → (dfs D ss).Nodup
  | [], D, h => h
  | s :: ss, D, h => by rw [dfs]; exact dfs_nodup ss (dfS_nodup h)
theorem dfS_sub {D : List (List UInt8)} {s : Stm} {x : List UInt8} (h : x ∈ D) : x ∈ dfS D s := by
  unfold dfS; split
  · exact List.mem_append_left _ h
  · exact h
theorem dfs_sub : ∀ (ss : List Stm) {D : List (List UInt8)} {x : List UInt8}, x ∈ D → x ∈ dfs D ss
  | [], D, x, h => h
  | s :: ss, D, x, h => by rw [dfs]; exact dfs_sub ss (dfS_sub h)
theorem dfs_mem : ∀ (ss : List Stm) {D : List (List UInt8)} {s : Stm}, s ∈ ss → s.kind = 1 → s.name ∈ dfs D ss
  | y :: ss, D, s, h, hk => by
    rw [dfs]
    rcases List.mem_cons.1 h with rfl | h
    · refine dfs_sub ss ?_
      unfold dfS
      by_cases hm : s.name ∈ D
      · rw [if_neg (fun q => q.2 hm)]; exact hm
      · rw [if_pos ⟨hk, hm⟩]; simp
    · exact dfs_mem ss h hk
theorem dfS_len (D : List (List UInt8)) (s : Stm) : (dfS D s).length ≤ D.length + 1 := by
  unfold dfS; split
  · simp
  · omega
theorem dfs_len : ∀ (ss : List Stm) (D : List (List UInt8)), (dfs D ss).length ≤ D.length + ss.length
  | [], D => by rw [dfs]; simp
  | s :: ss, D => by
    rw [dfs]
    have := dfs_len ss (dfS D s)
    have := dfS_len D s
    simp; omega
/-- One more name of the lists. -/
theorem rnS_next : ∀ {D N : List (List UInt8)} {k : Nat} {d : List UInt8} (s : List UInt8) (hk : k < N.length), D.Nodup → D[k]? = some d →
    rnS (D.take (k + 1)) N s = if s = d then N[k] else rnS (D.take k) N s
  | [], N, k, d, s, hk, _, h => by simp at h
  | d0 :: D, [], k, d, s, hk, _, h => by simp at hk
  | d0 :: D, n0 :: N, 0, d, s, hk, _, h => by
    simp at h
    subst h
    rw [List.take_succ_cons, rnS, List.take_zero, List.take_zero]
    by_cases e : d0 = s
    · rw [if_pos e, if_pos e.symm]; rfl
    · rw [if_neg e, if_neg (Ne.symm e), rnS, rnS] <;> simp
  | d0 :: D, n0 :: N, k + 1, d, s, hk, hn, h => by
    have hn' := List.nodup_cons.1 hn
    have h' : D[k]? = some d := by simpa using h
    have hk' : k < N.length := by simpa using hk
    rw [List.take_succ_cons, rnS, List.take_succ_cons, rnS, rnS_next s hk' hn'.2 h']
    by_cases e : d0 = s
    · rw [if_pos e, if_pos e]
      have : ¬ s = d := fun q => hn'.1 (by rw [e, q]; exact List.mem_of_getElem? h')
      rw [if_neg this]
    · rw [if_neg e, if_neg e]; rfl
theorem nodup_take {N : List (List UInt8)} {k : Nat} {x : List UInt8} (hx : N[k]? = some x) (h : (N.take k).Nodup) (hno : ∀ j, j < k → N[j]? ≠ some x) : (N.take (k + 1)).Nodup := by
  rw [take_next hx, List.nodup_append]
  refine ⟨h, by simp, fun a ha b hb e => ?_⟩
  simp at hb
  subst hb; subst e
  obtain ⟨j, hj, hje⟩ := List.mem_iff_getElem.1 ha
  rw [List.length_take] at hj
  rw [List.getElem_take] at hje
  exact hno j (by omega) (by rw [List.getElem?_eq_getElem (by omega), hje])
namespace Xp
theorem oks_of : ∀ (l : List Xp), (∀ x ∈ l, ok x) → oks l
  | [], _ => trivial
  | x :: l, h => ⟨h x (by simp), oks_of l fun y hy => h y (by simp [hy])⟩
end Xp
theorem rnS_len {D N : List (List UInt8)} (hN : ∀ n ∈ N, n.length ≤ maxLen) {s : List UInt8} (hs : s.length ≤ maxLen) : (rnS D N s).length ≤ maxLen := by
  induction D generalizing N with
  | nil => rw [rnS]; exact hs; simp
  | cons d D ih =>
    cases N with
    | nil => rw [rnS]; exact hs; simp
    | cons n N =>
      rw [rnS]
      split
      · exact hN n (by simp)
      · exact ih (fun x hx => hN x (by simp [hx]))
theorem ren_ok {D N : List (List UInt8)} (hN : ∀ n ∈ N, n.length ≤ maxLen) : ∀ x : Xp, x.ok → (x.ren D N).ok := by
  refine Xp.ind fun k v f t n xs ih h => ?_
  rw [Xp.ok] at h
  rw [Xp.ren]
  split
  · rw [Xp.ok]; exact ⟨rnS_len hN h.1, h.2⟩
  · rw [Xp.ok, Xp.rens_map]
    refine ⟨h.1, Xp.oks_of _ fun y hy => ?_⟩
    obtain ⟨x, hx, rfl⟩ := List.mem_map.1 hy
    exact ih x hx (Xp.oks_mem xs h.2 x hx)
theorem Stm.ren_ok {D N : List (List UInt8)} (hN : ∀ n ∈ N, n.length ≤ maxLen) {s : Stm} (h : s.ok) : (s.ren D N).ok := by
  unfold Stm.ren Stm.ok
  refine ⟨?_, Go.Proofs.YtkapabohpfkcoaaDoor.ren_ok hN s.ex h.2⟩
  simp only []
  split
  · exact rnS_len hN h.1
  · exact h.1
/-- The program with the last rule renamed. -/
def renP (p : List Rul) (r : Rul) (D N : List (List UInt8)) : List Rul := p ++ [⟨r.name, r.pair, r.stmts.map (Stm.ren D N), r.to⟩]
end Go.Proofs.YtkapabohpfkcoaaDoor
end
