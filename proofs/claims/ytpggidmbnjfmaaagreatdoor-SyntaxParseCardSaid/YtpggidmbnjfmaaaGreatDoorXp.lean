/- Expressions, statements, rules: values and their cells; copies, sizes. -/
import Derived.Test.YtpggidmbnjfmaaaGreatDoorCodeB
import Derived.Test.YtpggidmbnjfmaaaGreatDoorSlices
set_option linter.unusedSimpArgs false
set_option linter.unusedVariables false
set_option maxHeartbeats 1000000
set_option maxRecDepth 8000
namespace Go.Proofs.YtpggidmbnjfmaaaGreatDoor
open E

inductive Xp where
 | mk (kind val frm to : Int) (name : List UInt8) (args : List Xp)
namespace Xp
def kind : Xp → Int | .mk k _ _ _ _ _ => k
def val : Xp → Int | .mk _ v _ _ _ _ => v
def frm : Xp → Int | .mk _ _ f _ _ _ => f
def to : Xp → Int | .mk _ _ _ t _ _ => t
def name : Xp → List UInt8 | .mk _ _ _ _ n _ => n
def args : Xp → List Xp | .mk _ _ _ _ _ a => a
mutual
def c : Xp → List T
 | .mk k v f t n xs => [.int .i64 k, .int .i64 v, .int .i64 f, .int .i64 t, .str n, .sl (cs xs)]
def cs : List Xp → List (List T)
 | [] => []
 | x :: ys => c x :: cs ys
end
theorem cs_map (l : List Xp) : cs l = l.map c := by
 induction l with
 | nil => rfl
 | cons x l ih => rw [cs, ih]; rfl
theorem c_mk (k v f t : Int) (n : List UInt8) (xs : List Xp) : (mk k v f t n xs).c = [.int .i64 k, .int .i64 v, .int .i64 f, .int .i64 t, .str n, .sl (xs.map c)] := by rw [c, cs_map]
abbrev v (x : Xp) : V := .agg (x.c.map .t)
abbrev l (ys : List Xp) : V := .t (.sl (ys.map c))
theorem ind {P : Xp → Prop} (h : ∀ k v f t n xs, (∀ a ∈ xs, P a) → P (.mk k v f t n xs)) : ∀ x, P x := by
 intro x
 refine Xp.rec (motive_1 := P) (motive_2 := fun xs => ∀ a ∈ xs, P a) (fun k v f t n xs ih => h k v f t n xs ih) (by simp) (fun x ys h1 h2 a ha => ?_) x
 rcases List.mem_cons.1 ha with rfl | ha
 ·exact h1
 ·exact h2 a ha
mutual
def cnt : Xp → Nat
 | .mk _ _ _ _ _ xs => 1 + cnts xs
def cnts : List Xp → Nat
 | [] => 0
 | x :: ys => cnt x + cnts ys
end
theorem cnt_pos (x : Xp) : 1 ≤ cnt x := by cases x; rw [cnt]; omega
theorem cnts_append (a b : List Xp) : cnts (a ++ b) = cnts a + cnts b := by
 induction a with
 | nil => simp [cnts]
 | cons x a ih => simp only [List.cons_append, cnts, ih]; omega
theorem cnts_len (l : List Xp) : l.length ≤ cnts l := by
 induction l with
 | nil => simp [cnts]
 | cons x l ih => have := cnt_pos x; simp only [List.length_cons, cnts]; omega
theorem cnts_mem {l : List Xp} {x : Xp} (h : x ∈ l) : cnt x ≤ cnts l := by
 induction l with
 | nil => cases h
 | cons y l ih =>
  simp only [cnts]
  rcases List.mem_cons.1 h with rfl | h
  ·omega
  ·have := ih h; omega
end Xp

theorem len_c (x : Xp) : x.c.length = 6 := by cases x; rw [Xp.c]; rfl

theorem take_c (x : Xp) : List.take 6 (x.c.map V.t) = x.c.map V.t := List.take_of_length_le (by simp [len_c])
theorem w_own32 : ∀ (x : Xp), x.cnt ≤ 100000 → Pure Tryz.prog 21 [x.v] x.v := by
 refine Xp.ind fun kd vl fr to nm xs ih hcnt => ?_
 rw [Xp.cnt] at hcnt
 have hal := Xp.cnts_len xs
 rw [Xp.v, Xp.c_mk]
 (refine Pure.of_code mix Tryz.call21 k_21 (by simp) (fun hB => ?_); (try simp at hB); (try simp -implicitDefEqProofs [qc_21]))
 refine loop_grow [(.cell 2 5, 74, 6)] (X := Nat) (fun k => k ≤ xs.length) (fun k => [(1, .ptr 0 0), (2, .ptr 1 0), (3, .ptr 2 0), (4, vI k)])
  (fun k => ⟨[.cells [vI kd, vI vl, vI fr, vI to, vS nm, Xp.l xs], .cells [vI 0, vI 0, vI 0, vI 0, vS [], .snil], .cells [vI kd, vI vl, vI fr, vI to, vS nm, .own 0 74 6 ((xs.take k).map Xp.c)]], [k]⟩) (fun k => xs.length - k) 0 (by omega) (by simp) ?_
 rintro k hk hbd
 rcases Nat.lt_or_ge k xs.length with h | h
 ·have hx : xs[k]? = some xs[k] := by simp [h]
  have hrec := ih xs[k] (List.getElem_mem h) (by have := Xp.cnts_mem (List.getElem_mem h); omega)
  have e3 : IntKind.i64.wrap ((k : Int) + 1) = (k : Int) + 1 := wrap64 (by omega) (by omega)
  have hrv : (xs.map Xp.c).take (k + 1) = (xs.map Xp.c).take k ++ [xs[k].c] := by rw [take_next (x := xs[k].c) (by simp [h])]
  have hmin : min k xs.length = k := by omega
  have hlc := len_c xs[k]
  have htc := take_c xs[k]
  ((try simp at hrec); (try simp -implicitDefEqProofs [h, e3, maxLen, hmin, hlc, htc]); repeat' first | ((with_reducible first | apply gdK_em | apply cdK_em | apply pickK_em) <;> (intro hc; have hc' := hc; (try simp at hc'); simp -implicitDefEqProofs [hc, hc', h, e3, maxLen, hmin, hlc, htc])) | (with_reducible apply callK_pure <;> first | (simp only [eras, era, eras_map]; first | with_reducible exact hrec | simpa using hrec) | (simp -implicitDefEqProofs [h, e3, maxLen, hmin, hlc, htc])))
  exact ⟨⟨by omega, by omega⟩, k + 1, by omega, by omega, ⟨by rw [hrv]; exact .inl rfl, rfl⟩, by push_cast; rfl⟩
 ·have : k = xs.length := by omega
  subst this
  have ht : (xs.map Xp.c).take xs.length = xs.map Xp.c := List.take_of_length_le (by simp)
  ((try simp -implicitDefEqProofs [ht]); repeat' first | ((with_reducible first | apply gdK_em | apply cdK_em | apply pickK_em) <;> (intro hc; have hc' := hc; (try simp at hc'); simp -implicitDefEqProofs [hc, hc', ht])))
end Go.Proofs.YtpggidmbnjfmaaaGreatDoor
