/- Sums of amounts; the reference's sums of items and parts. -/
import Derived.Test.YthfnaaeddlnckaaGrB
section
set_option linter.unusedSimpArgs false
set_option linter.unusedVariables false
set_option maxHeartbeats 1000000
set_option maxRecDepth 8000
namespace Go.Proofs.Ythfnaaeddlnckaa
open E

/-- Go's int: a number between -2^63 and 2^63 - 1. -/
def ww (n : Int) : Int := IntKind.i64.wrap n
theorem ww_eq (n : Int) : ww n = (n + 9223372036854775808) % 18446744073709551616 - 9223372036854775808 := by
  simp [ww, IntKind.wrap, IntKind.signed, IntKind.bits]
  omega
theorem ww_id {n : Int} (h1 : -9223372036854775808 ≤ n) (h2 : n ≤ 9223372036854775807) : ww n = n := by rw [ww_eq]; omega
theorem ww_add (a b : Int) : ww (ww a + b) = ww (a + b) := by simp only [ww_eq]; omega
theorem ww_addr (a b : Int) : ww (a + ww b) = ww (a + b) := by simp only [ww_eq]; omega
theorem ww_sub (a b : Int) : ww (ww a - b) = ww (a - b) := by simp only [ww_eq]; omega
theorem ww_subr (a b : Int) : ww (a - ww b) = ww (a - b) := by simp only [ww_eq]; omega
theorem ww_ww (a : Int) : ww (ww a) = ww a := by simp only [ww_eq]; omega
theorem wrap_ww (n : Int) : IntKind.i64.wrap n = ww n := rfl

def amtB (n : Int) : Bool := decide (-1000000000000 ≤ n) && decide (n ≤ 1000000000000)
theorem w_mon (n : Int) : Pure Try.prog 38 [vI n] (vB (amtB n)) := by
  (refine Pure.of_code mix Try.call38 k_38 (by simp) (fun hB => ?_); (try simp at hB); (try simp -implicitDefEqProofs [c_money_Valid_38]))
  ((try simp -implicitDefEqProofs [amtB]); repeat' first | (with_reducible refine gdK_em (fun hc => ?_) (fun hc => ?_) <;> (have hc' := hc; (try simp at hc'); simp -implicitDefEqProofs [hc, hc', amtB])) | (with_reducible refine cdK_em (fun hc => ?_) (fun hc => ?_) <;> (have hc' := hc; (try simp at hc'); simp -implicitDefEqProofs [hc, hc', amtB])) | (with_reducible refine pickK_em (fun hc => ?_) (fun hc => ?_) <;> (have hc' := hc; (try simp at hc'); simp -implicitDefEqProofs [hc, hc', amtB])))
  all_goals first | omega | grind
theorem w_rmon (n : Int) : Pure Try.prog 41 [vI n] (vB (amtB n)) := by
  (refine Pure.of_code mix Try.call41 k_41 (by simp) (fun hB => ?_); (try simp at hB); (try simp -implicitDefEqProofs [c_tallystoneref04_Valid_41]))
  ((try simp -implicitDefEqProofs [amtB]); repeat' first | (with_reducible refine gdK_em (fun hc => ?_) (fun hc => ?_) <;> (have hc' := hc; (try simp at hc'); simp -implicitDefEqProofs [hc, hc', amtB])) | (with_reducible refine cdK_em (fun hc => ?_) (fun hc => ?_) <;> (have hc' := hc; (try simp at hc'); simp -implicitDefEqProofs [hc, hc', amtB])) | (with_reducible refine pickK_em (fun hc => ?_) (fun hc => ?_) <;> (have hc' := hc; (try simp at hc'); simp -implicitDefEqProofs [hc, hc', amtB])))
  all_goals first | omega | grind

def itemsI (l : List Item) (acc frm to : Int) : Int := (l.map fun x => if x.acc = acc ∧ frm ≤ x.date ∧ x.date ≤ to then x.amt else 0).sum
theorem itemsI_snoc (l : List Item) (x : Item) (acc frm to : Int) : itemsI (l ++ [x]) acc frm to = itemsI l acc frm to + (if x.acc = acc ∧ frm ≤ x.date ∧ x.date ≤ to then x.amt else 0) := by simp [itemsI]
theorem w_ritems (r : Res) (acc frm to : Int) : Pure Try.prog 39 [r.v, vI acc, vI frm, vI to] (vI (ww (itemsI r.items acc frm to))) := by
  (refine Pure.of_code mix Try.call39 k_39 (by simp) (fun hB => ?_); (try simp at hB); (try simp -implicitDefEqProofs [c_tallystoneref52_items_39]))
  have hlm : r.items.length ≤ 9223372036854775807 := by simp [maxLen] at hB; omega
  refine loop_rule (X := Nat) (fun k => k ≤ r.items.length) (fun k => [(1, vI acc), (2, vI frm), (3, vI to), (4, .ptr 0 0), (9, vI (ww (itemsI (r.items.take k) acc frm to))), (10, vI k)])
    (fun k => ⟨[.cells (r.c.map .t)], []⟩) (fun k => r.items.length - k) 0 (by simp) (by simp [itemsI, ww_eq]) ?_
  rintro k hk hbd
  rcases Nat.lt_or_ge k r.items.length with h | h
  · have hx : r.items[k]? = some r.items[k] := by simp [h]
    have e3 : IntKind.i64.wrap ((k : Int) + 1) = (k : Int) + 1 := wrap64 (by omega) (by omega)
    have hs := itemsI_snoc (r.items.take k) r.items[k] acc frm to
    rw [← take_next hx] at hs
    by_cases h1 : r.items[k].acc = acc
    case neg =>
      have h1b : (r.items[k].acc == acc) = false := by simpa using h1
      have hs' : ww (itemsI (r.items.take (k + 1)) acc frm to) = ww (itemsI (r.items.take k) acc frm to) := by rw [hs, if_neg (fun hh => h1 hh.1), Int.add_zero]
      ((try simp -implicitDefEqProofs [h, e3, h1b]); repeat' first | (with_reducible refine gdK_em (fun hc => ?_) (fun hc => ?_) <;> (have hc' := hc; (try simp at hc'); simp -implicitDefEqProofs [hc, hc', h, e3, h1b])) | (with_reducible refine cdK_em (fun hc => ?_) (fun hc => ?_) <;> (have hc' := hc; (try simp at hc'); simp -implicitDefEqProofs [hc, hc', h, e3, h1b])) | (with_reducible refine pickK_em (fun hc => ?_) (fun hc => ?_) <;> (have hc' := hc; (try simp at hc'); simp -implicitDefEqProofs [hc, hc', h, e3, h1b])))
      exact ⟨k + 1, by omega, by omega, by first | exact hs'.symm | exact hs' | (rw [← List.map_take]; exact hs'.symm), by omega⟩
    have h1b : (r.items[k].acc == acc) = true := by simpa using h1
    by_cases h2 : frm ≤ r.items[k].date
    case neg =>
      have h2b : ¬ frm ≤ r.items[k].date := h2
      have hs' : ww (itemsI (r.items.take (k + 1)) acc frm to) = ww (itemsI (r.items.take k) acc frm to) := by rw [hs, if_neg (fun hh => h2 hh.2.1), Int.add_zero]
      ((try simp -implicitDefEqProofs [h, e3, h1b, h2b]); repeat' first | (with_reducible refine gdK_em (fun hc => ?_) (fun hc => ?_) <;> (have hc' := hc; (try simp at hc'); simp -implicitDefEqProofs [hc, hc', h, e3, h1b, h2b])) | (with_reducible refine cdK_em (fun hc => ?_) (fun hc => ?_) <;> (have hc' := hc; (try simp at hc'); simp -implicitDefEqProofs [hc, hc', h, e3, h1b, h2b])) | (with_reducible refine pickK_em (fun hc => ?_) (fun hc => ?_) <;> (have hc' := hc; (try simp at hc'); simp -implicitDefEqProofs [hc, hc', h, e3, h1b, h2b])))
      exact ⟨k + 1, by omega, by omega, by first | exact hs'.symm | exact hs', by omega⟩
    by_cases h3 : r.items[k].date ≤ to
    case neg =>
      have hs' : ww (itemsI (r.items.take (k + 1)) acc frm to) = ww (itemsI (r.items.take k) acc frm to) := by rw [hs, if_neg (fun hh => h3 hh.2.2), Int.add_zero]
      ((try simp -implicitDefEqProofs [h, e3, h1b, h2, h3]); repeat' first | (with_reducible refine gdK_em (fun hc => ?_) (fun hc => ?_) <;> (have hc' := hc; (try simp at hc'); simp -implicitDefEqProofs [hc, hc', h, e3, h1b, h2, h3])) | (with_reducible refine cdK_em (fun hc => ?_) (fun hc => ?_) <;> (have hc' := hc; (try simp at hc'); simp -implicitDefEqProofs [hc, hc', h, e3, h1b, h2, h3])) | (with_reducible refine pickK_em (fun hc => ?_) (fun hc => ?_) <;> (have hc' := hc; (try simp at hc'); simp -implicitDefEqProofs [hc, hc', h, e3, h1b, h2, h3])))
      exact ⟨k + 1, by omega, by omega, by first | exact hs'.symm | exact hs', by omega⟩
    have hs' : ww (itemsI (r.items.take (k + 1)) acc frm to) = ww (ww (itemsI (r.items.take k) acc frm to) + r.items[k].amt) := by rw [hs, if_pos ⟨h1, h2, h3⟩, ww_add]
    ((try simp -implicitDefEqProofs [h, e3, h1b, h2, h3, wrap_ww]); repeat' first | (with_reducible refine gdK_em (fun hc => ?_) (fun hc => ?_) <;> (have hc' := hc; (try simp at hc'); simp -implicitDefEqProofs [hc, hc', h, e3, h1b, h2, h3, wrap_ww])) | (with_reducible refine cdK_em (fun hc => ?_) (fun hc => ?_) <;> (have hc' := hc; (try simp at hc'); simp -implicitDefEqProofs [hc, hc', h, e3, h1b, h2, h3, wrap_ww])) | (with_reducible refine pickK_em (fun hc => ?_) (fun hc => ?_) <;> (have hc' := hc; (try simp at hc'); simp -implicitDefEqProofs [hc, hc', h, e3, h1b, h2, h3, wrap_ww])))
    exact ⟨k + 1, by omega, by omega, by first | exact hs'.symm | exact hs', by omega⟩
  · have : k = r.items.length := by omega
    subst this
    ((try simp -implicitDefEqProofs); repeat' first | (with_reducible refine gdK_em (fun hc => ?_) (fun hc => ?_) <;> (have hc' := hc; (try simp at hc'); simp -implicitDefEqProofs [hc, hc'])) | (with_reducible refine cdK_em (fun hc => ?_) (fun hc => ?_) <;> (have hc' := hc; (try simp at hc'); simp -implicitDefEqProofs [hc, hc'])) | (with_reducible refine pickK_em (fun hc => ?_) (fun hc => ?_) <;> (have hc' := hc; (try simp at hc'); simp -implicitDefEqProofs [hc, hc'])))
end Go.Proofs.Ythfnaaeddlnckaa
end

/- The reference's sums of parts, and of derived changes. -/
section
set_option linter.unusedSimpArgs false
set_option linter.unusedVariables false
set_option maxHeartbeats 1000000
set_option maxRecDepth 8000
namespace Go.Proofs.Ythfnaaeddlnckaa
open E

/-- All parts of postings, each with the kind of its posting. -/
def flat1 (p : Posting) : List (Int × Part) := p.parts.map fun x => (p.kind, x)
def flat (l : List Posting) : List (Int × Part) := l.flatMap flat1
theorem flat_snoc (l : List Posting) (p : Posting) : flat (l ++ [p]) = flat l ++ flat1 p := by simp [flat]
def okK (kind k : Int) : Bool := kind == -1 || k == kind
def one (acc : Int) (q : Int → Bool) (e : Int × Part) : Int := if e.2.acc = acc ∧ q e.1 = true then e.2.amt else 0
def sumF (F : List (Int × Part)) (acc : Int) (q : Int → Bool) : Int := (F.map (one acc q)).sum
theorem sumF_append (F G : List (Int × Part)) (acc : Int) (q : Int → Bool) : sumF (F ++ G) acc q = sumF F acc q + sumF G acc q := by simp [sumF]
theorem sumF_one (e : Int × Part) (acc : Int) (q : Int → Bool) : sumF [e] acc q = one acc q e := by simp [sumF]
theorem sumF_nil (acc : Int) (q : Int → Bool) : sumF [] acc q = 0 := rfl
/-- What has been seen after i postings and k parts of the next one. -/
def seenF (l : List Posting) (i k : Nat) : List (Int × Part) := flat (l.take i) ++ (flat1 (l.getD i ⟨0, 0, 0, 0, []⟩)).take k
theorem seenF_zero (l : List Posting) (i : Nat) : seenF l i 0 = flat (l.take i) := by simp [seenF]
theorem seenF_all {l : List Posting} {i : Nat} (h : i < l.length) : seenF l i l[i].parts.length = flat (l.take (i + 1)) := by
  have hx : l[i]? = some l[i] := by simp [h]
  have hg : l.getD i ⟨0, 0, 0, 0, []⟩ = l[i] := by simp [List.getD_eq_getElem?_getD, h]
  rw [take_next hx, flat_snoc, seenF, hg]
  congr 1
  exact List.take_of_length_le (by simp [flat1])
theorem seenF_succ {l : List Posting} {i k : Nat} (h : i < l.length) (hk : k < l[i].parts.length) : seenF l i (k + 1) = seenF l i k ++ [(l[i].kind, l[i].parts[k])] := by
  have hg : l.getD i ⟨0, 0, 0, 0, []⟩ = l[i] := by simp [List.getD_eq_getElem?_getD, h]
  have h1 : (flat1 l[i])[k]? = some (l[i].kind, l[i].parts[k]) := by simp [flat1, hk]
  simp only [seenF, hg]
  rw [take_next h1, List.append_assoc]
theorem sumF_succ {l : List Posting} {i k : Nat} (acc : Int) (q : Int → Bool) (h : i < l.length) (hk : k < l[i].parts.length) : sumF (seenF l i (k + 1)) acc q = sumF (seenF l i k) acc q + one acc q (l[i].kind, l[i].parts[k]) := by
  rw [seenF_succ h hk, sumF_append, sumF_one]

theorem w_rparts (r : Res) (acc kind : Int) : Pure Try.prog 40 [r.v, vI acc, vI kind] (vI (ww (sumF (flat r.posts) acc (okK kind)))) := by
  (refine Pure.of_code mix Try.call40 k_40 (by simp) (fun hB => ?_); (try simp at hB); (try simp -implicitDefEqProofs [c_tallystoneref52_parts_40]))
  have hlm : r.posts.length ≤ 9223372036854775807 := by simp [maxLen] at hB; omega
  have hpm : ∀ p ∈ r.posts, p.parts.length ≤ 9223372036854775807 := fun p hp => by have := hB.2.1.2 p hp; simp [maxLen] at this; omega
  refine loop_rule (X := Nat) (fun k => k ≤ r.posts.length) (fun k => [(1, vI acc), (2, vI kind), (3, .ptr 0 0), (7, vI (ww (sumF (flat (r.posts.take k)) acc (okK kind)))), (8, vI k)])
    (fun k => ⟨[.cells (r.c.map .t)], []⟩) (fun k => r.posts.length - k) 0 (by simp) (by simp [flat, sumF, ww_eq]) ?_
  rintro i hi hbd
  rcases Nat.lt_or_ge i r.posts.length with h | h
  · have hx : r.posts[i]? = some r.posts[i] := by simp [h]
    have e3 : IntKind.i64.wrap ((i : Int) + 1) = (i : Int) + 1 := wrap64 (by omega) (by omega)
    have hpl := hpm _ (List.getElem_mem h)
    have hall := seenF_all h
    have hz := seenF_zero r.posts i
    rw [← hz]
    generalize hg0 : ww (sumF (seenF r.posts i 0) acc (okK kind)) = G0
    ((try simp -implicitDefEqProofs [h]); repeat' first | (with_reducible refine gdK_em (fun hc => ?_) (fun hc => ?_) <;> (have hc' := hc; (try simp at hc'); simp -implicitDefEqProofs [hc, hc', h])) | (with_reducible refine cdK_em (fun hc => ?_) (fun hc => ?_) <;> (have hc' := hc; (try simp at hc'); simp -implicitDefEqProofs [hc, hc', h])) | (with_reducible refine pickK_em (fun hc => ?_) (fun hc => ?_) <;> (have hc' := hc; (try simp at hc'); simp -implicitDefEqProofs [hc, hc', h])))
    refine loop_rule (X := Nat) (fun k => k ≤ r.posts[i].parts.length) (fun k => [(1, vI acc), (2, vI kind), (3, .ptr 0 0), (7, vI (ww (sumF (seenF r.posts i k) acc (okK kind)))), (8, vI i), (9, vI k)])
      (fun k => ⟨[.cells (r.c.map .t)], []⟩) (fun k => r.posts[i].parts.length - k) 0 (by simp) (by simp [hg0]) ?_
    rintro k hk hbd2
    rcases Nat.lt_or_ge k r.posts[i].parts.length with h1 | h1
    · have e5 : IntKind.i64.wrap ((k : Int) + 1) = (k : Int) + 1 := wrap64 (by omega) (by omega)
      have hs := sumF_succ acc (okK kind) h h1
      simp only [one] at hs
      by_cases a1 : r.posts[i].parts[k].acc = acc
      case neg =>
        have a1b : (r.posts[i].parts[k].acc == acc) = false := by simpa using a1
        rw [if_neg (fun hh => a1 hh.1), Int.add_zero] at hs
        ((try simp -implicitDefEqProofs [h, h1, e5, a1b]); repeat' first | (with_reducible refine gdK_em (fun hc => ?_) (fun hc => ?_) <;> (have hc' := hc; (try simp at hc'); simp -implicitDefEqProofs [hc, hc', h, h1, e5, a1b])) | (with_reducible refine cdK_em (fun hc => ?_) (fun hc => ?_) <;> (have hc' := hc; (try simp at hc'); simp -implicitDefEqProofs [hc, hc', h, h1, e5, a1b])) | (with_reducible refine pickK_em (fun hc => ?_) (fun hc => ?_) <;> (have hc' := hc; (try simp at hc'); simp -implicitDefEqProofs [hc, hc', h, h1, e5, a1b])))
        exact ⟨k + 1, by omega, by omega, by rw [hs], by omega⟩
      have a1b : (r.posts[i].parts[k].acc == acc) = true := by simpa using a1
      by_cases a2 : kind = -1
      · have a2b : (kind == -1) = true := by simpa using a2
        rw [if_pos ⟨a1, by simp [okK, a2]⟩] at hs
        ((try simp -implicitDefEqProofs [h, h1, e5, a1b, a2b, wrap_ww, ww_add]); repeat' first | (with_reducible refine gdK_em (fun hc => ?_) (fun hc => ?_) <;> (have hc' := hc; (try simp at hc'); simp -implicitDefEqProofs [hc, hc', h, h1, e5, a1b, a2b, wrap_ww, ww_add])) | (with_reducible refine cdK_em (fun hc => ?_) (fun hc => ?_) <;> (have hc' := hc; (try simp at hc'); simp -implicitDefEqProofs [hc, hc', h, h1, e5, a1b, a2b, wrap_ww, ww_add])) | (with_reducible refine pickK_em (fun hc => ?_) (fun hc => ?_) <;> (have hc' := hc; (try simp at hc'); simp -implicitDefEqProofs [hc, hc', h, h1, e5, a1b, a2b, wrap_ww, ww_add])))
        exact ⟨k + 1, by omega, by omega, by rw [hs], by omega⟩
      have a2b : (kind == -1) = false := by simpa using a2
      by_cases a3 : r.posts[i].kind = kind
      · have a3b : (r.posts[i].kind == kind) = true := by simpa using a3
        rw [if_pos ⟨a1, by simp [okK, a3]⟩] at hs
        ((try simp -implicitDefEqProofs [h, h1, e5, a1b, a2b, a3b, wrap_ww, ww_add]); repeat' first | (with_reducible refine gdK_em (fun hc => ?_) (fun hc => ?_) <;> (have hc' := hc; (try simp at hc'); simp -implicitDefEqProofs [hc, hc', h, h1, e5, a1b, a2b, a3b, wrap_ww, ww_add])) | (with_reducible refine cdK_em (fun hc => ?_) (fun hc => ?_) <;> (have hc' := hc; (try simp at hc'); simp -implicitDefEqProofs [hc, hc', h, h1, e5, a1b, a2b, a3b, wrap_ww, ww_add])) | (with_reducible refine pickK_em (fun hc => ?_) (fun hc => ?_) <;> (have hc' := hc; (try simp at hc'); simp -implicitDefEqProofs [hc, hc', h, h1, e5, a1b, a2b, a3b, wrap_ww, ww_add])))
        exact ⟨k + 1, by omega, by omega, by rw [hs], by omega⟩
      · have a3b : (r.posts[i].kind == kind) = false := by simpa using a3
        rw [if_neg (fun hh => by have := hh.2; simp [okK, a2, a3] at this), Int.add_zero] at hs
        ((try simp -implicitDefEqProofs [h, h1, e5, a1b, a2b, a3b]); repeat' first | (with_reducible refine gdK_em (fun hc => ?_) (fun hc => ?_) <;> (have hc' := hc; (try simp at hc'); simp -implicitDefEqProofs [hc, hc', h, h1, e5, a1b, a2b, a3b])) | (with_reducible refine cdK_em (fun hc => ?_) (fun hc => ?_) <;> (have hc' := hc; (try simp at hc'); simp -implicitDefEqProofs [hc, hc', h, h1, e5, a1b, a2b, a3b])) | (with_reducible refine pickK_em (fun hc => ?_) (fun hc => ?_) <;> (have hc' := hc; (try simp at hc'); simp -implicitDefEqProofs [hc, hc', h, h1, e5, a1b, a2b, a3b])))
        exact ⟨k + 1, by omega, by omega, by rw [hs], by omega⟩
    · have : k = r.posts[i].parts.length := by omega
      subst this
      rw [hall]
      ((try simp -implicitDefEqProofs [h, e3]); repeat' first | (with_reducible refine gdK_em (fun hc => ?_) (fun hc => ?_) <;> (have hc' := hc; (try simp at hc'); simp -implicitDefEqProofs [hc, hc', h, e3])) | (with_reducible refine cdK_em (fun hc => ?_) (fun hc => ?_) <;> (have hc' := hc; (try simp at hc'); simp -implicitDefEqProofs [hc, hc', h, e3])) | (with_reducible refine pickK_em (fun hc => ?_) (fun hc => ?_) <;> (have hc' := hc; (try simp at hc'); simp -implicitDefEqProofs [hc, hc', h, e3])))
      exact ⟨i + 1, by omega, by omega, by first | rfl | (rw [← List.map_take]), by omega⟩
  · have : i = r.posts.length := by omega
    subst this
    ((try simp -implicitDefEqProofs); repeat' first | (with_reducible refine gdK_em (fun hc => ?_) (fun hc => ?_) <;> (have hc' := hc; (try simp at hc'); simp -implicitDefEqProofs [hc, hc'])) | (with_reducible refine cdK_em (fun hc => ?_) (fun hc => ?_) <;> (have hc' := hc; (try simp at hc'); simp -implicitDefEqProofs [hc, hc'])) | (with_reducible refine pickK_em (fun hc => ?_) (fun hc => ?_) <;> (have hc' := hc; (try simp at hc'); simp -implicitDefEqProofs [hc, hc'])))
end Go.Proofs.Ythfnaaeddlnckaa
end

/- The parts that note's collector collects. Printed by gen_parts.py. -/
section
set_option linter.unusedSimpArgs false
set_option linter.unusedVariables false
set_option maxHeartbeats 2000000
set_option maxRecDepth 8000
namespace Go.Proofs.Ythfnaaeddlnckaa
open E

/-- A note, cell by cell. -/
abbrev noteC (a o d c l : Int) (D : Nat → Int) : List T := [tI a, tI o, tI d, tI c, tI l, tI (D 0), tI (D 1), tI (D 2), tI (D 3), tI (D 4), tI (D 5), tI (D 6), tI (D 7), tI (D 8), tI (D 9), tI (D 10)]
abbrev noteV (a o d c l : Int) (D : Nat → Int) : List V := [vI a, vI o, vI d, vI c, vI l, vI (D 0), vI (D 1), vI (D 2), vI (D 3), vI (D 4), vI (D 5), vI (D 6), vI (D 7), vI (D 8), vI (D 9), vI (D 10)]
def allK (k : Int) : Bool := true
/-- The derived changes after some parts. -/
def dD (s : Int) (F : List (Int × Part)) (acc : Int) (D : Nat → Int) (j : Nat) : Int := if 1 ≤ j ∧ j ≤ 10 then ww (D j + s * sumF F acc (fun k => k == (j : Int))) else D j
/-- A number that an int holds. -/
def isW (n : Int) : Prop := ww n = n
theorem isW_ww (n : Int) : isW (ww n) := ww_ww n
theorem dD_zero {s : Int} {acc : Int} {D : Nat → Int} (hD : ∀ j, isW (D j)) (j : Nat) : dD s [] acc D j = D j := by
  unfold dD; split
  · simp [sumF_nil]; exact hD j
  · rfl
theorem dD_other {s : Int} {F : List (Int × Part)} {acc : Int} {D : Nat → Int} {e : Int × Part} {j : Nat} (h : ¬ (e.2.acc = acc ∧ e.1 = j)) : dD s (F ++ [e]) acc D j = dD s F acc D j := by
  unfold dD
  rw [sumF_append, sumF_one]
  have : one acc (fun k => k == (j : Int)) e = 0 := by unfold one; rw [if_neg]; simpa using h
  rw [this, Int.add_zero]
theorem dD_same {s : Int} {F : List (Int × Part)} {acc : Int} {D : Nat → Int} {e : Int × Part} {j : Nat} (h1 : e.2.acc = acc) (h2 : e.1 = j) (hj : 1 ≤ j ∧ j ≤ 10) : dD s (F ++ [e]) acc D j = ww (dD s F acc D j + ww (s * e.2.amt)) := by
  unfold dD
  rw [sumF_append, sumF_one, if_pos hj, if_pos hj, ww_add, ww_addr]
  have : one acc (fun k => k == (j : Int)) e = e.2.amt := by unfold one; rw [if_pos]; simp [h1, h2]
  rw [this, Int.mul_add, Int.add_assoc]
theorem sum_other {F : List (Int × Part)} {acc : Int} {e : Int × Part} (h : ¬ e.2.acc = acc) : sumF (F ++ [e]) acc allK = sumF F acc allK := by
  rw [sumF_append, sumF_one]
  simp [one, h]
theorem sum_same {F : List (Int × Part)} {acc : Int} {e : Int × Part} (h : e.2.acc = acc) : sumF (F ++ [e]) acc allK = sumF F acc allK + e.2.amt := by
  rw [sumF_append, sumF_one]
  simp [one, h, allK]

theorem w_partsB (c0 c1 c2 c3 c4 c8 : List V) (h0 : ∀ n m, okNs n m c0 = true) (h1 : ∀ n m, okNs n m c1 = true) (h2 : ∀ n m, okNs n m c2 = true) (h3 : ∀ n m, okNs n m c3 = true) (h4 : ∀ n m, okNs n m c4 = true) (h8 : ∀ n m, okNs n m c8 = true)
    (r : Res) (first last acc o d c l : Int) (D : Nat → Int) (hb : isW o) (hD : ∀ j, isW (D j)) :
    FnS Try.prog 58 [.agg [.ptr 5 0, vI first, vI last], r.v, .ptr 5 1, vI (-1)] ⟨[.cells c0, .cells c1, .cells c2, .cells c3, .cells c4, .cells (noteV acc o d c l D), .cells [.ptr 5 0, vI first, vI last], .cells [.ptr 5 0, vI first, vI last], .cells c8], []⟩ (.tup [])
      ⟨[.cells c0, .cells c1, .cells c2, .cells c3, .cells c4, .cells (noteV acc (ww (o + sumF (flat r.posts) acc allK)) d c l (dD (-1) (flat r.posts) acc D)), .cells [.ptr 5 0, vI first, vI last], .cells [.ptr 5 0, vI first, vI last], .cells c8], []⟩ := by
  (refine FnS.of_code mix Try.call58 k_58 (by simp) (fun hB => ?_); (try simp at hB); (try simp -implicitDefEqProofs [c_note_collector__parts_58]))
  have hlm : r.posts.length ≤ 9223372036854775807 := by simp [maxLen] at hB; omega
  have hpm : ∀ p ∈ r.posts, p.parts.length ≤ 9223372036854775807 := fun p hp => by have := hB.2.1.2 p hp; simp [maxLen] at this; omega
  refine loop_rule (X := Nat) (fun k => k ≤ r.posts.length) (fun k => [(2, .ptr 5 1), (3, vI (-1)), (4, .ptr 9 0), (13, Posting.l r.posts), (14, vI r.posts.length), (15, vI k)])
    (fun k => ⟨[.cells c0, .cells c1, .cells c2, .cells c3, .cells c4, .cells (noteV acc (ww (o + sumF (flat (r.posts.take k)) acc allK)) d c l (dD (-1) (flat (r.posts.take k)) acc D)), .cells [.ptr 5 0, vI first, vI last], .cells [.ptr 5 0, vI first, vI last], .cells c8, .cells [.ptr 5 0, vI first, vI last], .cells (r.c.map .t)], []⟩) (fun k => r.posts.length - k) 0 (by simp) ?_ ?_
  · simp [flat, dD_zero hD, sumF_nil, h0, h1, h2, h3, h4, h8]
    exact hb
  rintro i hi hbd
  rcases Nat.lt_or_ge i r.posts.length with h | h
  · have hx : r.posts[i]? = some r.posts[i] := by simp [h]
    have e3 : IntKind.i64.wrap ((i : Int) + 1) = (i : Int) + 1 := wrap64 (by omega) (by omega)
    have hpl := hpm _ (List.getElem_mem h)
    have hall := seenF_all h
    rw [← seenF_zero r.posts i]
    generalize hF0 : seenF r.posts i 0 = F0
    ((try simp -implicitDefEqProofs [h]); repeat' first | (with_reducible refine gdK_em (fun hc => ?_) (fun hc => ?_) <;> (have hc' := hc; (try simp at hc'); simp -implicitDefEqProofs [hc, hc', h])) | (with_reducible refine cdK_em (fun hc => ?_) (fun hc => ?_) <;> (have hc' := hc; (try simp at hc'); simp -implicitDefEqProofs [hc, hc', h])) | (with_reducible refine pickK_em (fun hc => ?_) (fun hc => ?_) <;> (have hc' := hc; (try simp at hc'); simp -implicitDefEqProofs [hc, hc', h])))
    refine loop_rule (X := Nat) (fun k => k ≤ r.posts[i].parts.length) (fun k => [(2, .ptr 5 1), (3, vI (-1)), (4, .ptr 9 0), (9, .ptr 11 0), (13, Posting.l r.posts), (14, vI r.posts.length), (15, vI i), (20, Part.l r.posts[i].parts), (21, vI r.posts[i].parts.length), (22, vI k)])
      (fun k => ⟨[.cells c0, .cells c1, .cells c2, .cells c3, .cells c4, .cells (noteV acc (ww (o + sumF (seenF r.posts i k) acc allK)) d c l (dD (-1) (seenF r.posts i k) acc D)), .cells [.ptr 5 0, vI first, vI last], .cells [.ptr 5 0, vI first, vI last], .cells c8, .cells [.ptr 5 0, vI first, vI last], .cells (r.c.map .t), .cells (r.posts[i].c.map .t)], []⟩) (fun k => r.posts[i].parts.length - k) 0 (by simp) ?_ ?_
    · simp [hF0, h0, h1, h2, h3, h4, h8]
    rintro k hk hbd2
    rcases Nat.lt_or_ge k r.posts[i].parts.length with g | g
    · have e5 : IntKind.i64.wrap ((k : Int) + 1) = (k : Int) + 1 := wrap64 (by omega) (by omega)
      have hs := seenF_succ h g
      by_cases a1 : r.posts[i].parts[k].acc = acc
      case neg =>
        have a1b : (r.posts[i].parts[k].acc != acc) = true := by simpa using a1
        have hdo : ∀ j, dD (-1) (seenF r.posts i (k + 1)) acc D j = dD (-1) (seenF r.posts i k) acc D j := fun j => by rw [hs]; exact dD_other (fun hh => a1 hh.1)
        have hso : sumF (seenF r.posts i (k + 1)) acc allK = sumF (seenF r.posts i k) acc allK := by rw [hs]; exact sum_other a1
        ((try simp -implicitDefEqProofs [h, g, e5, a1b]); repeat' first | (with_reducible refine gdK_em (fun hc => ?_) (fun hc => ?_) <;> (have hc' := hc; (try simp at hc'); simp -implicitDefEqProofs [hc, hc', h, g, e5, a1b])) | (with_reducible refine cdK_em (fun hc => ?_) (fun hc => ?_) <;> (have hc' := hc; (try simp at hc'); simp -implicitDefEqProofs [hc, hc', h, g, e5, a1b])) | (with_reducible refine pickK_em (fun hc => ?_) (fun hc => ?_) <;> (have hc' := hc; (try simp at hc'); simp -implicitDefEqProofs [hc, hc', h, g, e5, a1b])))
        exact ⟨k + 1, by omega, by omega, by simp [hdo, hso, h0, h1, h2, h3, h4, h8]⟩
      have a1b : (r.posts[i].parts[k].acc != acc) = false := by simpa using a1
      have hso : sumF (seenF r.posts i (k + 1)) acc allK = sumF (seenF r.posts i k) acc allK + r.posts[i].parts[k].amt := by rw [hs]; exact sum_same a1
      have hdo : ∀ j : Nat, ¬ r.posts[i].kind = j → dD (-1) (seenF r.posts i (k + 1)) acc D j = dD (-1) (seenF r.posts i k) acc D j := fun j hj => by rw [hs]; exact dD_other (fun hh => hj hh.2)
      have hds : ∀ j : Nat, r.posts[i].kind = j → 1 ≤ j ∧ j ≤ 10 → dD (-1) (seenF r.posts i (k + 1)) acc D j = ww (dD (-1) (seenF r.posts i k) acc D j + ww (-1 * r.posts[i].parts[k].amt)) := fun j hj h10 => by rw [hs]; exact dD_same a1 hj h10
      rcases (by omega : r.posts[i].kind < 1 ∨ 10 < r.posts[i].kind ∨ r.posts[i].kind = 1 ∨ r.posts[i].kind = 2 ∨ r.posts[i].kind = 3 ∨ r.posts[i].kind = 4 ∨ r.posts[i].kind = 5 ∨ r.posts[i].kind = 6 ∨ r.posts[i].kind = 7 ∨ r.posts[i].kind = 8 ∨ r.posts[i].kind = 9 ∨ r.posts[i].kind = 10) with hk | hk | hk | hk | hk | hk | hk | hk | hk | hk | hk | hk
      · have hk' : ¬ 1 ≤ r.posts[i].kind := by omega
        have hd0 : ∀ j : Nat, 1 ≤ j → dD (-1) (seenF r.posts i (k + 1)) acc D j = dD (-1) (seenF r.posts i k) acc D j := fun j hj => hdo j (by omega)
        have hd1 : dD (-1) (seenF r.posts i (k + 1)) acc D 0 = dD (-1) (seenF r.posts i k) acc D 0 := rfl
        ((try simp -implicitDefEqProofs [h, g, e5, a1b, hk', wrap_ww]); repeat' first | (with_reducible refine gdK_em (fun hc => ?_) (fun hc => ?_) <;> (have hc' := hc; (try simp at hc'); simp -implicitDefEqProofs [hc, hc', h, g, e5, a1b, hk', wrap_ww])) | (with_reducible refine cdK_em (fun hc => ?_) (fun hc => ?_) <;> (have hc' := hc; (try simp at hc'); simp -implicitDefEqProofs [hc, hc', h, g, e5, a1b, hk', wrap_ww])) | (with_reducible refine pickK_em (fun hc => ?_) (fun hc => ?_) <;> (have hc' := hc; (try simp at hc'); simp -implicitDefEqProofs [hc, hc', h, g, e5, a1b, hk', wrap_ww])))
        exact ⟨k + 1, by omega, by omega, by simp [hd0, hd1, hso, ww_add, ww_addr, Int.add_assoc, h0, h1, h2, h3, h4, h8]⟩
      · have hk' : ¬ r.posts[i].kind ≤ 10 := by omega
        have hk1 : 1 ≤ r.posts[i].kind := by omega
        have hd0 : ∀ j : Nat, j ≤ 10 → dD (-1) (seenF r.posts i (k + 1)) acc D j = dD (-1) (seenF r.posts i k) acc D j := fun j hj => hdo j (by omega)
        ((try simp -implicitDefEqProofs [h, g, e5, a1b, hk', hk1, wrap_ww]); repeat' first | (with_reducible refine gdK_em (fun hc => ?_) (fun hc => ?_) <;> (have hc' := hc; (try simp at hc'); simp -implicitDefEqProofs [hc, hc', h, g, e5, a1b, hk', hk1, wrap_ww])) | (with_reducible refine cdK_em (fun hc => ?_) (fun hc => ?_) <;> (have hc' := hc; (try simp at hc'); simp -implicitDefEqProofs [hc, hc', h, g, e5, a1b, hk', hk1, wrap_ww])) | (with_reducible refine pickK_em (fun hc => ?_) (fun hc => ?_) <;> (have hc' := hc; (try simp at hc'); simp -implicitDefEqProofs [hc, hc', h, g, e5, a1b, hk', hk1, wrap_ww])))
        exact ⟨k + 1, by omega, by omega, by simp [hd0, hso, ww_add, ww_addr, Int.add_assoc, h0, h1, h2, h3, h4, h8]⟩
      all_goals
        ((try simp -implicitDefEqProofs [h, g, e5, a1b, hk, wrap_ww]); repeat' first | (with_reducible refine gdK_em (fun hc => ?_) (fun hc => ?_) <;> (have hc' := hc; (try simp at hc'); simp -implicitDefEqProofs [hc, hc', h, g, e5, a1b, hk, wrap_ww])) | (with_reducible refine cdK_em (fun hc => ?_) (fun hc => ?_) <;> (have hc' := hc; (try simp at hc'); simp -implicitDefEqProofs [hc, hc', h, g, e5, a1b, hk, wrap_ww])) | (with_reducible refine pickK_em (fun hc => ?_) (fun hc => ?_) <;> (have hc' := hc; (try simp at hc'); simp -implicitDefEqProofs [hc, hc', h, g, e5, a1b, hk, wrap_ww])))
        exact ⟨k + 1, by omega, by omega, by simp [hdo, hds, hk, hso, ww_add, ww_addr, Int.add_assoc, h0, h1, h2, h3, h4, h8]⟩
    · have : k = r.posts[i].parts.length := by omega
      subst this
      rw [hall]
      ((try simp -implicitDefEqProofs [h, e3]); repeat' first | (with_reducible refine gdK_em (fun hc => ?_) (fun hc => ?_) <;> (have hc' := hc; (try simp at hc'); simp -implicitDefEqProofs [hc, hc', h, e3])) | (with_reducible refine cdK_em (fun hc => ?_) (fun hc => ?_) <;> (have hc' := hc; (try simp at hc'); simp -implicitDefEqProofs [hc, hc', h, e3])) | (with_reducible refine pickK_em (fun hc => ?_) (fun hc => ?_) <;> (have hc' := hc; (try simp at hc'); simp -implicitDefEqProofs [hc, hc', h, e3])))
      exact ⟨i + 1, by omega, by omega, by simp [h0, h1, h2, h3, h4, h8]⟩
  · have : i = r.posts.length := by omega
    subst this
    ((try simp -implicitDefEqProofs [h0, h1, h2, h3, h4, h8]); repeat' first | (with_reducible refine gdK_em (fun hc => ?_) (fun hc => ?_) <;> (have hc' := hc; (try simp at hc'); simp -implicitDefEqProofs [hc, hc', h0, h1, h2, h3, h4, h8])) | (with_reducible refine cdK_em (fun hc => ?_) (fun hc => ?_) <;> (have hc' := hc; (try simp at hc'); simp -implicitDefEqProofs [hc, hc', h0, h1, h2, h3, h4, h8])) | (with_reducible refine pickK_em (fun hc => ?_) (fun hc => ?_) <;> (have hc' := hc; (try simp at hc'); simp -implicitDefEqProofs [hc, hc', h0, h1, h2, h3, h4, h8])))

theorem w_partsA (c0 c1 c2 c3 c4 c8 : List V) (h0 : ∀ n m, okNs n m c0 = true) (h1 : ∀ n m, okNs n m c1 = true) (h2 : ∀ n m, okNs n m c2 = true) (h3 : ∀ n m, okNs n m c3 = true) (h4 : ∀ n m, okNs n m c4 = true) (h8 : ∀ n m, okNs n m c8 = true)
    (r : Res) (first last acc o d c l : Int) (D : Nat → Int) (hb : isW l) (hD : ∀ j, isW (D j)) :
    FnS Try.prog 58 [.agg [.ptr 5 0, vI first, vI last], r.v, .ptr 5 4, vI (1)] ⟨[.cells c0, .cells c1, .cells c2, .cells c3, .cells c4, .cells (noteV acc o d c l D), .cells [.ptr 5 0, vI first, vI last], .cells [.ptr 5 0, vI first, vI last], .cells c8], []⟩ (.tup [])
      ⟨[.cells c0, .cells c1, .cells c2, .cells c3, .cells c4, .cells (noteV acc o d c (ww (l + sumF (flat r.posts) acc allK)) (dD (1) (flat r.posts) acc D)), .cells [.ptr 5 0, vI first, vI last], .cells [.ptr 5 0, vI first, vI last], .cells c8], []⟩ := by
  (refine FnS.of_code mix Try.call58 k_58 (by simp) (fun hB => ?_); (try simp at hB); (try simp -implicitDefEqProofs [c_note_collector__parts_58]))
  have hlm : r.posts.length ≤ 9223372036854775807 := by simp [maxLen] at hB; omega
  have hpm : ∀ p ∈ r.posts, p.parts.length ≤ 9223372036854775807 := fun p hp => by have := hB.2.1.2 p hp; simp [maxLen] at this; omega
  refine loop_rule (X := Nat) (fun k => k ≤ r.posts.length) (fun k => [(2, .ptr 5 4), (3, vI (1)), (4, .ptr 9 0), (13, Posting.l r.posts), (14, vI r.posts.length), (15, vI k)])
    (fun k => ⟨[.cells c0, .cells c1, .cells c2, .cells c3, .cells c4, .cells (noteV acc o d c (ww (l + sumF (flat (r.posts.take k)) acc allK)) (dD (1) (flat (r.posts.take k)) acc D)), .cells [.ptr 5 0, vI first, vI last], .cells [.ptr 5 0, vI first, vI last], .cells c8, .cells [.ptr 5 0, vI first, vI last], .cells (r.c.map .t)], []⟩) (fun k => r.posts.length - k) 0 (by simp) ?_ ?_
  · simp [flat, dD_zero hD, sumF_nil, h0, h1, h2, h3, h4, h8]
    exact hb
  rintro i hi hbd
  rcases Nat.lt_or_ge i r.posts.length with h | h
  · have hx : r.posts[i]? = some r.posts[i] := by simp [h]
    have e3 : IntKind.i64.wrap ((i : Int) + 1) = (i : Int) + 1 := wrap64 (by omega) (by omega)
    have hpl := hpm _ (List.getElem_mem h)
    have hall := seenF_all h
    rw [← seenF_zero r.posts i]
    generalize hF0 : seenF r.posts i 0 = F0
    ((try simp -implicitDefEqProofs [h]); repeat' first | (with_reducible refine gdK_em (fun hc => ?_) (fun hc => ?_) <;> (have hc' := hc; (try simp at hc'); simp -implicitDefEqProofs [hc, hc', h])) | (with_reducible refine cdK_em (fun hc => ?_) (fun hc => ?_) <;> (have hc' := hc; (try simp at hc'); simp -implicitDefEqProofs [hc, hc', h])) | (with_reducible refine pickK_em (fun hc => ?_) (fun hc => ?_) <;> (have hc' := hc; (try simp at hc'); simp -implicitDefEqProofs [hc, hc', h])))
    refine loop_rule (X := Nat) (fun k => k ≤ r.posts[i].parts.length) (fun k => [(2, .ptr 5 4), (3, vI (1)), (4, .ptr 9 0), (9, .ptr 11 0), (13, Posting.l r.posts), (14, vI r.posts.length), (15, vI i), (20, Part.l r.posts[i].parts), (21, vI r.posts[i].parts.length), (22, vI k)])
      (fun k => ⟨[.cells c0, .cells c1, .cells c2, .cells c3, .cells c4, .cells (noteV acc o d c (ww (l + sumF (seenF r.posts i k) acc allK)) (dD (1) (seenF r.posts i k) acc D)), .cells [.ptr 5 0, vI first, vI last], .cells [.ptr 5 0, vI first, vI last], .cells c8, .cells [.ptr 5 0, vI first, vI last], .cells (r.c.map .t), .cells (r.posts[i].c.map .t)], []⟩) (fun k => r.posts[i].parts.length - k) 0 (by simp) ?_ ?_
    · simp [hF0, h0, h1, h2, h3, h4, h8]
    rintro k hk hbd2
    rcases Nat.lt_or_ge k r.posts[i].parts.length with g | g
    · have e5 : IntKind.i64.wrap ((k : Int) + 1) = (k : Int) + 1 := wrap64 (by omega) (by omega)
      have hs := seenF_succ h g
      by_cases a1 : r.posts[i].parts[k].acc = acc
      case neg =>
        have a1b : (r.posts[i].parts[k].acc != acc) = true := by simpa using a1
        have hdo : ∀ j, dD (1) (seenF r.posts i (k + 1)) acc D j = dD (1) (seenF r.posts i k) acc D j := fun j => by rw [hs]; exact dD_other (fun hh => a1 hh.1)
        have hso : sumF (seenF r.posts i (k + 1)) acc allK = sumF (seenF r.posts i k) acc allK := by rw [hs]; exact sum_other a1
        ((try simp -implicitDefEqProofs [h, g, e5, a1b]); repeat' first | (with_reducible refine gdK_em (fun hc => ?_) (fun hc => ?_) <;> (have hc' := hc; (try simp at hc'); simp -implicitDefEqProofs [hc, hc', h, g, e5, a1b])) | (with_reducible refine cdK_em (fun hc => ?_) (fun hc => ?_) <;> (have hc' := hc; (try simp at hc'); simp -implicitDefEqProofs [hc, hc', h, g, e5, a1b])) | (with_reducible refine pickK_em (fun hc => ?_) (fun hc => ?_) <;> (have hc' := hc; (try simp at hc'); simp -implicitDefEqProofs [hc, hc', h, g, e5, a1b])))
        exact ⟨k + 1, by omega, by omega, by simp [hdo, hso, h0, h1, h2, h3, h4, h8]⟩
      have a1b : (r.posts[i].parts[k].acc != acc) = false := by simpa using a1
      have hso : sumF (seenF r.posts i (k + 1)) acc allK = sumF (seenF r.posts i k) acc allK + r.posts[i].parts[k].amt := by rw [hs]; exact sum_same a1
      have hdo : ∀ j : Nat, ¬ r.posts[i].kind = j → dD (1) (seenF r.posts i (k + 1)) acc D j = dD (1) (seenF r.posts i k) acc D j := fun j hj => by rw [hs]; exact dD_other (fun hh => hj hh.2)
      have hds : ∀ j : Nat, r.posts[i].kind = j → 1 ≤ j ∧ j ≤ 10 → dD (1) (seenF r.posts i (k + 1)) acc D j = ww (dD (1) (seenF r.posts i k) acc D j + ww (1 * r.posts[i].parts[k].amt)) := fun j hj h10 => by rw [hs]; exact dD_same a1 hj h10
      rcases (by omega : r.posts[i].kind < 1 ∨ 10 < r.posts[i].kind ∨ r.posts[i].kind = 1 ∨ r.posts[i].kind = 2 ∨ r.posts[i].kind = 3 ∨ r.posts[i].kind = 4 ∨ r.posts[i].kind = 5 ∨ r.posts[i].kind = 6 ∨ r.posts[i].kind = 7 ∨ r.posts[i].kind = 8 ∨ r.posts[i].kind = 9 ∨ r.posts[i].kind = 10) with hk | hk | hk | hk | hk | hk | hk | hk | hk | hk | hk | hk
      · have hk' : ¬ 1 ≤ r.posts[i].kind := by omega
        have hd0 : ∀ j : Nat, 1 ≤ j → dD (1) (seenF r.posts i (k + 1)) acc D j = dD (1) (seenF r.posts i k) acc D j := fun j hj => hdo j (by omega)
        have hd1 : dD (1) (seenF r.posts i (k + 1)) acc D 0 = dD (1) (seenF r.posts i k) acc D 0 := rfl
        ((try simp -implicitDefEqProofs [h, g, e5, a1b, hk', wrap_ww]); repeat' first | (with_reducible refine gdK_em (fun hc => ?_) (fun hc => ?_) <;> (have hc' := hc; (try simp at hc'); simp -implicitDefEqProofs [hc, hc', h, g, e5, a1b, hk', wrap_ww])) | (with_reducible refine cdK_em (fun hc => ?_) (fun hc => ?_) <;> (have hc' := hc; (try simp at hc'); simp -implicitDefEqProofs [hc, hc', h, g, e5, a1b, hk', wrap_ww])) | (with_reducible refine pickK_em (fun hc => ?_) (fun hc => ?_) <;> (have hc' := hc; (try simp at hc'); simp -implicitDefEqProofs [hc, hc', h, g, e5, a1b, hk', wrap_ww])))
        exact ⟨k + 1, by omega, by omega, by simp [hd0, hd1, hso, ww_add, ww_addr, Int.add_assoc, h0, h1, h2, h3, h4, h8]⟩
      · have hk' : ¬ r.posts[i].kind ≤ 10 := by omega
        have hk1 : 1 ≤ r.posts[i].kind := by omega
        have hd0 : ∀ j : Nat, j ≤ 10 → dD (1) (seenF r.posts i (k + 1)) acc D j = dD (1) (seenF r.posts i k) acc D j := fun j hj => hdo j (by omega)
        ((try simp -implicitDefEqProofs [h, g, e5, a1b, hk', hk1, wrap_ww]); repeat' first | (with_reducible refine gdK_em (fun hc => ?_) (fun hc => ?_) <;> (have hc' := hc; (try simp at hc'); simp -implicitDefEqProofs [hc, hc', h, g, e5, a1b, hk', hk1, wrap_ww])) | (with_reducible refine cdK_em (fun hc => ?_) (fun hc => ?_) <;> (have hc' := hc; (try simp at hc'); simp -implicitDefEqProofs [hc, hc', h, g, e5, a1b, hk', hk1, wrap_ww])) | (with_reducible refine pickK_em (fun hc => ?_) (fun hc => ?_) <;> (have hc' := hc; (try simp at hc'); simp -implicitDefEqProofs [hc, hc', h, g, e5, a1b, hk', hk1, wrap_ww])))
        exact ⟨k + 1, by omega, by omega, by simp [hd0, hso, ww_add, ww_addr, Int.add_assoc, h0, h1, h2, h3, h4, h8]⟩
      all_goals
        ((try simp -implicitDefEqProofs [h, g, e5, a1b, hk, wrap_ww]); repeat' first | (with_reducible refine gdK_em (fun hc => ?_) (fun hc => ?_) <;> (have hc' := hc; (try simp at hc'); simp -implicitDefEqProofs [hc, hc', h, g, e5, a1b, hk, wrap_ww])) | (with_reducible refine cdK_em (fun hc => ?_) (fun hc => ?_) <;> (have hc' := hc; (try simp at hc'); simp -implicitDefEqProofs [hc, hc', h, g, e5, a1b, hk, wrap_ww])) | (with_reducible refine pickK_em (fun hc => ?_) (fun hc => ?_) <;> (have hc' := hc; (try simp at hc'); simp -implicitDefEqProofs [hc, hc', h, g, e5, a1b, hk, wrap_ww])))
        exact ⟨k + 1, by omega, by omega, by simp [hdo, hds, hk, hso, ww_add, ww_addr, Int.add_assoc, h0, h1, h2, h3, h4, h8]⟩
    · have : k = r.posts[i].parts.length := by omega
      subst this
      rw [hall]
      ((try simp -implicitDefEqProofs [h, e3]); repeat' first | (with_reducible refine gdK_em (fun hc => ?_) (fun hc => ?_) <;> (have hc' := hc; (try simp at hc'); simp -implicitDefEqProofs [hc, hc', h, e3])) | (with_reducible refine cdK_em (fun hc => ?_) (fun hc => ?_) <;> (have hc' := hc; (try simp at hc'); simp -implicitDefEqProofs [hc, hc', h, e3])) | (with_reducible refine pickK_em (fun hc => ?_) (fun hc => ?_) <;> (have hc' := hc; (try simp at hc'); simp -implicitDefEqProofs [hc, hc', h, e3])))
      exact ⟨i + 1, by omega, by omega, by simp [h0, h1, h2, h3, h4, h8]⟩
  · have : i = r.posts.length := by omega
    subst this
    ((try simp -implicitDefEqProofs [h0, h1, h2, h3, h4, h8]); repeat' first | (with_reducible refine gdK_em (fun hc => ?_) (fun hc => ?_) <;> (have hc' := hc; (try simp at hc'); simp -implicitDefEqProofs [hc, hc', h0, h1, h2, h3, h4, h8])) | (with_reducible refine cdK_em (fun hc => ?_) (fun hc => ?_) <;> (have hc' := hc; (try simp at hc'); simp -implicitDefEqProofs [hc, hc', h0, h1, h2, h3, h4, h8])) | (with_reducible refine pickK_em (fun hc => ?_) (fun hc => ?_) <;> (have hc' := hc; (try simp at hc'); simp -implicitDefEqProofs [hc, hc', h0, h1, h2, h3, h4, h8])))
end Go.Proofs.Ythfnaaeddlnckaa
end

/- What note's collector collects. -/
section
set_option linter.unusedSimpArgs false
set_option linter.unusedVariables false
set_option maxHeartbeats 2000000
set_option maxRecDepth 8000
namespace Go.Proofs.Ythfnaaeddlnckaa
open E

def itemsA (l : List Item) (acc : Int) : Int := (l.map fun x => if x.acc = acc then x.amt else 0).sum
def itemsO (l : List Item) (acc frm to : Int) : Int := (l.map fun x => if x.acc = acc ∧ ¬ (frm ≤ x.date ∧ x.date ≤ to) then x.amt else 0).sum
theorem itemsA_snoc (l : List Item) (x : Item) (acc : Int) : itemsA (l ++ [x]) acc = itemsA l acc + (if x.acc = acc then x.amt else 0) := by simp [itemsA]
theorem itemsO_snoc (l : List Item) (x : Item) (acc frm to : Int) : itemsO (l ++ [x]) acc frm to = itemsO l acc frm to + (if x.acc = acc ∧ ¬ (frm ≤ x.date ∧ x.date ≤ to) then x.amt else 0) := by simp [itemsO]

theorem w_before (c0 c1 c2 c3 c4 : List V) (h0 : ∀ n m, okNs n m c0 = true) (h1 : ∀ n m, okNs n m c1 = true) (h2 : ∀ n m, okNs n m c2 = true) (h3 : ∀ n m, okNs n m c3 = true) (h4 : ∀ n m, okNs n m c4 = true)
    (r : Res) (first last acc o d c l : Int) (D : Nat → Int) (hb : isW o) (hcw : isW c) (hD : ∀ j, isW (D j)) :
    FnS Try.prog 33 [.agg [.ptr 5 0, vI first, vI last], r.v] ⟨[.cells c0, .cells c1, .cells c2, .cells c3, .cells c4, .cells (noteV acc o d c l D), .cells [.ptr 5 0, vI first, vI last]], []⟩ (.tup [])
      ⟨[.cells c0, .cells c1, .cells c2, .cells c3, .cells c4, .cells (noteV acc (ww (o + itemsA r.items acc + sumF (flat r.posts) acc allK)) d (ww (c - itemsA r.items acc)) l (dD (-1) (flat r.posts) acc D)), .cells [.ptr 5 0, vI first, vI last]], []⟩ := by
  (refine FnS.of_code mix Try.call33 k_33 (by simp) (fun hB => ?_); (try simp at hB); (try simp -implicitDefEqProofs [c_note_collector__before_33]))
  have hlm : r.items.length ≤ 9223372036854775807 := by simp [maxLen] at hB; omega
  refine loop_rule (X := Nat) (fun k => k ≤ r.items.length) (fun k => [(2, .ptr 7 0), (3, .ptr 8 0), (7, Item.l r.items), (8, vI r.items.length), (9, vI k)])
    (fun k => ⟨[.cells c0, .cells c1, .cells c2, .cells c3, .cells c4, .cells (noteV acc (ww (o + itemsA (r.items.take k) acc)) d (ww (c - itemsA (r.items.take k) acc)) l D), .cells [.ptr 5 0, vI first, vI last], .cells [.ptr 5 0, vI first, vI last], .cells (r.c.map .t)], []⟩) (fun k => r.items.length - k) 0 (by simp) ?_ ?_
  · have e1 : ww (o + 0) = o := by rw [Int.add_zero]; exact hb
    have e2 : ww (c - 0) = c := by rw [Int.sub_zero]; exact hcw
    simp [itemsA, h0, h1, h2, h3, h4]
    simp at e1 e2
    simp [e1, e2]
  rintro i hi hbd
  rcases Nat.lt_or_ge i r.items.length with h | h
  · have hx : r.items[i]? = some r.items[i] := by simp [h]
    have e3 : IntKind.i64.wrap ((i : Int) + 1) = (i : Int) + 1 := wrap64 (by omega) (by omega)
    have hs := itemsA_snoc (r.items.take i) r.items[i] acc
    rw [← take_next hx] at hs
    by_cases a1 : r.items[i].acc = acc
    · have a1b : (r.items[i].acc == acc) = true := by simpa using a1
      rw [if_pos a1] at hs
      ((try simp -implicitDefEqProofs [h, e3, a1b, wrap_ww]); repeat' first | (with_reducible refine gdK_em (fun hc => ?_) (fun hc => ?_) <;> (have hc' := hc; (try simp at hc'); simp -implicitDefEqProofs [hc, hc', h, e3, a1b, wrap_ww])) | (with_reducible refine cdK_em (fun hc => ?_) (fun hc => ?_) <;> (have hc' := hc; (try simp at hc'); simp -implicitDefEqProofs [hc, hc', h, e3, a1b, wrap_ww])) | (with_reducible refine pickK_em (fun hc => ?_) (fun hc => ?_) <;> (have hc' := hc; (try simp at hc'); simp -implicitDefEqProofs [hc, hc', h, e3, a1b, wrap_ww])))
      exact ⟨i + 1, by omega, by omega, by simp [← List.map_take, hs, ww_add, ww_sub, Int.add_assoc, Int.sub_sub, h0, h1, h2, h3, h4]⟩
    · have a1b : (r.items[i].acc == acc) = false := by simpa using a1
      rw [if_neg a1, Int.add_zero] at hs
      ((try simp -implicitDefEqProofs [h, e3, a1b, wrap_ww]); repeat' first | (with_reducible refine gdK_em (fun hc => ?_) (fun hc => ?_) <;> (have hc' := hc; (try simp at hc'); simp -implicitDefEqProofs [hc, hc', h, e3, a1b, wrap_ww])) | (with_reducible refine cdK_em (fun hc => ?_) (fun hc => ?_) <;> (have hc' := hc; (try simp at hc'); simp -implicitDefEqProofs [hc, hc', h, e3, a1b, wrap_ww])) | (with_reducible refine pickK_em (fun hc => ?_) (fun hc => ?_) <;> (have hc' := hc; (try simp at hc'); simp -implicitDefEqProofs [hc, hc', h, e3, a1b, wrap_ww])))
      exact ⟨i + 1, by omega, by omega, by simp [← List.map_take, hs, h0, h1, h2, h3, h4]⟩
  · have : i = r.items.length := by omega
    subst this
    ((try simp -implicitDefEqProofs [h0, h1, h2, h3, h4]); repeat' first | (with_reducible refine gdK_em (fun hc => ?_) (fun hc => ?_) <;> (have hc' := hc; (try simp at hc'); simp -implicitDefEqProofs [hc, hc', h0, h1, h2, h3, h4])) | (with_reducible refine cdK_em (fun hc => ?_) (fun hc => ?_) <;> (have hc' := hc; (try simp at hc'); simp -implicitDefEqProofs [hc, hc', h0, h1, h2, h3, h4])) | (with_reducible refine pickK_em (fun hc => ?_) (fun hc => ?_) <;> (have hc' := hc; (try simp at hc'); simp -implicitDefEqProofs [hc, hc', h0, h1, h2, h3, h4])))
    refine callK_fn (w_partsB c0 c1 c2 c3 c4 (r.c.map .t) h0 h1 h2 h3 h4 (fun n m => okNs_map _ _ _) r first last acc (ww (o + itemsA r.items acc)) d (ww (c - itemsA r.items acc)) l D (isW_ww _) hD) (fun hd => by cases hd) ?_
    ((try simp -implicitDefEqProofs [h0, h1, h2, h3, h4, ww_add]); repeat' first | (with_reducible refine gdK_em (fun hc => ?_) (fun hc => ?_) <;> (have hc' := hc; (try simp at hc'); simp -implicitDefEqProofs [hc, hc', h0, h1, h2, h3, h4, ww_add])) | (with_reducible refine cdK_em (fun hc => ?_) (fun hc => ?_) <;> (have hc' := hc; (try simp at hc'); simp -implicitDefEqProofs [hc, hc', h0, h1, h2, h3, h4, ww_add])) | (with_reducible refine pickK_em (fun hc => ?_) (fun hc => ?_) <;> (have hc' := hc; (try simp at hc'); simp -implicitDefEqProofs [hc, hc', h0, h1, h2, h3, h4, ww_add])))

theorem w_after (c0 c1 c2 c3 c4 : List V) (h0 : ∀ n m, okNs n m c0 = true) (h1 : ∀ n m, okNs n m c1 = true) (h2 : ∀ n m, okNs n m c2 = true) (h3 : ∀ n m, okNs n m c3 = true) (h4 : ∀ n m, okNs n m c4 = true)
    (r : Res) (first last acc o d c l : Int) (D : Nat → Int) (hb : isW l) (hcw : isW c) (hdw : isW d) (hD : ∀ j, isW (D j)) :
    FnS Try.prog 34 [.agg [.ptr 5 0, vI first, vI last], r.v] ⟨[.cells c0, .cells c1, .cells c2, .cells c3, .cells c4, .cells (noteV acc o d c l D), .cells [.ptr 5 0, vI first, vI last]], []⟩ (.tup [])
      ⟨[.cells c0, .cells c1, .cells c2, .cells c3, .cells c4, .cells (noteV acc o (ww (d + itemsI r.items acc first last)) (ww (c + itemsO r.items acc first last)) (ww (l + itemsA r.items acc + sumF (flat r.posts) acc allK)) (dD 1 (flat r.posts) acc D)), .cells [.ptr 5 0, vI first, vI last]], []⟩ := by
  (refine FnS.of_code mix Try.call34 k_34 (by simp) (fun hB => ?_); (try simp at hB); (try simp -implicitDefEqProofs [c_note_collector__after_34]))
  have hlm : r.items.length ≤ 9223372036854775807 := by simp [maxLen] at hB; omega
  refine loop_rule (X := Nat) (fun k => k ≤ r.items.length) (fun k => [(2, .ptr 7 0), (3, .ptr 8 0), (7, Item.l r.items), (8, vI r.items.length), (9, vI k)])
    (fun k => ⟨[.cells c0, .cells c1, .cells c2, .cells c3, .cells c4, .cells (noteV acc o (ww (d + itemsI (r.items.take k) acc first last)) (ww (c + itemsO (r.items.take k) acc first last)) (ww (l + itemsA (r.items.take k) acc)) D), .cells [.ptr 5 0, vI first, vI last], .cells [.ptr 5 0, vI first, vI last], .cells (r.c.map .t)], []⟩) (fun k => r.items.length - k) 0 (by simp) ?_ ?_
  · have e1 : ww l = l := hb
    have e2 : ww c = c := hcw
    have e4 : ww d = d := hdw
    simp [itemsA, itemsI, itemsO, h0, h1, h2, h3, h4, e1, e2, e4]
  rintro i hi hbd
  rcases Nat.lt_or_ge i r.items.length with h | h
  · have hx : r.items[i]? = some r.items[i] := by simp [h]
    have e3 : IntKind.i64.wrap ((i : Int) + 1) = (i : Int) + 1 := wrap64 (by omega) (by omega)
    have hs := itemsA_snoc (r.items.take i) r.items[i] acc
    rw [← take_next hx] at hs
    have hi := itemsI_snoc (r.items.take i) r.items[i] acc first last
    rw [← take_next hx] at hi
    have ho := itemsO_snoc (r.items.take i) r.items[i] acc first last
    rw [← take_next hx] at ho
    by_cases a1 : r.items[i].acc = acc
    · have a1b : (r.items[i].acc != acc) = false := by simpa using a1
      rw [if_pos a1] at hs
      by_cases a2 : first ≤ r.items[i].date
      · by_cases a3 : r.items[i].date ≤ last
        · rw [if_pos ⟨a1, a2, a3⟩] at hi
          rw [if_neg (fun hh => hh.2 ⟨a2, a3⟩), Int.add_zero] at ho
          ((try simp -implicitDefEqProofs [h, e3, a1b, a2, a3, wrap_ww]); repeat' first | (with_reducible refine gdK_em (fun hc => ?_) (fun hc => ?_) <;> (have hc' := hc; (try simp at hc'); simp -implicitDefEqProofs [hc, hc', h, e3, a1b, a2, a3, wrap_ww])) | (with_reducible refine cdK_em (fun hc => ?_) (fun hc => ?_) <;> (have hc' := hc; (try simp at hc'); simp -implicitDefEqProofs [hc, hc', h, e3, a1b, a2, a3, wrap_ww])) | (with_reducible refine pickK_em (fun hc => ?_) (fun hc => ?_) <;> (have hc' := hc; (try simp at hc'); simp -implicitDefEqProofs [hc, hc', h, e3, a1b, a2, a3, wrap_ww])))
          exact ⟨i + 1, by omega, by omega, by simp [← List.map_take, hs, hi, ho, ww_add, ww_sub, Int.add_assoc, Int.sub_sub, h0, h1, h2, h3, h4]⟩
        · rw [if_neg (fun hh => a3 hh.2.2), Int.add_zero] at hi
          rw [if_pos ⟨a1, fun hh => a3 hh.2⟩] at ho
          ((try simp -implicitDefEqProofs [h, e3, a1b, a2, a3, wrap_ww]); repeat' first | (with_reducible refine gdK_em (fun hc => ?_) (fun hc => ?_) <;> (have hc' := hc; (try simp at hc'); simp -implicitDefEqProofs [hc, hc', h, e3, a1b, a2, a3, wrap_ww])) | (with_reducible refine cdK_em (fun hc => ?_) (fun hc => ?_) <;> (have hc' := hc; (try simp at hc'); simp -implicitDefEqProofs [hc, hc', h, e3, a1b, a2, a3, wrap_ww])) | (with_reducible refine pickK_em (fun hc => ?_) (fun hc => ?_) <;> (have hc' := hc; (try simp at hc'); simp -implicitDefEqProofs [hc, hc', h, e3, a1b, a2, a3, wrap_ww])))
          exact ⟨i + 1, by omega, by omega, by simp [← List.map_take, hs, hi, ho, ww_add, ww_sub, Int.add_assoc, Int.sub_sub, h0, h1, h2, h3, h4]⟩
      · rw [if_neg (fun hh => a2 hh.2.1), Int.add_zero] at hi
        rw [if_pos ⟨a1, fun hh => a2 hh.1⟩] at ho
        ((try simp -implicitDefEqProofs [h, e3, a1b, a2, wrap_ww]); repeat' first | (with_reducible refine gdK_em (fun hc => ?_) (fun hc => ?_) <;> (have hc' := hc; (try simp at hc'); simp -implicitDefEqProofs [hc, hc', h, e3, a1b, a2, wrap_ww])) | (with_reducible refine cdK_em (fun hc => ?_) (fun hc => ?_) <;> (have hc' := hc; (try simp at hc'); simp -implicitDefEqProofs [hc, hc', h, e3, a1b, a2, wrap_ww])) | (with_reducible refine pickK_em (fun hc => ?_) (fun hc => ?_) <;> (have hc' := hc; (try simp at hc'); simp -implicitDefEqProofs [hc, hc', h, e3, a1b, a2, wrap_ww])))
        exact ⟨i + 1, by omega, by omega, by simp [← List.map_take, hs, hi, ho, ww_add, ww_sub, Int.add_assoc, Int.sub_sub, h0, h1, h2, h3, h4]⟩
    · have a1b : (r.items[i].acc != acc) = true := by simpa using a1
      rw [if_neg a1, Int.add_zero] at hs
      rw [if_neg (fun hh => a1 hh.1), Int.add_zero] at hi ho
      ((try simp -implicitDefEqProofs [h, e3, a1b, wrap_ww]); repeat' first | (with_reducible refine gdK_em (fun hc => ?_) (fun hc => ?_) <;> (have hc' := hc; (try simp at hc'); simp -implicitDefEqProofs [hc, hc', h, e3, a1b, wrap_ww])) | (with_reducible refine cdK_em (fun hc => ?_) (fun hc => ?_) <;> (have hc' := hc; (try simp at hc'); simp -implicitDefEqProofs [hc, hc', h, e3, a1b, wrap_ww])) | (with_reducible refine pickK_em (fun hc => ?_) (fun hc => ?_) <;> (have hc' := hc; (try simp at hc'); simp -implicitDefEqProofs [hc, hc', h, e3, a1b, wrap_ww])))
      exact ⟨i + 1, by omega, by omega, by simp [← List.map_take, hs, hi, ho, h0, h1, h2, h3, h4]⟩
  · have : i = r.items.length := by omega
    subst this
    ((try simp -implicitDefEqProofs [h0, h1, h2, h3, h4]); repeat' first | (with_reducible refine gdK_em (fun hc => ?_) (fun hc => ?_) <;> (have hc' := hc; (try simp at hc'); simp -implicitDefEqProofs [hc, hc', h0, h1, h2, h3, h4])) | (with_reducible refine cdK_em (fun hc => ?_) (fun hc => ?_) <;> (have hc' := hc; (try simp at hc'); simp -implicitDefEqProofs [hc, hc', h0, h1, h2, h3, h4])) | (with_reducible refine pickK_em (fun hc => ?_) (fun hc => ?_) <;> (have hc' := hc; (try simp at hc'); simp -implicitDefEqProofs [hc, hc', h0, h1, h2, h3, h4])))
    refine callK_fn (w_partsA c0 c1 c2 c3 c4 (r.c.map .t) h0 h1 h2 h3 h4 (fun n m => okNs_map _ _ _) r first last acc o (ww (d + itemsI r.items acc first last)) (ww (c + itemsO r.items acc first last)) (ww (l + itemsA r.items acc)) D (isW_ww _) hD) (fun hd => by cases hd) ?_
    ((try simp -implicitDefEqProofs [h0, h1, h2, h3, h4, ww_add]); repeat' first | (with_reducible refine gdK_em (fun hc => ?_) (fun hc => ?_) <;> (have hc' := hc; (try simp at hc'); simp -implicitDefEqProofs [hc, hc', h0, h1, h2, h3, h4, ww_add])) | (with_reducible refine cdK_em (fun hc => ?_) (fun hc => ?_) <;> (have hc' := hc; (try simp at hc'); simp -implicitDefEqProofs [hc, hc', h0, h1, h2, h3, h4, ww_add])) | (with_reducible refine pickK_em (fun hc => ?_) (fun hc => ?_) <;> (have hc' := hc; (try simp at hc'); simp -implicitDefEqProofs [hc, hc', h0, h1, h2, h3, h4, ww_add])))
end Go.Proofs.Ythfnaaeddlnckaa
end
