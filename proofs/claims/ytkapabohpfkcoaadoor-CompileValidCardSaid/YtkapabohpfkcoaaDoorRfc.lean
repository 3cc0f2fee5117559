/- Walks of chapter 34: Own, Size, Valid, Same, Few. -/
import Derived.Test.YtkapabohpfkcoaaDoorRfb
set_option linter.unusedSimpArgs false
set_option linter.unusedVariables false
set_option maxHeartbeats 1000000
set_option maxRecDepth 8000
namespace Go.Proofs.YtkapabohpfkcoaaDoor
open E

theorem w_own (c : Code) (hlen : c.ins.length ≤ 1000000) : Pure Tryd.prog 22 [c.v] c.v := by
  obtain ⟨cn, pair, ins⟩ := c
  simp only [] at hlen
  (refine Pure.of_code mix Tryd.call22 k_22 (by simp) (fun hB => ?_); (try simp at hB); (try simp -implicitDefEqProofs [c_tallystonelaw34_Own_22]))
  refine loop_grow [(.cell 2 2, 87, 3)] (X := Nat) (fun k => k ≤ ins.length) (fun k => [(1, .ptr 0 0), (2, .ptr 1 0), (3, .ptr 2 0), (4, vI k)])
    (fun k => ⟨[.cells [vS cn, vB pair, Ins.l ins], .cells [vS [], vB false, .snil], .cells [vS cn, vB pair, .own 0 87 3 ((ins.take k).map Ins.c)]], [k]⟩) (fun k => ins.length - k) 0 (by omega) (by simp) ?_
  rintro k hk hbd
  rcases Nat.lt_or_ge k ins.length with h | h
  · have hx : ins[k]? = some ins[k] := by simp [h]
    have e3 : IntKind.i64.wrap ((k : Int) + 1) = (k : Int) + 1 := wrap64 (by omega) (by omega)
    have hrv : (ins.map Ins.c).take (k + 1) = (ins.map Ins.c).take k ++ [ins[k].c] := by rw [take_next (x := ins[k].c) (by simp [h])]
    have hmin : min k ins.length = k := by omega
    ((try simp -implicitDefEqProofs [h, e3, maxLen, hmin]); repeat' first | (with_reducible refine gdK_em (fun hc => ?_) (fun hc => ?_) <;> (have hc' := hc; (try simp at hc'); simp -implicitDefEqProofs [hc, hc', h, e3, maxLen, hmin])) | (with_reducible refine cdK_em (fun hc => ?_) (fun hc => ?_) <;> (have hc' := hc; (try simp at hc'); simp -implicitDefEqProofs [hc, hc', h, e3, maxLen, hmin])) | (with_reducible refine pickK_em (fun hc => ?_) (fun hc => ?_) <;> (have hc' := hc; (try simp at hc'); simp -implicitDefEqProofs [hc, hc', h, e3, maxLen, hmin])))
    exact ⟨⟨by omega, by omega⟩, k + 1, by omega, by omega, ⟨by rw [hrv]; exact .inl rfl, rfl⟩, by push_cast; rfl⟩
  · have : k = ins.length := by omega
    subst this
    have ht : (ins.map Ins.c).take ins.length = ins.map Ins.c := List.take_of_length_le (by simp)
    ((try simp -implicitDefEqProofs [ht]); repeat' first | (with_reducible refine gdK_em (fun hc => ?_) (fun hc => ?_) <;> (have hc' := hc; (try simp at hc'); simp -implicitDefEqProofs [hc, hc', ht])) | (with_reducible refine cdK_em (fun hc => ?_) (fun hc => ?_) <;> (have hc' := hc; (try simp at hc'); simp -implicitDefEqProofs [hc, hc', ht])) | (with_reducible refine pickK_em (fun hc => ?_) (fun hc => ?_) <;> (have hc' := hc; (try simp at hc'); simp -implicitDefEqProofs [hc, hc', ht])))

theorem w_rvalid (c : Code) (hlen : c.ins.length ≤ 1000000) : Pure Tryd.prog 28 [c.v] (vB (meaR c).2) := by
  have hm := w_rrun c hlen
  generalize meaR c = r at *
  obtain ⟨n, ok⟩ := r
  obtain ⟨cn, pair, ins⟩ := c
  simp only [vO] at hm
  (refine Pure.of_code mix Tryd.call28 k_28 (by simp) (fun hB => ?_); (try simp at hB); (try simp -implicitDefEqProofs [c_tallystoneref34_Valid_28]))
  ((try simp at hm); (try simp -implicitDefEqProofs); repeat' first | (with_reducible refine gdK_em (fun hc => ?_) (fun hc => ?_) <;> (have hc' := hc; (try simp at hc'); simp -implicitDefEqProofs [hc, hc'])) | (with_reducible refine cdK_em (fun hc => ?_) (fun hc => ?_) <;> (have hc' := hc; (try simp at hc'); simp -implicitDefEqProofs [hc, hc'])) | (with_reducible refine pickK_em (fun hc => ?_) (fun hc => ?_) <;> (have hc' := hc; (try simp at hc'); simp -implicitDefEqProofs [hc, hc'])) | (with_reducible apply callK_pure <;> first | (simp only [eras, era, eras_map]; first | with_reducible exact hm | simpa using hm) | (simp -implicitDefEqProofs)))
def sizR (c : Code) : Int × Int := if (meaR c).2 = true then ((meaR c).1, 0) else (0, 1)
theorem w_size (c : Code) (hlen : c.ins.length ≤ 1000000) : Pure Tryd.prog 23 [c.v] (.tup [vI (sizR c).1, vI (sizR c).2]) := by
  have hm := w_mea c hlen
  unfold sizR
  generalize meaR c = r at *
  obtain ⟨n, ok⟩ := r
  obtain ⟨cn, pair, ins⟩ := c
  simp only [vO] at hm
  (refine Pure.of_code mix Tryd.call23 k_23 (by simp) (fun hB => ?_); (try simp at hB); (try simp -implicitDefEqProofs [c_compile_Size_23]))
  ((try simp at hm); (try simp -implicitDefEqProofs); repeat' first | (with_reducible refine gdK_em (fun hc => ?_) (fun hc => ?_) <;> (have hc' := hc; (try simp at hc'); simp -implicitDefEqProofs [hc, hc'])) | (with_reducible refine cdK_em (fun hc => ?_) (fun hc => ?_) <;> (have hc' := hc; (try simp at hc'); simp -implicitDefEqProofs [hc, hc'])) | (with_reducible refine pickK_em (fun hc => ?_) (fun hc => ?_) <;> (have hc' := hc; (try simp at hc'); simp -implicitDefEqProofs [hc, hc'])) | (with_reducible apply callK_pure <;> first | (simp only [eras, era, eras_map]; first | with_reducible exact hm | simpa using hm) | (simp -implicitDefEqProofs)))
theorem w_rsize (c : Code) (hlen : c.ins.length ≤ 1000000) : Pure Tryd.prog 24 [c.v] (.tup [vI (sizR c).1, vI (sizR c).2]) := by
  have hm := w_rrun c hlen
  unfold sizR
  generalize meaR c = r at *
  obtain ⟨n, ok⟩ := r
  obtain ⟨cn, pair, ins⟩ := c
  simp only [vO] at hm
  (refine Pure.of_code mix Tryd.call24 k_24 (by simp) (fun hB => ?_); (try simp at hB); (try simp -implicitDefEqProofs [c_tallystoneref34_Size_24]))
  ((try simp at hm); (try simp -implicitDefEqProofs); repeat' first | (with_reducible refine gdK_em (fun hc => ?_) (fun hc => ?_) <;> (have hc' := hc; (try simp at hc'); simp -implicitDefEqProofs [hc, hc'])) | (with_reducible refine cdK_em (fun hc => ?_) (fun hc => ?_) <;> (have hc' := hc; (try simp at hc'); simp -implicitDefEqProofs [hc, hc'])) | (with_reducible refine pickK_em (fun hc => ?_) (fun hc => ?_) <;> (have hc' := hc; (try simp at hc'); simp -implicitDefEqProofs [hc, hc'])) | (with_reducible apply callK_pure <;> first | (simp only [eras, era, eras_map]; first | with_reducible exact hm | simpa using hm) | (simp -implicitDefEqProofs)))
def fewR (c : Code) : Bool := decide (c.name.length ≤ 100) && decide (c.ins.length ≤ 400)
theorem w_rfew (c : Code) : Pure Tryd.prog 21 [c.v] (vB (fewR c)) := by
  obtain ⟨cn, pair, ins⟩ := c
  unfold fewR
  rcases (by omega : cn.length ≤ 100 ∨ 100 < cn.length) with h1 | h1 <;> rcases (by omega : ins.length ≤ 400 ∨ 400 < ins.length) with h2 | h2
  · (refine Pure.of_code mix Tryd.call21 k_21 (by simp) (fun hB => ?_); (try simp at hB); (try simp -implicitDefEqProofs [c_tallystoneref34_Few_21]))
    have h1' : (cn.length : Int) ≤ 100 := by omega
    have h2' : (ins.length : Int) ≤ 400 := by omega
    ((try simp -implicitDefEqProofs [h1, h2, h1', h2']); repeat' first | (with_reducible refine gdK_em (fun hc => ?_) (fun hc => ?_) <;> (have hc' := hc; (try simp at hc'); simp -implicitDefEqProofs [hc, hc', h1, h2, h1', h2'])) | (with_reducible refine cdK_em (fun hc => ?_) (fun hc => ?_) <;> (have hc' := hc; (try simp at hc'); simp -implicitDefEqProofs [hc, hc', h1, h2, h1', h2'])) | (with_reducible refine pickK_em (fun hc => ?_) (fun hc => ?_) <;> (have hc' := hc; (try simp at hc'); simp -implicitDefEqProofs [hc, hc', h1, h2, h1', h2'])))
  · (refine Pure.of_code mix Tryd.call21 k_21 (by simp) (fun hB => ?_); (try simp at hB); (try simp -implicitDefEqProofs [c_tallystoneref34_Few_21]))
    have h1' : (cn.length : Int) ≤ 100 := by omega
    have h2' : ¬ (ins.length : Int) ≤ 400 := by omega
    have h2n : ¬ ins.length ≤ 400 := by omega
    ((try simp -implicitDefEqProofs [h1, h2, h2n, h1', h2']); repeat' first | (with_reducible refine gdK_em (fun hc => ?_) (fun hc => ?_) <;> (have hc' := hc; (try simp at hc'); simp -implicitDefEqProofs [hc, hc', h1, h2, h2n, h1', h2'])) | (with_reducible refine cdK_em (fun hc => ?_) (fun hc => ?_) <;> (have hc' := hc; (try simp at hc'); simp -implicitDefEqProofs [hc, hc', h1, h2, h2n, h1', h2'])) | (with_reducible refine pickK_em (fun hc => ?_) (fun hc => ?_) <;> (have hc' := hc; (try simp at hc'); simp -implicitDefEqProofs [hc, hc', h1, h2, h2n, h1', h2'])))
  · (refine Pure.of_code mix Tryd.call21 k_21 (by simp) (fun hB => ?_); (try simp at hB); (try simp -implicitDefEqProofs [c_tallystoneref34_Few_21]))
    have h1' : ¬ (cn.length : Int) ≤ 100 := by omega
    have h1n : ¬ cn.length ≤ 100 := by omega
    ((try simp -implicitDefEqProofs [h1, h2, h1n, h1']); repeat' first | (with_reducible refine gdK_em (fun hc => ?_) (fun hc => ?_) <;> (have hc' := hc; (try simp at hc'); simp -implicitDefEqProofs [hc, hc', h1, h2, h1n, h1'])) | (with_reducible refine cdK_em (fun hc => ?_) (fun hc => ?_) <;> (have hc' := hc; (try simp at hc'); simp -implicitDefEqProofs [hc, hc', h1, h2, h1n, h1'])) | (with_reducible refine pickK_em (fun hc => ?_) (fun hc => ?_) <;> (have hc' := hc; (try simp at hc'); simp -implicitDefEqProofs [hc, hc', h1, h2, h1n, h1'])))
  · (refine Pure.of_code mix Tryd.call21 k_21 (by simp) (fun hB => ?_); (try simp at hB); (try simp -implicitDefEqProofs [c_tallystoneref34_Few_21]))
    have h1' : ¬ (cn.length : Int) ≤ 100 := by omega
    have h1n : ¬ cn.length ≤ 100 := by omega
    ((try simp -implicitDefEqProofs [h1, h2, h1n, h1']); repeat' first | (with_reducible refine gdK_em (fun hc => ?_) (fun hc => ?_) <;> (have hc' := hc; (try simp at hc'); simp -implicitDefEqProofs [hc, hc', h1, h2, h1n, h1'])) | (with_reducible refine cdK_em (fun hc => ?_) (fun hc => ?_) <;> (have hc' := hc; (try simp at hc'); simp -implicitDefEqProofs [hc, hc', h1, h2, h1n, h1'])) | (with_reducible refine pickK_em (fun hc => ?_) (fun hc => ?_) <;> (have hc' := hc; (try simp at hc'); simp -implicitDefEqProofs [hc, hc', h1, h2, h1n, h1'])))

def samR (a b : Code) : Bool := (a.name == b.name) && (a.pair == b.pair) && decide (a.ins = b.ins)
theorem ne_of_at {α : Type} {l m : List α} {k : Nat} {x y : α} (h1 : l[k]? = some x) (h2 : m[k]? = some y) (h : x ≠ y) : l ≠ m := fun e => by rw [e, h2] at h1; exact h (Option.some.inj h1).symm
theorem take_ext {α : Type} {l m : List α} {k : Nat} {x : α} (h : l.take k = m.take k) (h1 : l[k]? = some x) (h2 : m[k]? = some x) : l.take (k + 1) = m.take (k + 1) := by rw [take_next h1, take_next h2, h]
theorem Ins.beq_c (x y : Ins) : ((x.op == y.op) && ((x.a == y.a) && (x.b == y.b))) = decide (x = y) := by
  obtain ⟨a, b, c⟩ := x
  obtain ⟨d, e, f⟩ := y
  rw [Bool.eq_iff_iff]
  simp
theorem w_eqIns (l m : List Ins) (h1 : l.length ≤ 1000000) (h2 : m.length ≤ 1000000) : Pure Tryd.prog 64 [Ins.l l, Ins.l m] (vB (decide (l = m))) := by
  generalize hR : vB (decide (l = m)) = R
  rcases Nat.decEq l.length m.length with hl | hl
  · have h3 : ¬ l = m := fun e => hl (by rw [e])
    rw [decide_eq_false h3] at hR
    subst hR
    have hl' : ((l.length : Int) == (m.length : Int)) = false := by simp; omega
    have hl2 : ¬ (l.length : Int) = (m.length : Int) := by omega
    (refine Pure.of_code mix Tryd.call64 k_64 (by simp) (fun hB => ?_); (try simp at hB); (try simp -implicitDefEqProofs [c_compile_Ins__64]))
    ((try simp -implicitDefEqProofs [hl, hl', hl2, bne]); repeat' first | (with_reducible refine gdK_em (fun hc => ?_) (fun hc => ?_) <;> (have hc' := hc; (try simp at hc'); simp -implicitDefEqProofs [hc, hc', hl, hl', hl2, bne])) | (with_reducible refine cdK_em (fun hc => ?_) (fun hc => ?_) <;> (have hc' := hc; (try simp at hc'); simp -implicitDefEqProofs [hc, hc', hl, hl', hl2, bne])) | (with_reducible refine pickK_em (fun hc => ?_) (fun hc => ?_) <;> (have hc' := hc; (try simp at hc'); simp -implicitDefEqProofs [hc, hc', hl, hl', hl2, bne])))
  have hl' : ((l.length : Int) == (m.length : Int)) = true := by simp; omega
  (refine Pure.of_code mix Tryd.call64 k_64 (by simp) (fun hB => ?_); (try simp at hB); (try simp -implicitDefEqProofs [c_compile_Ins__64]))
  ((try simp -implicitDefEqProofs [hl, hl', bne]); repeat' first | (with_reducible refine gdK_em (fun hc => ?_) (fun hc => ?_) <;> (have hc' := hc; (try simp at hc'); simp -implicitDefEqProofs [hc, hc', hl, hl', bne])) | (with_reducible refine cdK_em (fun hc => ?_) (fun hc => ?_) <;> (have hc' := hc; (try simp at hc'); simp -implicitDefEqProofs [hc, hc', hl, hl', bne])) | (with_reducible refine pickK_em (fun hc => ?_) (fun hc => ?_) <;> (have hc' := hc; (try simp at hc'); simp -implicitDefEqProofs [hc, hc', hl, hl', bne])))
  refine loop_rule (X := Nat) (fun k => k ≤ m.length ∧ l.take k = m.take k) (fun k => [(0, Ins.l l), (1, Ins.l m), (12, vI m.length), (13, vI k)]) (fun _ => St0) (fun k => m.length - k) 0 ⟨by omega, rfl⟩ (by simp) ?_
  rintro k ⟨hk, ht⟩ hbd
  rcases Nat.lt_or_ge k m.length with h | h
  · have hkl : k < l.length := by omega
    have hx : l[k]? = some l[k] := by simp [hkl]
    have hy : m[k]? = some m[k] := by simp [h]
    have e3 : IntKind.i64.wrap ((k : Int) + 1) = (k : Int) + 1 := wrap64 (by omega) (by omega)
    have hbc := Ins.beq_c l[k] m[k]
    by_cases hxy : l[k] = m[k]
    · rw [decide_eq_true hxy] at hbc
      simp only [Bool.and_eq_true] at hbc
      obtain ⟨c1, c2, c3⟩ := hbc
      ((try simp -implicitDefEqProofs [h, hkl, hl, e3, c1, c2, c3]); repeat' first | (with_reducible refine gdK_em (fun hc => ?_) (fun hc => ?_) <;> (have hc' := hc; (try simp at hc'); simp -implicitDefEqProofs [hc, hc', h, hkl, hl, e3, c1, c2, c3])) | (with_reducible refine cdK_em (fun hc => ?_) (fun hc => ?_) <;> (have hc' := hc; (try simp at hc'); simp -implicitDefEqProofs [hc, hc', h, hkl, hl, e3, c1, c2, c3])) | (with_reducible refine pickK_em (fun hc => ?_) (fun hc => ?_) <;> (have hc' := hc; (try simp at hc'); simp -implicitDefEqProofs [hc, hc', h, hkl, hl, e3, c1, c2, c3])))
      exact ⟨k + 1, ⟨by omega, take_ext ht hx (by rw [hy, hxy])⟩, by omega, by push_cast; rfl⟩
    · rw [decide_eq_false hxy] at hbc
      rw [decide_eq_false (ne_of_at hx hy hxy)] at hR
      subst hR
      ((try simp -implicitDefEqProofs [h, hkl, hl, e3, hbc]); repeat' first | (with_reducible refine gdK_em (fun hc => ?_) (fun hc => ?_) <;> (have hc' := hc; (try simp at hc'); simp -implicitDefEqProofs [hc, hc', h, hkl, hl, e3, hbc])) | (with_reducible refine cdK_em (fun hc => ?_) (fun hc => ?_) <;> (have hc' := hc; (try simp at hc'); simp -implicitDefEqProofs [hc, hc', h, hkl, hl, e3, hbc])) | (with_reducible refine pickK_em (fun hc => ?_) (fun hc => ?_) <;> (have hc' := hc; (try simp at hc'); simp -implicitDefEqProofs [hc, hc', h, hkl, hl, e3, hbc])))
  · have : k = m.length := by omega
    subst this
    rw [List.take_length, List.take_of_length_le (by omega)] at ht
    rw [decide_eq_true ht] at hR
    subst hR
    ((try simp -implicitDefEqProofs); repeat' first | (with_reducible refine gdK_em (fun hc => ?_) (fun hc => ?_) <;> (have hc' := hc; (try simp at hc'); simp -implicitDefEqProofs [hc, hc'])) | (with_reducible refine cdK_em (fun hc => ?_) (fun hc => ?_) <;> (have hc' := hc; (try simp at hc'); simp -implicitDefEqProofs [hc, hc'])) | (with_reducible refine pickK_em (fun hc => ?_) (fun hc => ?_) <;> (have hc' := hc; (try simp at hc'); simp -implicitDefEqProofs [hc, hc'])))

theorem w_same (a b : Code) (h1 : a.ins.length ≤ 1000000) (h2 : b.ins.length ≤ 1000000) : Pure Tryd.prog 29 [a.v, b.v] (vB (samR a b)) := by
  obtain ⟨an, ap, ai⟩ := a
  obtain ⟨bn, bp, bi⟩ := b
  have he := w_eqIns ai bi h1 h2
  unfold samR
  (refine Pure.of_code mix Tryd.call29 k_29 (by simp) (fun hB => ?_); (try simp at hB); (try simp -implicitDefEqProofs [c_compile_Same_29]))
  ((try simp at he); (try simp -implicitDefEqProofs); repeat' first | (with_reducible refine gdK_em (fun hc => ?_) (fun hc => ?_) <;> (have hc' := hc; (try simp at hc'); simp -implicitDefEqProofs [hc, hc'])) | (with_reducible refine cdK_em (fun hc => ?_) (fun hc => ?_) <;> (have hc' := hc; (try simp at hc'); simp -implicitDefEqProofs [hc, hc'])) | (with_reducible refine pickK_em (fun hc => ?_) (fun hc => ?_) <;> (have hc' := hc; (try simp at hc'); simp -implicitDefEqProofs [hc, hc'])) | (with_reducible apply callK_pure <;> first | (simp only [eras, era, eras_map]; first | with_reducible exact he | simpa using he) | (simp -implicitDefEqProofs)))
  all_goals simp_all
theorem w_rsame (a b : Code) (h1 : a.ins.length ≤ 1000000) (h2 : b.ins.length ≤ 1000000) : Pure Tryd.prog 30 [a.v, b.v] (vB (samR a b)) := by
  obtain ⟨an, ap, l⟩ := a
  obtain ⟨bn, bp, m⟩ := b
  generalize hR : vB (samR ⟨an, ap, l⟩ ⟨bn, bp, m⟩) = R
  unfold samR at hR
  simp only [] at hR h1 h2
  cases hn : an == bn
  · rw [hn] at hR
    simp only [Bool.false_and] at hR
    subst hR
    (refine Pure.of_code mix Tryd.call30 k_30 (by simp) (fun hB => ?_); (try simp at hB); (try simp -implicitDefEqProofs [c_tallystoneref34_Same_30]))
    ((try simp -implicitDefEqProofs [hn]); repeat' first | (with_reducible refine gdK_em (fun hc => ?_) (fun hc => ?_) <;> (have hc' := hc; (try simp at hc'); simp -implicitDefEqProofs [hc, hc', hn])) | (with_reducible refine cdK_em (fun hc => ?_) (fun hc => ?_) <;> (have hc' := hc; (try simp at hc'); simp -implicitDefEqProofs [hc, hc', hn])) | (with_reducible refine pickK_em (fun hc => ?_) (fun hc => ?_) <;> (have hc' := hc; (try simp at hc'); simp -implicitDefEqProofs [hc, hc', hn])))
  cases hp : ap == bp
  · rw [hn, hp] at hR
    simp only [Bool.false_and, Bool.and_false] at hR
    subst hR
    (refine Pure.of_code mix Tryd.call30 k_30 (by simp) (fun hB => ?_); (try simp at hB); (try simp -implicitDefEqProofs [c_tallystoneref34_Same_30]))
    ((try simp -implicitDefEqProofs [hn, hp]); repeat' first | (with_reducible refine gdK_em (fun hc => ?_) (fun hc => ?_) <;> (have hc' := hc; (try simp at hc'); simp -implicitDefEqProofs [hc, hc', hn, hp])) | (with_reducible refine cdK_em (fun hc => ?_) (fun hc => ?_) <;> (have hc' := hc; (try simp at hc'); simp -implicitDefEqProofs [hc, hc', hn, hp])) | (with_reducible refine pickK_em (fun hc => ?_) (fun hc => ?_) <;> (have hc' := hc; (try simp at hc'); simp -implicitDefEqProofs [hc, hc', hn, hp])))
  rw [hn, hp] at hR
  simp only [Bool.true_and] at hR
  rcases Nat.decEq l.length m.length with hl | hl
  · have h3 : ¬ l = m := fun e => hl (by rw [e])
    rw [decide_eq_false h3] at hR
    subst hR
    have hl' : ((l.length : Int) == (m.length : Int)) = false := by simp; omega
    have hl2 : ¬ (l.length : Int) = (m.length : Int) := by omega
    (refine Pure.of_code mix Tryd.call30 k_30 (by simp) (fun hB => ?_); (try simp at hB); (try simp -implicitDefEqProofs [c_tallystoneref34_Same_30]))
    ((try simp -implicitDefEqProofs [hn, hp, hl, hl', hl2, bne]); repeat' first | (with_reducible refine gdK_em (fun hc => ?_) (fun hc => ?_) <;> (have hc' := hc; (try simp at hc'); simp -implicitDefEqProofs [hc, hc', hn, hp, hl, hl', hl2, bne])) | (with_reducible refine cdK_em (fun hc => ?_) (fun hc => ?_) <;> (have hc' := hc; (try simp at hc'); simp -implicitDefEqProofs [hc, hc', hn, hp, hl, hl', hl2, bne])) | (with_reducible refine pickK_em (fun hc => ?_) (fun hc => ?_) <;> (have hc' := hc; (try simp at hc'); simp -implicitDefEqProofs [hc, hc', hn, hp, hl, hl', hl2, bne])))
  have hl' : ((l.length : Int) == (m.length : Int)) = true := by simp; omega
  (refine Pure.of_code mix Tryd.call30 k_30 (by simp) (fun hB => ?_); (try simp at hB); (try simp -implicitDefEqProofs [c_tallystoneref34_Same_30]))
  ((try simp -implicitDefEqProofs [hn, hp, hl, hl', bne]); repeat' first | (with_reducible refine gdK_em (fun hc => ?_) (fun hc => ?_) <;> (have hc' := hc; (try simp at hc'); simp -implicitDefEqProofs [hc, hc', hn, hp, hl, hl', bne])) | (with_reducible refine cdK_em (fun hc => ?_) (fun hc => ?_) <;> (have hc' := hc; (try simp at hc'); simp -implicitDefEqProofs [hc, hc', hn, hp, hl, hl', bne])) | (with_reducible refine pickK_em (fun hc => ?_) (fun hc => ?_) <;> (have hc' := hc; (try simp at hc'); simp -implicitDefEqProofs [hc, hc', hn, hp, hl, hl', bne])))
  refine loop_rule (X := Nat) (fun k => k ≤ m.length ∧ l.take k = m.take k) (fun k => [(2, .ptr 0 0), (3, .ptr 1 0), (5, vI k)]) (fun _ => ⟨[.cells [vS an, vB ap, Ins.l l], .cells [vS bn, vB bp, Ins.l m]], []⟩) (fun k => m.length - k) 0 ⟨by omega, rfl⟩ (by simp) ?_
  rintro k ⟨hk, ht⟩ hbd
  rcases Nat.lt_or_ge k m.length with h | h
  · have hkl : k < l.length := by omega
    have hx : l[k]? = some l[k] := by simp [hkl]
    have hy : m[k]? = some m[k] := by simp [h]
    have e3 : IntKind.i64.wrap ((k : Int) + 1) = (k : Int) + 1 := wrap64 (by omega) (by omega)
    have hbc := Ins.beq_c l[k] m[k]
    by_cases hxy : l[k] = m[k]
    · rw [decide_eq_true hxy] at hbc
      simp only [Bool.and_eq_true] at hbc
      obtain ⟨c1, c2, c3⟩ := hbc
      ((try simp -implicitDefEqProofs [h, hkl, hl, e3, c1, c2, c3]); repeat' first | (with_reducible refine gdK_em (fun hc => ?_) (fun hc => ?_) <;> (have hc' := hc; (try simp at hc'); simp -implicitDefEqProofs [hc, hc', h, hkl, hl, e3, c1, c2, c3])) | (with_reducible refine cdK_em (fun hc => ?_) (fun hc => ?_) <;> (have hc' := hc; (try simp at hc'); simp -implicitDefEqProofs [hc, hc', h, hkl, hl, e3, c1, c2, c3])) | (with_reducible refine pickK_em (fun hc => ?_) (fun hc => ?_) <;> (have hc' := hc; (try simp at hc'); simp -implicitDefEqProofs [hc, hc', h, hkl, hl, e3, c1, c2, c3])))
      exact ⟨k + 1, ⟨by omega, take_ext ht hx (by rw [hy, hxy])⟩, by omega, by push_cast; rfl⟩
    · rw [decide_eq_false hxy] at hbc
      rw [decide_eq_false (ne_of_at hx hy hxy)] at hR
      subst hR
      ((try simp -implicitDefEqProofs [h, hkl, hl, e3, hbc]); repeat' first | (with_reducible refine gdK_em (fun hc => ?_) (fun hc => ?_) <;> (have hc' := hc; (try simp at hc'); simp -implicitDefEqProofs [hc, hc', h, hkl, hl, e3, hbc])) | (with_reducible refine cdK_em (fun hc => ?_) (fun hc => ?_) <;> (have hc' := hc; (try simp at hc'); simp -implicitDefEqProofs [hc, hc', h, hkl, hl, e3, hbc])) | (with_reducible refine pickK_em (fun hc => ?_) (fun hc => ?_) <;> (have hc' := hc; (try simp at hc'); simp -implicitDefEqProofs [hc, hc', h, hkl, hl, e3, hbc])))
  · have : k = m.length := by omega
    subst this
    rw [List.take_length, List.take_of_length_le (by omega)] at ht
    rw [decide_eq_true ht] at hR
    subst hR
    ((try simp -implicitDefEqProofs [hl]); repeat' first | (with_reducible refine gdK_em (fun hc => ?_) (fun hc => ?_) <;> (have hc' := hc; (try simp at hc'); simp -implicitDefEqProofs [hc, hc', hl])) | (with_reducible refine cdK_em (fun hc => ?_) (fun hc => ?_) <;> (have hc' := hc; (try simp at hc'); simp -implicitDefEqProofs [hc, hc', hl])) | (with_reducible refine pickK_em (fun hc => ?_) (fun hc => ?_) <;> (have hc' := hc; (try simp at hc'); simp -implicitDefEqProofs [hc, hc', hl])))
end Go.Proofs.YtkapabohpfkcoaaDoor
