/- Contracts of slices.IndexFunc and slices.ContainsFunc, whatever the function is that they are handed. Printed by gen_slices.py. -/
import Derived.Test.YthfnaaeddlnckaaCode
import Derived.Test.YthfnaaeddlnckaaMaps
set_option linter.unusedSimpArgs false
set_option linter.unusedVariables false
set_option maxHeartbeats 400000
set_option maxRecDepth 8000
namespace Go.Proofs.Ythfnaaeddlnckaa
open E

/-- The boxes name no others than those there are. -/
def OkS (S : St) : Prop := leS S S
theorem okS0 : OkS St0 := ⟨trivial, trivial⟩
def idxS {α : Type} (q : α → Bool) (l : List α) : Int := match l.findIdx? q with | some i => i | none => -1
theorem idxS_in {α : Type} {q : α → Bool} {l : List α} {k : Nat} {x : α} (h : l[k]? = some x) (hn : ∀ y ∈ l.take k, q y = false) (hq : q x = true) : idxS q l = k := by
  have hk := lt_of_get h
  have : l.findIdx? q = some k := by
    rw [List.findIdx?_eq_some_iff_getElem]
    refine ⟨hk, by have : l[k] = x := by simpa [hk] using h
                   rw [this]; exact hq, fun j hj => ?_⟩
    have := hn l[j] (List.mem_iff_getElem?.2 ⟨j, by rw [List.getElem?_take, if_pos hj]; simp [show j < l.length by omega]⟩)
    simp [this]
  simp [idxS, this]
theorem idxS_out {α : Type} {q : α → Bool} {l : List α} (hn : ∀ y ∈ l, q y = false) : idxS q l = -1 := by
  have : l.findIdx? q = none := by rw [List.findIdx?_eq_none_iff]; exact fun x hx => hn x hx
  simp [idxS, this]
theorem idxS_any {α : Type} (q : α → Bool) (l : List α) : decide (0 ≤ idxS q l) = l.any q := by
  unfold idxS
  cases h : l.findIdx? q with
  | none => rw [List.findIdx?_eq_none_iff] at h; simp; intro x hx; simpa using h x hx
  | some i => rw [List.findIdx?_eq_some_iff_getElem] at h; obtain ⟨h1, h2, _⟩ := h; simp; exact ⟨l[i], List.getElem_mem h1, h2⟩


theorem w_IndexI (S : St) (hS : OkS S) (l : List Int) (f : Nat) (caps : List V) (hcp : okNs S.boxes.length S.toks.length caps = true) (q : Int → Bool) (h : ∀ x ∈ l, FnS Try.prog f ((V.t (.int .i64 x)) :: caps) S (.t (.bool (q x))) S) :
    FnS Try.prog 59 [(V.t (.sl (l.map fun x => [.int .i64 x]))), .fn (.func f) caps] S (.t (.int .i64 (idxS q l))) S := by
  (refine FnS.of_code mix Try.call59 k_59 (by simp) (fun hB => ?_); (try simp at hB); (try simp -implicitDefEqProofs [c_slices_IndexFunc___int_int__59]))
  refine loop_rule (X := Nat) (fun k => k ≤ l.length ∧ ∀ y ∈ l.take k, q y = false) (fun k => [(0, (V.t (.sl (l.map fun x => [.int .i64 x])))), (1, .fn (.func f) caps), (7, vI l.length), (8, vI k)]) (fun _ => S) (fun k => l.length - k) 0 ⟨by simp, by simp⟩ ?_ ?_
  · have := hS; simp [OkS] at this; simp [this, hcp]
  rintro k ⟨hk, hn⟩ hbd
  rcases Nat.lt_or_ge k l.length with hlt | hge
  · have hx : l[k]? = some l[k] := by simp [hlt]
    have hc := h l[k] (List.getElem_mem hlt)
    have e3 : IntKind.i64.wrap ((k : Int) + 1) = (k : Int) + 1 := wrap64 (by omega) (by simp [maxLen] at hB; omega)
    cases hq : q l[k]
    · rw [hq] at hc
      (try simp at hc)
      ((try simp -implicitDefEqProofs [hlt, e3]); repeat' first | (with_reducible refine gdK_em (fun hc => ?_) (fun hc => ?_) <;> (have hc' := hc; (try simp at hc'); simp -implicitDefEqProofs [hc, hc', hlt, e3])) | (with_reducible refine cdK_em (fun hc => ?_) (fun hc => ?_) <;> (have hc' := hc; (try simp at hc'); simp -implicitDefEqProofs [hc, hc', hlt, e3])) | (with_reducible refine pickK_em (fun hc => ?_) (fun hc => ?_) <;> (have hc' := hc; (try simp at hc'); simp -implicitDefEqProofs [hc, hc', hlt, e3])))
      refine callK_fn hc (fun hd => by cases hd) ?_
      ((try simp -implicitDefEqProofs [hlt, e3]); repeat' first | (with_reducible refine gdK_em (fun hc => ?_) (fun hc => ?_) <;> (have hc' := hc; (try simp at hc'); simp -implicitDefEqProofs [hc, hc', hlt, e3])) | (with_reducible refine cdK_em (fun hc => ?_) (fun hc => ?_) <;> (have hc' := hc; (try simp at hc'); simp -implicitDefEqProofs [hc, hc', hlt, e3])) | (with_reducible refine pickK_em (fun hc => ?_) (fun hc => ?_) <;> (have hc' := hc; (try simp at hc'); simp -implicitDefEqProofs [hc, hc', hlt, e3])))
      have hS' := hS
      simp [OkS] at hS'
      refine ⟨k + 1, ⟨by omega, fun y hy => ?_⟩, by omega, ?_⟩
      · first | rw [take_next hx] at hy | (have hy' := hy; rw [← List.map_take] at hy'; rw [take_next hx] at hy)
        rcases List.mem_append.1 hy with h1 | h1
        · exact hn y h1
        · simp at h1; subst h1; exact hq
      · simp [hS', hcp]; try omega
    · rw [hq] at hc
      (try simp at hc)
      rw [idxS_in hx hn hq]
      ((try simp -implicitDefEqProofs [hlt, e3]); repeat' first | (with_reducible refine gdK_em (fun hc => ?_) (fun hc => ?_) <;> (have hc' := hc; (try simp at hc'); simp -implicitDefEqProofs [hc, hc', hlt, e3])) | (with_reducible refine cdK_em (fun hc => ?_) (fun hc => ?_) <;> (have hc' := hc; (try simp at hc'); simp -implicitDefEqProofs [hc, hc', hlt, e3])) | (with_reducible refine pickK_em (fun hc => ?_) (fun hc => ?_) <;> (have hc' := hc; (try simp at hc'); simp -implicitDefEqProofs [hc, hc', hlt, e3])))
      refine callK_fn hc (fun hd => by cases hd) ?_
      have hS' := hS
      simp [OkS] at hS'
      ((try simp -implicitDefEqProofs [hlt, e3, hS']); repeat' first | (with_reducible refine gdK_em (fun hc => ?_) (fun hc => ?_) <;> (have hc' := hc; (try simp at hc'); simp -implicitDefEqProofs [hc, hc', hlt, e3, hS'])) | (with_reducible refine cdK_em (fun hc => ?_) (fun hc => ?_) <;> (have hc' := hc; (try simp at hc'); simp -implicitDefEqProofs [hc, hc', hlt, e3, hS'])) | (with_reducible refine pickK_em (fun hc => ?_) (fun hc => ?_) <;> (have hc' := hc; (try simp at hc'); simp -implicitDefEqProofs [hc, hc', hlt, e3, hS'])))
  · have : k = l.length := by omega
    subst this
    rw [List.take_length] at hn
    rw [idxS_out hn]
    have hS' := hS
    simp [OkS] at hS'
    ((try simp -implicitDefEqProofs [hS']); repeat' first | (with_reducible refine gdK_em (fun hc => ?_) (fun hc => ?_) <;> (have hc' := hc; (try simp at hc'); simp -implicitDefEqProofs [hc, hc', hS'])) | (with_reducible refine cdK_em (fun hc => ?_) (fun hc => ?_) <;> (have hc' := hc; (try simp at hc'); simp -implicitDefEqProofs [hc, hc', hS'])) | (with_reducible refine pickK_em (fun hc => ?_) (fun hc => ?_) <;> (have hc' := hc; (try simp at hc'); simp -implicitDefEqProofs [hc, hc', hS'])))

theorem w_ContainsI (S : St) (hS : OkS S) (l : List Int) (f : Nat) (caps : List V) (hcp : okNs S.boxes.length S.toks.length caps = true) (q : Int → Bool) (h : ∀ x ∈ l, FnS Try.prog f ((V.t (.int .i64 x)) :: caps) S (.t (.bool (q x))) S) :
    FnS Try.prog 35 [(V.t (.sl (l.map fun x => [.int .i64 x]))), .fn (.func f) caps] S (.t (.bool (l.any q))) S := by
  have hi := w_IndexI S hS l f caps hcp q h
  rw [← idxS_any]
  (try simp at hi)
  (refine FnS.of_code mix Try.call35 k_35 (by simp) (fun hB => ?_); (try simp at hB); (try simp -implicitDefEqProofs [c_slices_ContainsFunc___int_int__35]))
  refine callK_fn hi (fun hd => by cases hd) ?_
  have hS' := hS
  simp [OkS] at hS'
  ((try simp -implicitDefEqProofs [hS']); repeat' first | (with_reducible refine gdK_em (fun hc => ?_) (fun hc => ?_) <;> (have hc' := hc; (try simp at hc'); simp -implicitDefEqProofs [hc, hc', hS'])) | (with_reducible refine cdK_em (fun hc => ?_) (fun hc => ?_) <;> (have hc' := hc; (try simp at hc'); simp -implicitDefEqProofs [hc, hc', hS'])) | (with_reducible refine pickK_em (fun hc => ?_) (fun hc => ?_) <;> (have hc' := hc; (try simp at hc'); simp -implicitDefEqProofs [hc, hc', hS'])))


theorem w_IndexA (S : St) (hS : OkS S) (l : List Account) (f : Nat) (caps : List V) (hcp : okNs S.boxes.length S.toks.length caps = true) (q : Account → Bool) (h : ∀ x ∈ l, FnS Try.prog f ((Account.v x) :: caps) S (.t (.bool (q x))) S) :
    FnS Try.prog 56 [(Account.l l), .fn (.func f) caps] S (.t (.int .i64 (idxS q l))) S := by
  (refine FnS.of_code mix Try.call56 k_56 (by simp) (fun hB => ?_); (try simp at hB); (try simp -implicitDefEqProofs [c_api_Account__56]))
  refine loop_rule (X := Nat) (fun k => k ≤ l.length ∧ ∀ y ∈ l.take k, q y = false) (fun k => [(0, (Account.l l)), (1, .fn (.func f) caps), (7, vI l.length), (8, vI k)]) (fun _ => S) (fun k => l.length - k) 0 ⟨by simp, by simp⟩ ?_ ?_
  · have := hS; simp [OkS] at this; simp [this, hcp]
  rintro k ⟨hk, hn⟩ hbd
  rcases Nat.lt_or_ge k l.length with hlt | hge
  · have hx : l[k]? = some l[k] := by simp [hlt]
    have hc := h l[k] (List.getElem_mem hlt)
    have e3 : IntKind.i64.wrap ((k : Int) + 1) = (k : Int) + 1 := wrap64 (by omega) (by simp [maxLen] at hB; omega)
    cases hq : q l[k]
    · rw [hq] at hc
      (try simp at hc)
      ((try simp -implicitDefEqProofs [hlt, e3]); repeat' first | (with_reducible refine gdK_em (fun hc => ?_) (fun hc => ?_) <;> (have hc' := hc; (try simp at hc'); simp -implicitDefEqProofs [hc, hc', hlt, e3])) | (with_reducible refine cdK_em (fun hc => ?_) (fun hc => ?_) <;> (have hc' := hc; (try simp at hc'); simp -implicitDefEqProofs [hc, hc', hlt, e3])) | (with_reducible refine pickK_em (fun hc => ?_) (fun hc => ?_) <;> (have hc' := hc; (try simp at hc'); simp -implicitDefEqProofs [hc, hc', hlt, e3])))
      refine callK_fn hc (fun hd => by cases hd) ?_
      ((try simp -implicitDefEqProofs [hlt, e3]); repeat' first | (with_reducible refine gdK_em (fun hc => ?_) (fun hc => ?_) <;> (have hc' := hc; (try simp at hc'); simp -implicitDefEqProofs [hc, hc', hlt, e3])) | (with_reducible refine cdK_em (fun hc => ?_) (fun hc => ?_) <;> (have hc' := hc; (try simp at hc'); simp -implicitDefEqProofs [hc, hc', hlt, e3])) | (with_reducible refine pickK_em (fun hc => ?_) (fun hc => ?_) <;> (have hc' := hc; (try simp at hc'); simp -implicitDefEqProofs [hc, hc', hlt, e3])))
      have hS' := hS
      simp [OkS] at hS'
      refine ⟨k + 1, ⟨by omega, fun y hy => ?_⟩, by omega, ?_⟩
      · first | rw [take_next hx] at hy | (have hy' := hy; rw [← List.map_take] at hy'; rw [take_next hx] at hy)
        rcases List.mem_append.1 hy with h1 | h1
        · exact hn y h1
        · simp at h1; subst h1; exact hq
      · simp [hS', hcp]; try omega
    · rw [hq] at hc
      (try simp at hc)
      rw [idxS_in hx hn hq]
      ((try simp -implicitDefEqProofs [hlt, e3]); repeat' first | (with_reducible refine gdK_em (fun hc => ?_) (fun hc => ?_) <;> (have hc' := hc; (try simp at hc'); simp -implicitDefEqProofs [hc, hc', hlt, e3])) | (with_reducible refine cdK_em (fun hc => ?_) (fun hc => ?_) <;> (have hc' := hc; (try simp at hc'); simp -implicitDefEqProofs [hc, hc', hlt, e3])) | (with_reducible refine pickK_em (fun hc => ?_) (fun hc => ?_) <;> (have hc' := hc; (try simp at hc'); simp -implicitDefEqProofs [hc, hc', hlt, e3])))
      refine callK_fn hc (fun hd => by cases hd) ?_
      have hS' := hS
      simp [OkS] at hS'
      ((try simp -implicitDefEqProofs [hlt, e3, hS']); repeat' first | (with_reducible refine gdK_em (fun hc => ?_) (fun hc => ?_) <;> (have hc' := hc; (try simp at hc'); simp -implicitDefEqProofs [hc, hc', hlt, e3, hS'])) | (with_reducible refine cdK_em (fun hc => ?_) (fun hc => ?_) <;> (have hc' := hc; (try simp at hc'); simp -implicitDefEqProofs [hc, hc', hlt, e3, hS'])) | (with_reducible refine pickK_em (fun hc => ?_) (fun hc => ?_) <;> (have hc' := hc; (try simp at hc'); simp -implicitDefEqProofs [hc, hc', hlt, e3, hS'])))
  · have : k = l.length := by omega
    subst this
    rw [List.take_length] at hn
    rw [idxS_out hn]
    have hS' := hS
    simp [OkS] at hS'
    ((try simp -implicitDefEqProofs [hS']); repeat' first | (with_reducible refine gdK_em (fun hc => ?_) (fun hc => ?_) <;> (have hc' := hc; (try simp at hc'); simp -implicitDefEqProofs [hc, hc', hS'])) | (with_reducible refine cdK_em (fun hc => ?_) (fun hc => ?_) <;> (have hc' := hc; (try simp at hc'); simp -implicitDefEqProofs [hc, hc', hS'])) | (with_reducible refine pickK_em (fun hc => ?_) (fun hc => ?_) <;> (have hc' := hc; (try simp at hc'); simp -implicitDefEqProofs [hc, hc', hS'])))

theorem w_ContainsA (S : St) (hS : OkS S) (l : List Account) (f : Nat) (caps : List V) (hcp : okNs S.boxes.length S.toks.length caps = true) (q : Account → Bool) (h : ∀ x ∈ l, FnS Try.prog f ((Account.v x) :: caps) S (.t (.bool (q x))) S) :
    FnS Try.prog 84 [(Account.l l), .fn (.func f) caps] S (.t (.bool (l.any q))) S := by
  have hi := w_IndexA S hS l f caps hcp q h
  rw [← idxS_any]
  (try simp at hi)
  (refine FnS.of_code mix Try.call84 k_84 (by simp) (fun hB => ?_); (try simp at hB); (try simp -implicitDefEqProofs [c_api_Account__84]))
  refine callK_fn hi (fun hd => by cases hd) ?_
  have hS' := hS
  simp [OkS] at hS'
  ((try simp -implicitDefEqProofs [hS']); repeat' first | (with_reducible refine gdK_em (fun hc => ?_) (fun hc => ?_) <;> (have hc' := hc; (try simp at hc'); simp -implicitDefEqProofs [hc, hc', hS'])) | (with_reducible refine cdK_em (fun hc => ?_) (fun hc => ?_) <;> (have hc' := hc; (try simp at hc'); simp -implicitDefEqProofs [hc, hc', hS'])) | (with_reducible refine pickK_em (fun hc => ?_) (fun hc => ?_) <;> (have hc' := hc; (try simp at hc'); simp -implicitDefEqProofs [hc, hc', hS'])))


theorem w_IndexL (S : St) (hS : OkS S) (l : List Link) (f : Nat) (caps : List V) (hcp : okNs S.boxes.length S.toks.length caps = true) (q : Link → Bool) (h : ∀ x ∈ l, FnS Try.prog f ((Link.v x) :: caps) S (.t (.bool (q x))) S) :
    FnS Try.prog 100 [(Link.l l), .fn (.func f) caps] S (.t (.int .i64 (idxS q l))) S := by
  (refine FnS.of_code mix Try.call100 k_100 (by simp) (fun hB => ?_); (try simp at hB); (try simp -implicitDefEqProofs [c_api_Link__100]))
  refine loop_rule (X := Nat) (fun k => k ≤ l.length ∧ ∀ y ∈ l.take k, q y = false) (fun k => [(0, (Link.l l)), (1, .fn (.func f) caps), (7, vI l.length), (8, vI k)]) (fun _ => S) (fun k => l.length - k) 0 ⟨by simp, by simp⟩ ?_ ?_
  · have := hS; simp [OkS] at this; simp [this, hcp]
  rintro k ⟨hk, hn⟩ hbd
  rcases Nat.lt_or_ge k l.length with hlt | hge
  · have hx : l[k]? = some l[k] := by simp [hlt]
    have hc := h l[k] (List.getElem_mem hlt)
    have e3 : IntKind.i64.wrap ((k : Int) + 1) = (k : Int) + 1 := wrap64 (by omega) (by simp [maxLen] at hB; omega)
    cases hq : q l[k]
    · rw [hq] at hc
      (try simp at hc)
      ((try simp -implicitDefEqProofs [hlt, e3]); repeat' first | (with_reducible refine gdK_em (fun hc => ?_) (fun hc => ?_) <;> (have hc' := hc; (try simp at hc'); simp -implicitDefEqProofs [hc, hc', hlt, e3])) | (with_reducible refine cdK_em (fun hc => ?_) (fun hc => ?_) <;> (have hc' := hc; (try simp at hc'); simp -implicitDefEqProofs [hc, hc', hlt, e3])) | (with_reducible refine pickK_em (fun hc => ?_) (fun hc => ?_) <;> (have hc' := hc; (try simp at hc'); simp -implicitDefEqProofs [hc, hc', hlt, e3])))
      refine callK_fn hc (fun hd => by cases hd) ?_
      ((try simp -implicitDefEqProofs [hlt, e3]); repeat' first | (with_reducible refine gdK_em (fun hc => ?_) (fun hc => ?_) <;> (have hc' := hc; (try simp at hc'); simp -implicitDefEqProofs [hc, hc', hlt, e3])) | (with_reducible refine cdK_em (fun hc => ?_) (fun hc => ?_) <;> (have hc' := hc; (try simp at hc'); simp -implicitDefEqProofs [hc, hc', hlt, e3])) | (with_reducible refine pickK_em (fun hc => ?_) (fun hc => ?_) <;> (have hc' := hc; (try simp at hc'); simp -implicitDefEqProofs [hc, hc', hlt, e3])))
      have hS' := hS
      simp [OkS] at hS'
      refine ⟨k + 1, ⟨by omega, fun y hy => ?_⟩, by omega, ?_⟩
      · first | rw [take_next hx] at hy | (have hy' := hy; rw [← List.map_take] at hy'; rw [take_next hx] at hy)
        rcases List.mem_append.1 hy with h1 | h1
        · exact hn y h1
        · simp at h1; subst h1; exact hq
      · simp [hS', hcp]; try omega
    · rw [hq] at hc
      (try simp at hc)
      rw [idxS_in hx hn hq]
      ((try simp -implicitDefEqProofs [hlt, e3]); repeat' first | (with_reducible refine gdK_em (fun hc => ?_) (fun hc => ?_) <;> (have hc' := hc; (try simp at hc'); simp -implicitDefEqProofs [hc, hc', hlt, e3])) | (with_reducible refine cdK_em (fun hc => ?_) (fun hc => ?_) <;> (have hc' := hc; (try simp at hc'); simp -implicitDefEqProofs [hc, hc', hlt, e3])) | (with_reducible refine pickK_em (fun hc => ?_) (fun hc => ?_) <;> (have hc' := hc; (try simp at hc'); simp -implicitDefEqProofs [hc, hc', hlt, e3])))
      refine callK_fn hc (fun hd => by cases hd) ?_
      have hS' := hS
      simp [OkS] at hS'
      ((try simp -implicitDefEqProofs [hlt, e3, hS']); repeat' first | (with_reducible refine gdK_em (fun hc => ?_) (fun hc => ?_) <;> (have hc' := hc; (try simp at hc'); simp -implicitDefEqProofs [hc, hc', hlt, e3, hS'])) | (with_reducible refine cdK_em (fun hc => ?_) (fun hc => ?_) <;> (have hc' := hc; (try simp at hc'); simp -implicitDefEqProofs [hc, hc', hlt, e3, hS'])) | (with_reducible refine pickK_em (fun hc => ?_) (fun hc => ?_) <;> (have hc' := hc; (try simp at hc'); simp -implicitDefEqProofs [hc, hc', hlt, e3, hS'])))
  · have : k = l.length := by omega
    subst this
    rw [List.take_length] at hn
    rw [idxS_out hn]
    have hS' := hS
    simp [OkS] at hS'
    ((try simp -implicitDefEqProofs [hS']); repeat' first | (with_reducible refine gdK_em (fun hc => ?_) (fun hc => ?_) <;> (have hc' := hc; (try simp at hc'); simp -implicitDefEqProofs [hc, hc', hS'])) | (with_reducible refine cdK_em (fun hc => ?_) (fun hc => ?_) <;> (have hc' := hc; (try simp at hc'); simp -implicitDefEqProofs [hc, hc', hS'])) | (with_reducible refine pickK_em (fun hc => ?_) (fun hc => ?_) <;> (have hc' := hc; (try simp at hc'); simp -implicitDefEqProofs [hc, hc', hS'])))

theorem w_ContainsL (S : St) (hS : OkS S) (l : List Link) (f : Nat) (caps : List V) (hcp : okNs S.boxes.length S.toks.length caps = true) (q : Link → Bool) (h : ∀ x ∈ l, FnS Try.prog f ((Link.v x) :: caps) S (.t (.bool (q x))) S) :
    FnS Try.prog 91 [(Link.l l), .fn (.func f) caps] S (.t (.bool (l.any q))) S := by
  have hi := w_IndexL S hS l f caps hcp q h
  rw [← idxS_any]
  (try simp at hi)
  (refine FnS.of_code mix Try.call91 k_91 (by simp) (fun hB => ?_); (try simp at hB); (try simp -implicitDefEqProofs [c_api_Link__91]))
  refine callK_fn hi (fun hd => by cases hd) ?_
  have hS' := hS
  simp [OkS] at hS'
  ((try simp -implicitDefEqProofs [hS']); repeat' first | (with_reducible refine gdK_em (fun hc => ?_) (fun hc => ?_) <;> (have hc' := hc; (try simp at hc'); simp -implicitDefEqProofs [hc, hc', hS'])) | (with_reducible refine cdK_em (fun hc => ?_) (fun hc => ?_) <;> (have hc' := hc; (try simp at hc'); simp -implicitDefEqProofs [hc, hc', hS'])) | (with_reducible refine pickK_em (fun hc => ?_) (fun hc => ?_) <;> (have hc' := hc; (try simp at hc'); simp -implicitDefEqProofs [hc, hc', hS'])))

end Go.Proofs.Ythfnaaeddlnckaa
