/- Statements and rules; slices.IndexFunc, slices.ContainsFunc. Printed by gen_idx.py. -/
import Derived.Test.YtpggidmbnjfmaaaGreatDoorSya
set_option linter.unusedSimpArgs false
set_option linter.unusedVariables false
set_option maxHeartbeats 2000000
set_option maxRecDepth 8000
namespace Go.Proofs.YtpggidmbnjfmaaaGreatDoor
open E

structure Stm where
 kind : Int
 acc : Int
 name : List UInt8
 ex : Xp
def Stm.c (x : Stm) : List T := .int .i64 x.kind :: .int .i64 x.acc :: .str x.name :: x.ex.c
abbrev Stm.v (x : Stm) : V := .agg (x.c.map .t)
abbrev Stm.l (l : List Stm) : V := .t (.sl (l.map Stm.c))
theorem len_sc (x : Stm) : x.c.length = 9 := by simp [Stm.c, len_c]
theorem take_sc (x : Stm) : List.take 9 (x.c.map V.t) = x.c.map V.t := List.take_of_length_le (by simp [len_sc])
structure Rul where
 name : List UInt8
 pair : Bool
 stmts : List Stm
 to : Int
def Rul.c (x : Rul) : List T := [.str x.name, .bool x.pair, .sl (x.stmts.map Stm.c), .int .i64 x.to]
abbrev Rul.v (x : Rul) : V := .agg (x.c.map .t)
abbrev Rul.l (l : List Rul) : V := .t (.sl (l.map Rul.c))
theorem len_rc (x : Rul) : x.c.length = 4 := by simp [Rul.c]
theorem take_rc (x : Rul) : List.take 4 (x.c.map V.t) = x.c.map V.t := List.take_of_length_le (by simp [len_rc])

theorem w_IdxX (S : St) (hS : OkS S) (l : List Xp) (f : Nat) (caps : List V) (hcp : okNs S.boxes.length S.toks.length caps = true) (q : Xp → Bool) (h : ∀ x ∈ l, FnS Tryz.prog f (Xp.v x :: caps) S (.t (.bool (q x))) S) :
  FnS Tryz.prog 161 [Xp.l l, .fn (.func f) caps] S (.t (.int .i64 (idxS q l))) S := by
 (refine FnS.of_code mix Tryz.call161 k_161 (by simp) (fun hB => ?_); (try simp at hB); (try simp -implicitDefEqProofs [qc_161]))
 refine loop_rule (X := Nat) (fun k => k ≤ l.length ∧ ∀ y ∈ l.take k, q y = false) (fun k => [(0, Xp.l l), (1, .fn (.func f) caps), (7, vI l.length), (8, vI k)]) (fun _ => S) (fun k => l.length - k) 0 ⟨by simp, by simp⟩ ?_ ?_
 ·have := hS; simp [OkS] at this; simp [this, hcp]
 rintro k ⟨hk, hn⟩ hbd
 rcases Nat.lt_or_ge k l.length with hlt | hge
 ·have hx : l[k]? = some l[k] := by simp [hlt]
  have hc := h l[k] (List.getElem_mem hlt)
  have e3 : IntKind.i64.wrap ((k : Int) + 1) = (k : Int) + 1 := wrap64 (by omega) (by simp [maxLen] at hB; omega)
  have hlc := len_c l[k]
  have htc := take_c l[k]
  cases hq : q l[k]
  ·rw [hq] at hc
   (try simp -implicitDefEqProofs [hlt, e3, hlc, htc])
   refine callKf hc ?_
   (try simp -implicitDefEqProofs [hlt, e3])
   have hS' := hS
   simp [OkS] at hS'
   refine ⟨k + 1, ⟨by omega, fun y hy => ?_⟩, by omega, ?_⟩
   ·rw [take_next hx] at hy
    rcases List.mem_append.1 hy with h1 | h1
    ·exact hn y h1
    ·simp at h1; subst h1; exact hq
   ·simp [hS', hcp]; try omega
  ·rw [hq] at hc
   rw [idxS_in hx hn hq]
   (try simp -implicitDefEqProofs [hlt, e3, hlc, htc])
   refine callKf hc ?_
   have hS' := hS
   simp [OkS] at hS'
   (try simp -implicitDefEqProofs [hlt, e3, hS'])
 ·have : k = l.length := by omega
  subst this
  rw [List.take_length] at hn
  rw [idxS_out hn]
  have hS' := hS
  simp [OkS] at hS'
  (try simp -implicitDefEqProofs [hS'])
theorem w_ConX (S : St) (hS : OkS S) (l : List Xp) (f : Nat) (caps : List V) (hcp : okNs S.boxes.length S.toks.length caps = true) (q : Xp → Bool) (h : ∀ x ∈ l, FnS Tryz.prog f (Xp.v x :: caps) S (.t (.bool (q x))) S) :
  FnS Tryz.prog 142 [Xp.l l, .fn (.func f) caps] S (.t (.bool (l.any q))) S := by
 have hi := w_IdxX S hS l f caps hcp q h
 rw [← idxS_any]
 generalize idxS q l = r at *
 (refine FnS.of_code mix Tryz.call142 k_142 (by simp) (fun hB => ?_); (try simp at hB); (try simp -implicitDefEqProofs [qc_142]))
 refine callKf hi ?_
 have hS' := hS
 simp [OkS] at hS'
 (try simp -implicitDefEqProofs [hS'])

theorem w_IdxS (S : St) (hS : OkS S) (l : List Stm) (f : Nat) (caps : List V) (hcp : okNs S.boxes.length S.toks.length caps = true) (q : Stm → Bool) (h : ∀ x ∈ l, FnS Tryz.prog f (Stm.v x :: caps) S (.t (.bool (q x))) S) :
  FnS Tryz.prog 113 [Stm.l l, .fn (.func f) caps] S (.t (.int .i64 (idxS q l))) S := by
 (refine FnS.of_code mix Tryz.call113 k_113 (by simp) (fun hB => ?_); (try simp at hB); (try simp -implicitDefEqProofs [qc_113]))
 refine loop_rule (X := Nat) (fun k => k ≤ l.length ∧ ∀ y ∈ l.take k, q y = false) (fun k => [(0, Stm.l l), (1, .fn (.func f) caps), (7, vI l.length), (8, vI k)]) (fun _ => S) (fun k => l.length - k) 0 ⟨by simp, by simp⟩ ?_ ?_
 ·have := hS; simp [OkS] at this; simp [this, hcp]
 rintro k ⟨hk, hn⟩ hbd
 rcases Nat.lt_or_ge k l.length with hlt | hge
 ·have hx : l[k]? = some l[k] := by simp [hlt]
  have hc := h l[k] (List.getElem_mem hlt)
  have e3 : IntKind.i64.wrap ((k : Int) + 1) = (k : Int) + 1 := wrap64 (by omega) (by simp [maxLen] at hB; omega)
  have hlc := len_sc l[k]
  have htc := take_sc l[k]
  cases hq : q l[k]
  ·rw [hq] at hc
   (try simp -implicitDefEqProofs [hlt, e3, hlc, htc])
   refine callKf hc ?_
   (try simp -implicitDefEqProofs [hlt, e3])
   have hS' := hS
   simp [OkS] at hS'
   refine ⟨k + 1, ⟨by omega, fun y hy => ?_⟩, by omega, ?_⟩
   ·rw [take_next hx] at hy
    rcases List.mem_append.1 hy with h1 | h1
    ·exact hn y h1
    ·simp at h1; subst h1; exact hq
   ·simp [hS', hcp]; try omega
  ·rw [hq] at hc
   rw [idxS_in hx hn hq]
   (try simp -implicitDefEqProofs [hlt, e3, hlc, htc])
   refine callKf hc ?_
   have hS' := hS
   simp [OkS] at hS'
   (try simp -implicitDefEqProofs [hlt, e3, hS'])
 ·have : k = l.length := by omega
  subst this
  rw [List.take_length] at hn
  rw [idxS_out hn]
  have hS' := hS
  simp [OkS] at hS'
  (try simp -implicitDefEqProofs [hS'])
theorem w_ConS (S : St) (hS : OkS S) (l : List Stm) (f : Nat) (caps : List V) (hcp : okNs S.boxes.length S.toks.length caps = true) (q : Stm → Bool) (h : ∀ x ∈ l, FnS Tryz.prog f (Stm.v x :: caps) S (.t (.bool (q x))) S) :
  FnS Tryz.prog 63 [Stm.l l, .fn (.func f) caps] S (.t (.bool (l.any q))) S := by
 have hi := w_IdxS S hS l f caps hcp q h
 rw [← idxS_any]
 generalize idxS q l = r at *
 (refine FnS.of_code mix Tryz.call63 k_63 (by simp) (fun hB => ?_); (try simp at hB); (try simp -implicitDefEqProofs [qc_63]))
 refine callKf hi ?_
 have hS' := hS
 simp [OkS] at hS'
 (try simp -implicitDefEqProofs [hS'])

end Go.Proofs.YtpggidmbnjfmaaaGreatDoor
