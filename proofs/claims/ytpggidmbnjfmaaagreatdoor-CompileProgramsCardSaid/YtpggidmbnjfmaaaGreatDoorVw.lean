/- Chapter 34: ContainsFunc on a view of instructions. -/
import Derived.Test.YtpggidmbnjfmaaaGreatDoorMea
import Derived.Test.YtpggidmbnjfmaaaGreatDoorSlices
import Derived.Test.YtpggidmbnjfmaaaGreatDoorCodeC
import Derived.Test.YtpggidmbnjfmaaaGreatDoorIto
import Derived.Lib.ItoaLen
section
set_option linter.unusedSimpArgs false
set_option linter.unusedVariables false
set_option maxHeartbeats 1000000
set_option maxRecDepth 8000
namespace Go.Proofs.YtpggidmbnjfmaaaGreatDoor
open E

theorem w_cl (x : Ins) : Pure Tryz.prog 40 [x.v] (vB (x.op != 1)) := by
 obtain ⟨op, a, b⟩ := x
 (refine Pure.of_code mix Tryz.call40 k_40 (by simp) (fun hB => ?_); (try simp at hB); (try simp -implicitDefEqProofs [qc_40]))
 ((try simp -implicitDefEqProofs); repeat' first | ((with_reducible first | apply gdK_em | apply cdK_em | apply pickK_em) <;> (intro hc; have hc' := hc; (try simp at hc'); simp -implicitDefEqProofs [hc, hc'])))

theorem w_idxV (S : St) (hS : OkS S) (b o z : Nat) (e : TypeId) (cs : List V) (hBx : S.boxes[b]? = some (.buf e z cs)) (l : List Ins) (hlen : l.length ≤ 1000000)
  (hv : ∀ k (h : k < l.length), (cs.drop (o + k * 3)).take 3 = [vI l[k].op, vI l[k].a, vI l[k].b] ∧ o + k * 3 + 3 ≤ cs.length) :
  FnS Tryz.prog 81 [.vw b o l.length, .fn (.func 40) []] S (vI (idxS (fun y => y.op != 1) l)) S := by
 have hb : b < S.boxes.length := (List.getElem?_eq_some_iff.1 hBx).1
 (refine FnS.of_code mix Tryz.call81 k_81 (by simp) (fun hB => ?_); (try simp at hB); (try simp -implicitDefEqProofs [qc_81]))
 refine loop_rule (X := Nat) (fun k => k ≤ l.length ∧ ∀ y ∈ l.take k, (y.op != 1) = false) (fun k => [(0, .vw b o l.length), (1, .fn (.func 40) []), (7, vI l.length), (8, vI k)]) (fun _ => S) (fun k => l.length - k) 0 ⟨by simp, by simp⟩ ?_ ?_
 ·have := hS; simp [OkS] at this; simp [this, hb]
 rintro k ⟨hk, hn⟩ hbd
 rcases Nat.lt_or_ge k l.length with hlt | hge
 ·have hx : l[k]? = some l[k] := by simp [hlt]
  obtain ⟨hv1, hv2⟩ := hv k hlt
  have hc := w_cl l[k]
  have e3 : IntKind.i64.wrap ((k : Int) + 1) = (k : Int) + 1 := wrap64 (by omega) (by omega)
  cases hq : (l[k].op != 1)
  ·rw [hq] at hc
   ((try simp at hc); (try simp -implicitDefEqProofs [hlt, e3, hv1, hv2, hBx]); repeat' first | ((with_reducible first | apply gdK_em | apply cdK_em | apply pickK_em) <;> (intro hc; have hc' := hc; (try simp at hc'); simp -implicitDefEqProofs [hc, hc', hlt, e3, hv1, hv2, hBx])) | (with_reducible apply callK_pure <;> first | (simp only [eras, era, eras_map]; first | with_reducible exact hc | simpa using hc) | (simp -implicitDefEqProofs [hlt, e3, hv1, hv2, hBx])))
   have hS' := hS
   simp [OkS] at hS'
   refine ⟨k + 1, ⟨by omega, fun y hy => ?_⟩, by omega, hS', hb, by simp⟩
   rw [take_next hx] at hy
   rcases List.mem_append.1 hy with hy | hy
   ·simpa using hn y hy
   ·simp at hy; subst hy; simpa using hq
  ·rw [hq] at hc
   rw [idxS_in hx hn hq]
   ((try simp at hc); (try simp -implicitDefEqProofs [hlt, e3, hv1, hv2, hBx]); repeat' first | ((with_reducible first | apply gdK_em | apply cdK_em | apply pickK_em) <;> (intro hc; have hc' := hc; (try simp at hc'); simp -implicitDefEqProofs [hc, hc', hlt, e3, hv1, hv2, hBx])) | (with_reducible apply callK_pure <;> first | (simp only [eras, era, eras_map]; first | with_reducible exact hc | simpa using hc) | (simp -implicitDefEqProofs [hlt, e3, hv1, hv2, hBx])))
   have hS' := hS
   simp [OkS] at hS'
   exact hS'
 ·have : k = l.length := by omega
  subst this
  rw [List.take_length] at hn
  rw [idxS_out hn]
  have hS' := hS
  simp [OkS] at hS'
  ((try simp -implicitDefEqProofs [hS']); repeat' first | ((with_reducible first | apply gdK_em | apply cdK_em | apply pickK_em) <;> (intro hc; have hc' := hc; (try simp at hc'); simp -implicitDefEqProofs [hc, hc', hS'])))

theorem w_cfV (S : St) (hS : OkS S) (b o z : Nat) (e : TypeId) (cs : List V) (hBx : S.boxes[b]? = some (.buf e z cs)) (l : List Ins) (hlen : l.length ≤ 1000000)
  (hv : ∀ k (h : k < l.length), (cs.drop (o + k * 3)).take 3 = [vI l[k].op, vI l[k].a, vI l[k].b] ∧ o + k * 3 + 3 ≤ cs.length) :
  FnS Tryz.prog 39 [.vw b o l.length, .fn (.func 40) []] S (vB (l.any fun y => y.op != 1)) S := by
 have hi := w_idxV S hS b o z e cs hBx l hlen hv
 have hb : b < S.boxes.length := (List.getElem?_eq_some_iff.1 hBx).1
 rw [← idxS_any]
 (try simp at hi)
 (refine FnS.of_code mix Tryz.call39 k_39 (by simp) (fun hB => ?_); (try simp at hB); (try simp -implicitDefEqProofs [qc_39]))
 refine callKf hi ?_
 have hS' := hS
 simp [OkS] at hS'
 ((try simp -implicitDefEqProofs [hS']); repeat' first | ((with_reducible first | apply gdK_em | apply cdK_em | apply pickK_em) <;> (intro hc; have hc' := hc; (try simp at hc'); simp -implicitDefEqProofs [hc, hc', hS'])))

theorem meaB (c : Code) (hlen : c.ins.length ≤ 1000000) : Pure Tryz.prog 37 [c.v] (vB (meaR c).2) := by
 have hm := w_mea c hlen
 generalize meaR c = r at *
 obtain ⟨n, ok⟩ := r
 obtain ⟨cn, pair, ins⟩ := c
 simp only [vO] at hm
 (refine Pure.of_code mix Tryz.call37 k_37 (by simp) (fun hB => ?_); (try simp at hB); (try simp -implicitDefEqProofs [qc_37]))
 ((try simp at hm); (try simp -implicitDefEqProofs); repeat' first | ((with_reducible first | apply gdK_em | apply cdK_em | apply pickK_em) <;> (intro hc; have hc' := hc; (try simp at hc'); simp -implicitDefEqProofs [hc, hc'])) | (with_reducible apply callK_pure <;> first | (simp only [eras, era, eras_map]; first | with_reducible exact hm | simpa using hm) | (simp -implicitDefEqProofs)))
end Go.Proofs.YtpggidmbnjfmaaaGreatDoor
end

/- Chapter 34: the text of a code. -/
section
set_option linter.unusedSimpArgs false
set_option linter.unusedVariables false
set_option maxHeartbeats 2000000
set_option maxRecDepth 8000
namespace Go.Proofs.YtpggidmbnjfmaaaGreatDoor
open E

def argT (n : Int) : List UInt8 := 32 :: Lib.itoa n
def argsT (l : List Int) : List UInt8 := l.flatMap argT
def insT (x : Ins) : List UInt8 := nm x.op ++ argsT ([x.a, x.b].take (us x.op).toNat) ++ [10]
def txtC (l : List Ins) : List UInt8 := l.flatMap insT
abbrev bBx (rows : List (List T)) : Bx := .buf 117 0 [.ptr 2 0, .own 0 5 1 rows]

theorem strR_append (a b : List UInt8) : strR (a ++ b) = strR a ++ strR b := by simp [strR]

theorem w_WS0 (b : Nat) (l : List UInt8) (B : List Bx) (K : List Nat) (hBx : B[b]? = some (.buf 117 0 [.t .nilp, .snil]))
  (hl : l.length ≤ 1000000) (hok : LeBs B.length K.length B B) (hok2 : LeBs B.length (K.length + 1) B B) :
  FnS Tryz.prog 42 [.ptr b 0, .t (.str l)] ⟨B, K⟩ (.tup [.t (.int .i64 l.length), .t .nili])
   ⟨B.set b (.buf 117 0 [.ptr b 0, .own K.length 5 1 (strR l)]), K ++ [l.length]⟩ := by
 have hb : b < B.length := (List.getElem?_eq_some_iff.1 hBx).1
 have hc := w_check b (.t .nilp) .snil ⟨B, K⟩ (.inl rfl) hBx
 (refine FnS.of_code mix Tryz.call42 k_42 (by simp) (fun hB => ?_); (try simp at hB); (try simp -implicitDefEqProofs [qc_42]))
 refine callK_fn hc (fun h => by cases h) ?_
 ((try simp -implicitDefEqProofs [hb]); repeat' first | ((with_reducible first | apply gdK_em | apply cdK_em | apply pickK_em) <;> (intro hc; have hc' := hc; (try simp at hc'); simp -implicitDefEqProofs [hc, hc', hb])))
 refine ⟨⟨by unfold maxLen; omega, by omega⟩, LeBs.setR ?_ b hok2, LeNs.refl _⟩
 simp [leB, LeL, leC, okNs, okN, hb]

theorem w_WSt (c0 c1 x : List V) (rows : List (List T)) (l : List UInt8) (hl : rows.length + l.length ≤ 1000000) (h0 : okNs 4 1 c0 = true) (h1 : okNs 4 1 c1 = true) (h2 : okNs 4 1 x = true) :
  FnS Tryz.prog 42 [.ptr 2 0, .t (.str l)] ⟨[.cells c0, .cells c1, bBx rows, .cells x], [rows.length]⟩ (.tup [.t (.int .i64 l.length), .t .nili])
   ⟨[.cells c0, .cells c1, bBx (rows ++ strR l), .cells x], [rows.length + l.length]⟩ := by
 have := w_WS 2 0 (.ptr 2 0) rows l [.cells c0, .cells c1, bBx rows, .cells x] [rows.length] (.inr rfl) rfl rfl (by omega) (by simp [LeBs, leB, LeL, leC, okNs, okN, h0, h1, h2])
 simpa using this
theorem w_WBt (c0 c1 x : List V) (rows : List (List T)) (c : Int) (hl : rows.length ≤ 1000000) (h0 : okNs 4 1 c0 = true) (h1 : okNs 4 1 c1 = true) (h2 : okNs 4 1 x = true) :
  FnS Tryz.prog 44 [.ptr 2 0, .t (.int .u8 c)] ⟨[.cells c0, .cells c1, bBx rows, .cells x], [rows.length]⟩ (.t .nili)
   ⟨[.cells c0, .cells c1, bBx (rows ++ [[.int .u8 c]]), .cells x], [rows.length + 1]⟩ := by
 have := w_WB 2 0 (.ptr 2 0) rows c [.cells c0, .cells c1, bBx rows, .cells x] [rows.length] (.inr rfl) rfl rfl (by omega) (by simp [LeBs, leB, LeL, leC, okNs, okN, h0, h1, h2])
 simpa using this
theorem w_WSi (c0 c1 x : List V) (l : List UInt8) (hl : l.length ≤ 1000000) (h0 : ∀ n m, okNs n m c0 = true) (h1 : ∀ n m, okNs n m c1 = true) (h2 : ∀ n m, okNs n m x = true) :
  FnS Tryz.prog 42 [.ptr 2 0, .t (.str l)] ⟨[.cells c0, .cells c1, .buf 117 0 [.t .nilp, .snil], .cells x], []⟩ (.tup [.t (.int .i64 l.length), .t .nili])
   ⟨[.cells c0, .cells c1, bBx (strR l), .cells x], [l.length]⟩ := by
 have := w_WS0 2 l [.cells c0, .cells c1, .buf 117 0 [.t .nilp, .snil], .cells x] [] rfl hl (by simp [LeBs, leB, LeL, leC, okNs, okN, h0, h1, h2]) (by simp [LeBs, leB, LeL, leC, okNs, okN, h0, h1, h2])
 simpa using this

def bB (k : Nat) (t : List UInt8) : Bx := if k = 0 then .buf 117 0 [.t .nilp, .snil] else bBx (strR t)
def bK (k : Nat) (t : List UInt8) : List Nat := if k = 0 then [] else [t.length]

theorem nm_len {n : Nat} (h : n ≤ 26) : (nm n).length ≤ 12 := by
 have : ∀ n < 27, (nm (n : Nat)).length ≤ 12 := by decide
 exact this n (by omega)
theorem us_in {n : Nat} (h : n ≤ 26) : us n = 0 ∨ us n = 1 ∨ us n = 2 := by
 have : ∀ n < 27, us (n : Nat) = 0 ∨ us (n : Nat) = 1 ∨ us (n : Nat) = 2 := by decide
 exact this n (by omega)

def inI (n : Int) : Prop := -9223372036854775808 ≤ n ∧ n ≤ 9223372036854775807
theorem argT_len {n : Int} (h : inI n) : (argT n).length ≤ 22 := by
 have := Lib.itoa_length_le n h.1 h.2
 simp [argT]; omega
theorem argsT_len {l : List Int} (h : ∀ z ∈ l, inI z) : (argsT l).length ≤ 22 * l.length := by
 induction l with
 | nil => simp [argsT]
 | cons x l ih =>
  have h1 := argT_len (h x (by simp))
  have h2 := ih fun y hy => h y (by simp [hy])
  simp only [argsT, List.flatMap_cons, List.length_append, List.length_cons] at *
  omega
theorem insT_len {x : Ins} {n : Nat} (hn : x.op = n) (h : n ≤ 26) (ha : inI x.a) (hb : inI x.b) : (insT x).length ≤ 60 := by
 have h1 := nm_len h
 have h2 := argT_len ha
 have h3 := argT_len hb
 unfold insT argsT
 rw [hn]
 rcases us_in h with h4 | h4 | h4 <;> simp [h4] <;> omega

theorem runM_before {c : Code} {k m : Nat} {s : Int × Int × Int} (h : runM c m = some s) (hk : k ≤ m) : ∃ s', runM c k = some s' := by
 cases hr : runM c k with
 | some s' => exact ⟨s', rfl⟩
 | none =>
  have := runM_none hr (m - k)
  rw [show k + (m - k) = m from by omega, h] at this
  cases this
theorem mea_ops {c : Code} (h : (meaR c).2 = true) {k : Nat} {x : Ins} (hx : c.ins[k]? = some x) : 1 ≤ x.op ∧ x.op ≤ 26 := by
 have hk := lt_of_get hx
 unfold meaR at h
 split at h
 ·cases h
 split at h
 ·rename_i s hs
  obtain ⟨s1, h1⟩ := runM_before hs (Nat.le_of_lt hk)
  obtain ⟨s2, h2⟩ := runM_before hs (show k + 1 ≤ _ from hk)
  rw [runM_succ h1 hx] at h2
  have := step_in h2
  exact ⟨this.1, this.2.1⟩
 ·cases h
theorem mea_ne {c : Code} (h : (meaR c).2 = true) : 0 < c.ins.length := by
 cases hc : c.ins with
 | nil => simp [meaR, hc] at h
 | cons x l => simp
theorem txt_len {l : List Ins} (h : ∀ x ∈ l, (insT x).length ≤ 60) : (txtC l).length ≤ 60 * l.length := by
 induction l with
 | nil => simp [txtC]
 | cons x l ih =>
  have h1 := h x (by simp)
  have h2 := ih fun y hy => h y (by simp [hy])
  simp only [txtC, List.flatMap_cons, List.length_append, List.length_cons] at *
  omega

def textR (c : Code) : List UInt8 × Int := if (meaR c).2 = true then (txtC c.ins, 0) else ([], 1)

theorem w_text (c : Code) (hlen : c.ins.length ≤ 1000) (hin : ∀ x ∈ c.ins, inI x.a ∧ inI x.b) : Pure Tryz.prog 17 [c.v] (.tup [vS (textR c).1, vI (textR c).2]) := by
 have hval := meaB c (by omega)
 have htab := w_tab
 have hrow : ∀ n : Nat, n ≤ 26 → ((tabC.map V.t).drop (n * 4)).take 4 = [vS (nm n), vI (tk n), vI (pt n), vI (us n)] := fun n h => tab_row h
 have htl : (tabC.map V.t).length = 108 := by rw [List.length_map]; exact tab_len
 have htt : ∀ x ∈ tabC.map V.t, ∃ y, x = V.t y := fun x hx => by obtain ⟨y, _, rfl⟩ := List.mem_map.1 hx; exact ⟨y, rfl⟩
 have hok : ∀ n m, okNs n m (tabC.map V.t) = true := fun n m => okNs_map n m _
 have hops : (meaR c).2 = true → ∀ (k : Nat) (x : Ins), c.ins[k]? = some x → 1 ≤ x.op ∧ x.op ≤ 26 := fun h k x hx => mea_ops h hx
 have hne := @mea_ne c
 unfold textR
 obtain ⟨cn, pair, ins⟩ := c
 simp only [] at hlen hin hops hne
 cases hm : (meaR ⟨cn, pair, ins⟩).2
 ·rw [hm] at hval
  (refine Pure.of_code mix Tryz.call17 k_17 (by simp) (fun hB => ?_); (try simp at hB); (try simp -implicitDefEqProofs [qc_17]))
  ((try simp at hval); (try simp -implicitDefEqProofs); repeat' first | ((with_reducible first | apply gdK_em | apply cdK_em | apply pickK_em) <;> (intro hc; have hc' := hc; (try simp at hc'); simp -implicitDefEqProofs [hc, hc'])) | (with_reducible apply callK_pure <;> first | (simp only [eras, era, eras_map]; first | with_reducible exact hval | simpa using hval) | (simp -implicitDefEqProofs)))
 rw [hm] at hval
 have hops := hops hm
 have hne := hne hm
 have hil : ∀ x ∈ ins, (insT x).length ≤ 60 := fun x hx => by
  obtain ⟨k, hk⟩ := List.mem_iff_getElem?.1 hx
  obtain ⟨h1, h2⟩ := hops k x hk
  obtain ⟨n, hn⟩ : ∃ n : Nat, x.op = n := ⟨x.op.toNat, by omega⟩
  exact insT_len hn (by omega) (hin x hx).1 (hin x hx).2
 (refine Pure.of_code mix Tryz.call17 k_17 (by simp) (fun hB => ?_); (try simp at hB); (try simp -implicitDefEqProofs [qc_17]))
 generalize tabC.map V.t = TB at *
 ((try simp at hval); (try simp at htab); (try simp -implicitDefEqProofs); repeat' first | ((with_reducible first | apply gdK_em | apply cdK_em | apply pickK_em) <;> (intro hc; have hc' := hc; (try simp at hc'); simp -implicitDefEqProofs [hc, hc'])) | (with_reducible apply callK_pure <;> first | (simp only [eras, era, eras_map]; first | with_reducible exact hval | with_reducible exact htab | simpa using hval | simpa using htab) | (simp -implicitDefEqProofs)))
 refine ⟨⟨htl, fun x hx => by obtain ⟨y, rfl⟩ := htt x hx; rfl⟩, ?_⟩
 refine loop_rule (X := Nat) (fun k => k ≤ ins.length) (fun k => [(1, .ptr 0 0), (4, .ptr 1 0), (5, .ptr 2 0), (15, Ins.l ins), (16, vI ins.length), (17, vI k)])
  (fun k => ⟨[.cells [vS cn, vB pair, Ins.l ins], .cells TB, bB k (txtC (ins.take k))], bK k (txtC (ins.take k))⟩) (fun k => ins.length - k) 0 (by simp) ?hs ?_
 case hs => simp [htl, bB, bK, hok]
 rintro k hk hbd
 rcases Nat.lt_or_ge k ins.length with h | h
 ·have hx : ins[k]? = some ins[k] := by simp [h]
  have h' : ¬ ins.length ≤ k := by omega
  have e3 : IntKind.i64.wrap ((k : Int) + 1) = (k : Int) + 1 := wrap64 (by omega) (by omega)
  obtain ⟨o1, o2⟩ := hops k _ hx
  obtain ⟨n, hn⟩ : ∃ n : Nat, ins[k].op = n := ⟨ins[k].op.toNat, by omega⟩
  have hn26 : n ≤ 26 := by omega
  have hrn := hrow n hn26
  have hnl := nm_len hn26
  have htk : txtC (ins.take (k + 1)) = txtC (ins.take k) ++ insT ins[k] := by unfold txtC; rw [take_next hx, List.flatMap_append]; simp [List.flatMap_cons]
  have htl2 : (txtC (ins.take k)).length ≤ 60 * k := by
   have := txt_len (l := ins.take k) (fun x hx => hil x (List.mem_of_mem_take hx))
   rw [List.length_take, Nat.min_eq_left hk] at this
   exact this
  have hil2 := hil ins[k] (mem_of_get hx)
  have ht0 : k = 0 → txtC (ins.take k) = [] := fun h0 => by subst h0; rfl
  generalize txtC (ins.take k) = t at htk htl2 ht0 ⊢
  have hw1 : ∀ A Bq : Int, FnS Tryz.prog 42 [.ptr 2 0, .t (.str (nm n))] ⟨[.cells [vS cn, vB pair, Ins.l ins], .cells TB, bB k t, .cells [vI n, vI A, vI Bq]], bK k t⟩ (.tup [.t (.int .i64 (nm n).length), .t .nili])
   ⟨[.cells [vS cn, vB pair, Ins.l ins], .cells TB, bBx (strR (t ++ nm n)), .cells [vI n, vI A, vI Bq]], [(t ++ nm n).length]⟩ := fun A Bq => by
   have hcc : ∀ n m, okNs n m [vS cn, vB pair, Ins.l ins] = true := fun n m => by simp [okNs, okN]
   have hxx : ∀ n m, okNs n m [vI n, vI A, vI Bq] = true := fun n m => by simp [okNs, okN]
   rcases Nat.eq_zero_or_pos k with k0 | k0
   ·rw [ht0 k0, k0]
    have := w_WSi [vS cn, vB pair, Ins.l ins] TB [vI n, vI A, vI Bq] (nm n) (by omega) hcc hok (fun _ _ => by simp [okNs, okN])
    simpa [bB, bK] using this
   ·have := w_WSt [vS cn, vB pair, Ins.l ins] TB [vI n, vI A, vI Bq] (strR t) (nm n) (by rw [strR_length]; omega) (hcc _ _) (hok _ _) (by simp [okNs, okN])
    rw [strR_length, ← strR_append, ← List.length_append] at this
    simpa only [bB, bK, if_neg (show ¬ k = 0 by omega)] using this
  have hd0 : TB.drop (n * 4) = vS (nm n) :: vI (tk n) :: vI (pt n) :: vI (us n) :: TB.drop (n * 4 + 4) := by
   have := List.take_append_drop 4 (TB.drop (n * 4))
   rw [hrn, List.drop_drop] at this
   exact this.symm
  ((try simp -implicitDefEqProofs [h, h', e3, hn, hd0]); repeat' first | ((with_reducible first | apply gdK_em | apply cdK_em | apply pickK_em) <;> (intro hc; have hc' := hc; (try simp at hc'); simp -implicitDefEqProofs [hc, hc', h, h', e3, hn, hd0])))
  refine ⟨by omega, by omega, ?_⟩
  refine callK_fn (hw1 ins[k].a ins[k].b) (fun h => by cases h) ?_
  have hd3 : TB.drop (n * 4 + 3) = vI (us n) :: TB.drop (n * 4 + 4) := by
   have h1 : (TB.drop (n * 4)).drop 3 = TB.drop (n * 4 + 3) := by rw [List.drop_drop]
   rw [← h1, hd0]
   rfl
  have hlt27 : (n : Int) < 27 := by omega
  have hl4 : n * 4 + 3 + 1 ≤ TB.length := by omega
  have hu := us_in hn26
  generalize hw0 : nm n = w at *
  generalize hu0 : us n = u at *
  have hit : insT ins[k] = w ++ argsT ([ins[k].a, ins[k].b].take u.toNat) ++ [10] := by subst hw0; subst hu0; unfold insT; rw [hn]
  rcases hu with hu | hu | hu
  focus
   subst hu
   ((try simp -implicitDefEqProofs [hd3, hlt27, hl4]); repeat' first | ((with_reducible first | apply gdK_em | apply cdK_em | apply pickK_em) <;> (intro hc; have hc' := hc; (try simp at hc'); simp -implicitDefEqProofs [hc, hc', hd3, hlt27, hl4])))
   refine loop_rule (X := Nat) (fun j => j ≤ (([] : List Int)).length)
    (fun j => [(1, .ptr 0 0), (4, .ptr 1 0), (5, .ptr 2 0), (15, Ins.l ins), (16, vI ins.length), (17, vI k), (37, .t (.sl ((([] : List Int)).map fun z => [tI z]))), (38, vI (([] : List Int)).length), (39, vI j)])
    (fun j => ⟨[.cells [vS cn, vB pair, Ins.l ins], .cells TB, bBx (strR (t ++ w ++ argsT ((([] : List Int)).take j))), .cells [vI n, vI ins[k].a, vI ins[k].b]], [(t ++ w ++ argsT ((([] : List Int)).take j)).length]⟩) (fun j => (([] : List Int)).length - j) 0 (by simp) ?hs0 ?_
   case hs0 => simp [hok, argsT, strR_append]
   have hL : ∀ z ∈ (([] : List Int)), inI z := by intro z hz; simp at hz
   have hLn : (([] : List Int)).length ≤ 2 := by simp
   have hins : insT ins[k] = w ++ argsT (([] : List Int)) ++ [10] := by rw [hit]; rfl
   generalize (([] : List Int)) = L at *
  rotate_left
  focus
   subst hu
   ((try simp -implicitDefEqProofs [hd3, hlt27, hl4]); repeat' first | ((with_reducible first | apply gdK_em | apply cdK_em | apply pickK_em) <;> (intro hc; have hc' := hc; (try simp at hc'); simp -implicitDefEqProofs [hc, hc', hd3, hlt27, hl4])))
   refine loop_rule (X := Nat) (fun j => j ≤ ([ins[k].a]).length)
    (fun j => [(1, .ptr 0 0), (4, .ptr 1 0), (5, .ptr 2 0), (15, Ins.l ins), (16, vI ins.length), (17, vI k), (37, .t (.sl (([ins[k].a]).map fun z => [tI z]))), (38, vI ([ins[k].a]).length), (39, vI j)])
    (fun j => ⟨[.cells [vS cn, vB pair, Ins.l ins], .cells TB, bBx (strR (t ++ w ++ argsT (([ins[k].a]).take j))), .cells [vI n, vI ins[k].a, vI ins[k].b]], [(t ++ w ++ argsT (([ins[k].a]).take j)).length]⟩) (fun j => ([ins[k].a]).length - j) 0 (by simp) ?hs1 ?_
   case hs1 => simp [hok, argsT, strR_append]
   have hL : ∀ z ∈ ([ins[k].a]), inI z := by intro z hz; simp at hz; subst hz; exact (hin _ (mem_of_get hx)).1
   have hLn : ([ins[k].a]).length ≤ 2 := by simp
   have hins : insT ins[k] = w ++ argsT ([ins[k].a]) ++ [10] := by rw [hit]; rfl
   generalize ([ins[k].a]) = L at *
  rotate_left
  focus
   subst hu
   ((try simp -implicitDefEqProofs [hd3, hlt27, hl4]); repeat' first | ((with_reducible first | apply gdK_em | apply cdK_em | apply pickK_em) <;> (intro hc; have hc' := hc; (try simp at hc'); simp -implicitDefEqProofs [hc, hc', hd3, hlt27, hl4])))
   refine loop_rule (X := Nat) (fun j => j ≤ ([ins[k].a, ins[k].b]).length)
    (fun j => [(1, .ptr 0 0), (4, .ptr 1 0), (5, .ptr 2 0), (15, Ins.l ins), (16, vI ins.length), (17, vI k), (37, .t (.sl (([ins[k].a, ins[k].b]).map fun z => [tI z]))), (38, vI ([ins[k].a, ins[k].b]).length), (39, vI j)])
    (fun j => ⟨[.cells [vS cn, vB pair, Ins.l ins], .cells TB, bBx (strR (t ++ w ++ argsT (([ins[k].a, ins[k].b]).take j))), .cells [vI n, vI ins[k].a, vI ins[k].b]], [(t ++ w ++ argsT (([ins[k].a, ins[k].b]).take j)).length]⟩) (fun j => ([ins[k].a, ins[k].b]).length - j) 0 (by simp) ?hs2 ?_
   case hs2 => simp [hok, argsT, strR_append]
   have hL : ∀ z ∈ ([ins[k].a, ins[k].b]), inI z := by
    intro z hz
    simp at hz
    rcases hz with hz | hz
    ·subst hz; exact (hin _ (mem_of_get hx)).1
    ·subst hz; exact (hin _ (mem_of_get hx)).2
   have hLn : ([ins[k].a, ins[k].b]).length ≤ 2 := by simp
   have hins : insT ins[k] = w ++ argsT ([ins[k].a, ins[k].b]) ++ [10] := by rw [hit]; rfl
   generalize ([ins[k].a, ins[k].b]) = L at *
  rotate_left
  all_goals
   clear hd3 hd0 hrn hrow
   rintro j hj hbd2
   rcases Nat.lt_or_ge j L.length with g | g
   ·have hx2 : L[j]? = some L[j] := by simp [g]
    have g' : ¬ L.length ≤ j := by omega
    have e4 : IntKind.i64.wrap ((j : Int) + 1) = (j : Int) + 1 := wrap64 (by omega) (by omega)
    have hLj := hL L[j] (List.getElem_mem g)
    have hito := w_itoa L[j] hLj.1 hLj.2
    have hla := argT_len hLj
    have htk2 : argsT (L.take (j + 1)) = argsT (L.take j) ++ argT L[j] := by unfold argsT; rw [take_next hx2, List.flatMap_append]; simp [List.flatMap_cons]
    have hal : (argsT (L.take j)).length ≤ 22 * (L.take j).length := argsT_len fun z hz => hL z (List.mem_of_mem_take hz)
    rw [List.length_take] at hal
    generalize argsT (L.take j) = u2 at *
    have hw2 := w_WSt [vS cn, vB pair, Ins.l ins] TB [vI n, vI ins[k].a, vI ins[k].b] (strR (t ++ w ++ u2)) (32 :: Lib.itoa L[j]) (by rw [strR_length]; simp only [argT, List.length_append, List.length_cons] at *; omega) (by simp [okNs, okN]) (hok _ _) (by simp [okNs, okN])
    rw [strR_length] at hw2
    ((try simp at hito); (try simp -implicitDefEqProofs [g, g', e4]); repeat' first | ((with_reducible first | apply gdK_em | apply cdK_em | apply pickK_em) <;> (intro hc; have hc' := hc; (try simp at hc'); simp -implicitDefEqProofs [hc, hc', g, g', e4])) | (with_reducible apply callK_pure <;> first | (simp only [eras, era, eras_map]; first | with_reducible exact hito | simpa using hito) | (simp -implicitDefEqProofs [g, g', e4])))
    simp at hw2
    refine ⟨by simp [argT] at hla; unfold maxLen; omega, ?_⟩
    refine callK_fn hw2 (fun h => by cases h) ?_
    ((try simp -implicitDefEqProofs [e4, hok]); repeat' first | ((with_reducible first | apply gdK_em | apply cdK_em | apply pickK_em) <;> (intro hc; have hc' := hc; (try simp at hc'); simp -implicitDefEqProofs [hc, hc', e4, hok])))
    refine ⟨j + 1, g, by omega, ⟨.inl ?_, ?_⟩, by push_cast; rfl⟩
    ·rw [htk2]; simp [argT]
    ·rw [htk2]; simp [argT]; try omega
   ·have : j = L.length := by omega
    subst this
    rw [List.take_length]
    have hal : (argsT L).length ≤ 22 * L.length := argsT_len hL
    have hw3 := w_WBt [vS cn, vB pair, Ins.l ins] TB [vI n, vI ins[k].a, vI ins[k].b] (strR (t ++ w ++ argsT L)) 10 (by rw [strR_length]; simp only [List.length_append] at *; omega) (by simp [okNs, okN]) (hok _ _) (by simp [okNs, okN])
    rw [strR_length] at hw3
    simp at hw3
    ((try simp -implicitDefEqProofs); repeat' first | ((with_reducible first | apply gdK_em | apply cdK_em | apply pickK_em) <;> (intro hc; have hc' := hc; (try simp at hc'); simp -implicitDefEqProofs [hc, hc'])))
    refine callK_fn hw3 (fun h => by cases h) ?_
    ((try simp -implicitDefEqProofs [e3, hok]); repeat' first | ((with_reducible first | apply gdK_em | apply cdK_em | apply pickK_em) <;> (intro hc; have hc' := hc; (try simp at hc'); simp -implicitDefEqProofs [hc, hc', e3, hok])))
    refine ⟨k + 1, by omega, by omega, ?_, by push_cast; rfl⟩
    rw [htk, hins]
    simp [bB, bK, LeL, leC, okNs, okN, LeNs]
    try omega
 ·have : k = ins.length := by omega
  subst this
  rw [List.take_length]
  have hst := w_String 2 0 (.ptr 2 0) (txtC ins) [.cells [vS cn, vB pair, Ins.l ins], .cells TB, bBx (strR (txtC ins))] [(txtC ins).length] rfl rfl
  have hb1 : bB ins.length (txtC ins) = bBx (strR (txtC ins)) := if_neg (by omega)
  have hb2 : bK ins.length (txtC ins) = [(txtC ins).length] := if_neg (by omega)
  rw [hb1, hb2]
  generalize txtC ins = t at *
  simp at hst
  ((try simp -implicitDefEqProofs); repeat' first | ((with_reducible first | apply gdK_em | apply cdK_em | apply pickK_em) <;> (intro hc; have hc' := hc; (try simp at hc'); simp -implicitDefEqProofs [hc, hc'])))
  refine callK_fn hst (fun h => by cases h) ?_
  ((try simp -implicitDefEqProofs); repeat' first | ((with_reducible first | apply gdK_em | apply cdK_em | apply pickK_em) <;> (intro hc; have hc' := hc; (try simp at hc'); simp -implicitDefEqProofs [hc, hc'])))
end Go.Proofs.YtpggidmbnjfmaaaGreatDoor
end
