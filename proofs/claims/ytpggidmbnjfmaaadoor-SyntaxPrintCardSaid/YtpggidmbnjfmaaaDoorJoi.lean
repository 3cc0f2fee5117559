/- Chapter 32: (*strings.Builder).Grow at a fresh builder, strings.Join of two texts. -/
import Derived.Test.YtpggidmbnjfmaaaDoorBld
import Derived.Shelf.RegionOpenPlain
import Derived.Lib.Strings
import Derived.Lib.Slices
import Derived.Lib.Walk
import Derived.Lib.Builder
import Derived.Lib.MakeNoZero
import Derived.WalkKit
import Derived.Laws.Externs
import Derived.Laws.IdiomCopy
import Derived.Laws.BitsLemmas
import Derived.Test.YtpggidmbnjfmaaaDoorStr
import Derived.Test.YtpggidmbnjfmaaaDoorPra
section
set_option linter.unusedSimpArgs false
set_option linter.unusedVariables false
set_option maxHeartbeats 2000000
set_option maxRecDepth 100000
namespace Go.Proofs.YtpggidmbnjfmaaaDoor
open E Go.RowKit

theorem grow_exact (b n : Nat) (w : World) (hbk : w.heap[b]? = some (.cells #[.pointer (some ⟨b, 0, none⟩), .slice none 0 0] 60 (0, 0))) (hn : n ≤ 281474976710656) :
  Calls Tryd.prog 102 #[.pointer (some ⟨b, 0, none⟩), .int .i64 n] w fun e w' => e = .returned (.tuple #[]) ∧
   ∃ cs : Array Value, cs.size ≤ maxLen ∧ w' = ((w.setCell ⟨b, 1, none⟩ (.slice (some ⟨w.heap.size, 0, none⟩) 0 cs.size)).alloc (.cells cs 5)).drew.drew.drew := by
 obtain ⟨cs, hrun, hle, hmax⟩ := Lib.run_makeNoZero (P := Tryd.prog) w.drew #[3] 58 5 Tryd.underlying58 n hn
 have hw : IntKind.i64.wrap (IntKind.i64.wrap 0 + (n : Int)) = n := by
  rw [IntKind.wrap_i64, IntKind.wrap_i64]
  omega
 have hcall : (callFunc 110 #[.int .i64 (IntKind.i64.wrap (IntKind.i64.wrap 0 + (n : Int)))]).run Tryd.prog w.drew = .ok (.value (.slice (some ⟨w.drew.heap.size, 0, none⟩) n cs.size)) (w.drew.drew.drew.alloc (.cells cs 5)) := by
  rw [hw, run_callFunc_extern Tryd.func110 (by kernel_rfl) (by kernel_rfl) (by kernel_rfl) (e := Extern.BytealgMakeNoZero.makeNoZero #[3] #[58]) (by kernel_rfl), hrun]
  rfl
 have hcall2 := hcall
 rw [hw] at hcall2
 have hw1 : IntKind.i64.wrap (n : Int) = n := by rw [IntKind.wrap_i64]; omega
 have hcall3 : (callFunc 110 #[.int .i64 (IntKind.i64.wrap (n : Int))]).run Tryd.prog w.drew = .ok (.value (.slice (some ⟨w.drew.heap.size, 0, none⟩) n cs.size)) (w.drew.drew.drew.alloc (.cells cs 5)) := by
  rw [hw1]; exact hcall2
 have hlt : b < w.heap.size := by
  rcases Nat.lt_or_ge b w.heap.size with h' | h'
  ·exact h'
  ·simp [Array.getElem?_eq_none h'] at hbk
 have c1 : w.drew.cell? ⟨b, 1, none⟩ = some (.slice none 0 0) := by
  have : w.drew.heap[b]? = _ := hbk
  rw [Lib.cell_of_heap this]; rfl
 have c2 : (w.alloc (.cells cs 5)).cell? ⟨b, 1, none⟩ = some (.slice none 0 0) := by
  have : (w.alloc (.cells cs 5)).heap[b]? = _ := (Lib.alloc_old w _ b hlt).trans hbk
  rw [Lib.cell_of_heap this]; rfl
 have f2 : (w.alloc (.cells cs 5)).frozen? ⟨b, 1, none⟩ = false := Lib.frozen_of_heap ((Lib.alloc_old w _ b hlt).trans hbk) 1
 have hcopy : ∀ W : World, (Builtin.copy_ #[58, 58] 3 #[.slice (some ⟨w.heap.size, 0, none⟩) 0 cs.size, .slice none 0 0]).run Tryd.prog W = .ok (goInt 0) W :=
  fun W => run_copy_none W 58 58 3 5 _ _ 0 cs.size 0 0 Tryd.underlying58 (by kernel_rfl) rfl
 clear hw hw1
 have mixed : Tryd.prog.follows .mixedOrders = true := mix
 go_enter Tryd.func102, Tryd.ntmps102
 go_wp2
 have hfin := hmax (by unfold maxLen; omega)
 go_region_o
 all_goals (go_wp2; go_end0; exact ⟨rfl, cs, hfin, rfl⟩)
theorem Grow_exact (b n : Nat) (w : World) (hbk : w.heap[b]? = some (.cells #[.pointer none, .slice none 0 0] 60 (0, 0))) (h0 : 0 < n) (hn : n ≤ 281474976710656) :
  Calls Tryd.prog 88 #[.pointer (some ⟨b, 0, none⟩), .int .i64 n] w fun e w' => e = .returned (.tuple #[]) ∧
   ∃ (cs : Array Value), cs.size ≤ maxLen ∧ w' = (((w.setCell ⟨b, 0, none⟩ (.pointer (some ⟨b, 0, none⟩))).setCell ⟨b, 1, none⟩ (.slice (some ⟨w.heap.size, 0, none⟩) 0 cs.size)).alloc (.cells cs 5)).drew.drew.drew.drew := by
 have hbk1 : (w.setCell ⟨b, 0, none⟩ (.pointer (some ⟨b, 0, none⟩))).heap[b]? = some (.cells #[.pointer (some ⟨b, 0, none⟩), .slice none 0 0] 60 (0, 0)) := by
  simp [World.setCell, Array.getElem?_modify, hbk]
 have c1 : (w.setCell ⟨b, 0, none⟩ (.pointer (some ⟨b, 0, none⟩))).cell? ⟨b, 1, none⟩ = some (.slice none 0 0) := by rw [Lib.cell_of_heap hbk1]; rfl
 have e240 : ∀ args w, (callFunc 44 args).run Tryd.prog w = .ok (.enter 44 args) w := enters_of Tryd.func44 (by kernel_rfl) rfl
 have e241 : ∀ args w, (callFunc 102 args).run Tryd.prog w = .ok (.enter 102 args) w := enters_of Tryd.func102 (by kernel_rfl) rfl
 have c1' : (w.setCell ⟨b, 0, none⟩ (.pointer (some ⟨b, 0, none⟩))).drew.cell? ⟨b, 1, none⟩ = some (.slice none 0 0) := c1
 have mixed : Tryd.prog.follows .mixedOrders = true := mix
 go_enter Tryd.func88, Tryd.ntmps88
 go_wp2_with (go_at_fn 44; refine (bld_fresh b w (by rw [Lib.cell_of_heap hbk]; rfl) (by simp [World.shape?, hbk]) (Lib.frozen_of_heap hbk 0)).mono ?_; rintro e w' ⟨rfl, rfl⟩)
 go_region_o
 all_goals go_wp2_with (go_at_fn 102; refine (grow_exact b n (w.setCell ⟨b, 0, none⟩ (.pointer (some ⟨b, 0, none⟩))).drew hbk1 hn).mono ?_; rintro e w' ⟨rfl, cs, h1, h2⟩)
 all_goals subst h2
 all_goals go_end0
 all_goals exact ⟨rfl, cs, h1, by simp only [World.setCell, World.drew, Array.size_modify]⟩
namespace E

theorem args2g {us : Array Value} (h : us.size = 2) : us = #[us.getD 0 undef, us.getD 1 undef] := by
 rcases us with ⟨l⟩
 match l, h with
 | [x, y], _ => rfl
theorem w_Grow (b n : Nat) (S : St) (h0 : 0 < n) (hn : n ≤ 281474976710656) (hS : S.boxes[b]? = some (.buf 60 0 [.t .nilp, .snil])) :
  FnS Tryd.prog 88 [.ptr b 0, .t (.int .i64 n)] S (.tup []) ⟨S.boxes.set b (.buf 60 0 [.ptr b 0, .own S.toks.length 5 1 []]), S.toks ++ [0]⟩ := by
 refine ⟨Tryd.call88, fun g w us hI hus hrel => ?_⟩
 rw [args2g hus]
 have r0 := hrel 0 (by simp)
 have r1 := hrel 1 (by simp)
 simp only [List.getD_cons_zero, List.getD_cons_succ] at r0 r1
 generalize us.getD 0 undef = u0 at r0
 generalize us.getD 1 undef = u1 at r1
 have hb : b < S.boxes.length := (List.getElem?_eq_some_iff.1 hS).1
 cases r1 with
 | t _ _ hr1 =>
 cases hr1
 cases r0 with
 | ptr _ _ blk hβ =>
  obtain ⟨vp, vv, hh, rp, rv⟩ := bld_box hI hβ hS
  cases rp with
  | t _ _ hrp =>
  cases hrp
  cases rv with
  | snil =>
  have hlt : blk < w.heap.size := hI.bold b blk hβ
  refine (Grow_exact blk n w hh h0 hn).mono ?_
  rintro e w' ⟨rfl, cs, hcm, rfl⟩
  have hset := heap_setCell_same w blk 0 _ _ (.pointer (some ⟨blk, 0, none⟩)) hh
  -- the builder's own place
  have m1 : Mv g S w g ⟨S.boxes.set b (.buf 60 0 [.ptr b 0, .snil]), S.toks⟩ (w.setCell ⟨blk, 0, none⟩ (.pointer (some ⟨blk, 0, none⟩))) := by
   refine hI.put b blk _ _ hβ hS (fun h => by cases h) (fun h => by cases h) (.cells #[] 0) _ (fun k hk => heap_setCell_other w _ k _ hk) (by simp) rfl rfl rfl ?_
   refine ⟨_, hset, by simp, ⟨by simp, fun _ => by simp⟩, fun j hj => ?_⟩
   match j, hj with
   | 0, _ => exact .ptr b 0 blk hβ
   | 1, _ => exact .snil
  generalize hw1 : w.setCell ⟨blk, 0, none⟩ (.pointer (some ⟨blk, 0, none⟩)) = w1 at *
  have hsz1 : w1.heap.size = w.heap.size := by rw [← hw1]; simp
  -- the new array
  have m2 := m1.inv.newTok cs 5 1 0 cs.size S.toks.length (by simp) (by omega) hcm (g.τ ++ [some (w1.heap.size, 5, 1, cs.size)]) (S.toks ++ [0])
   (by simp [hI.tlen]) (by simp [hI.tlen]) (fun k hk => by
    rcases Nat.lt_or_ge k S.toks.length with h | h
    ·rw [List.getElem?_append_left (by rw [hI.tlen]; exact h), List.getElem?_append_left h]; exact ⟨rfl, rfl⟩
    ·rw [List.getElem?_eq_none (by simp [hI.tlen]; omega), List.getElem?_eq_none (by rw [hI.tlen]; exact h), List.getElem?_eq_none (by simp; omega), List.getElem?_eq_none h]
     exact ⟨rfl, rfl⟩)
   (fun m hm => by rw [List.getElem?_eq_none (Nat.le_refl _)] at hm; cases hm)
  simp only [] at m2
  generalize hg2 : ({ g with I := _, τ := _ } : Gh) = g2 at m2
  have hβ2 : g2.β[b]? = some blk := by rw [← hg2]; exact hβ
  have hτ2 : g2.τ[S.toks.length]? = some (some (w1.heap.size, 5, 1, cs.size)) := by rw [← hg2]; simp [hI.tlen]
  have hh2 : (w1.drew.alloc (.cells cs 5)).heap[blk]? = some (.cells #[.pointer (some ⟨blk, 0, none⟩), .slice none 0 0] 60 (0, 0)) := by
   refine (Lib.alloc_old w1.drew _ blk (by show blk < w1.heap.size; omega)).trans ?_
   show w1.heap[blk]? = _
   rw [hset]; rfl
  have hset2 := heap_setCell_same (w1.drew.alloc (.cells cs 5)) blk 1 _ _ (.slice (some ⟨w1.heap.size, 0, none⟩) 0 cs.size) hh2
  have m3 := m2.inv.put b blk (.buf 60 0 [.ptr b 0, .snil]) (.buf 60 0 [.ptr b 0, .own S.toks.length 5 1 []]) hβ2 (by simp [hb]) (fun h => by cases h) (fun h => by cases h) (.cells #[] 0)
   ((w1.drew.alloc (.cells cs 5)).setCell ⟨blk, 1, none⟩ (.slice (some ⟨w1.heap.size, 0, none⟩) 0 cs.size)) (fun k hk => heap_setCell_other _ _ k _ hk) (by simp) rfl rfl rfl (by
    refine ⟨_, hset2, by simp, ⟨by simp, fun _ => by simp⟩, fun j hj => ?_⟩
    match j, hj with
    | 0, _ => exact .ptr b 0 blk hβ2
    | 1, _ => exact .own _ _ _ _ _ 0 (.slz _ _ hcm) (by simp) (by simp) (by simp) (fun _ => .inr ⟨_, _, hτ2, rfl⟩))
  have m := ((m1.trans m2).trans m3)
  have m4 := m.trans (((Mv.drew m3.inv).trans (Mv.drew m3.inv.drew)).trans (Mv.drew m3.inv.drew.drew))
  have hworld : ((w1.setCell ⟨blk, 1, none⟩ (.slice (some ⟨w.heap.size, 0, none⟩) 0 cs.size)).alloc (.cells cs 5)).drew.drew.drew.drew = ((w1.drew.alloc (.cells cs 5)).setCell ⟨blk, 1, none⟩ (.slice (some ⟨w1.heap.size, 0, none⟩) 0 cs.size)).drew.drew.drew := by
   rw [World.setCell_alloc_past _ _ _ _ (by show blk < w1.heap.size; omega), hsz1]
   rfl
  rw [hworld]
  refine ⟨_, g2, rfl, .tup [] #[] rfl (fun j hj => by simp at hj), ?_⟩
  simpa [List.set_set] using m4
end E
end Go.Proofs.YtpggidmbnjfmaaaDoor
end
section
set_option linter.unusedSimpArgs false
set_option linter.unusedVariables false
set_option maxHeartbeats 4000000
set_option maxRecDepth 8000
namespace Go.Proofs.YtpggidmbnjfmaaaDoor
open E

def jB (l : List UInt8) : Bx := .buf 60 0 [.ptr 0 0, .own 0 5 1 (strR l)]
theorem strR_app (a b : List UInt8) : strR (a ++ b) = strR a ++ strR b := by simp [strR]
theorem j_grow (n : Nat) (h0 : 0 < n) (hn : n ≤ 281474976710656) : FnS Tryd.prog 88 [.ptr 0 0, vI n] ⟨[.buf 60 0 [.t .nilp, .snil]], []⟩ (.tup []) ⟨[jB []], [0]⟩ :=
 w_Grow 0 n ⟨[.buf 60 0 [.t .nilp, .snil]], []⟩ h0 hn rfl
theorem j_ws (t l : List UInt8) (hl : t.length + l.length ≤ 10000000000) (m : Nat) (hm : m = t.length + l.length) : FnS Tryd.prog 21 [.ptr 0 0, vS l] ⟨[jB t], [t.length]⟩ (.tup [vI l.length, .t .nili]) ⟨[jB (t ++ l)], [m]⟩ := by
 subst hm
 have h := w_WS 0 0 (.ptr 0 0) (strR t) l [jB t] [t.length] (.inr rfl) rfl (by rw [strR_length]; rfl) (by rw [strR_length]; exact hl) (by simp [jB, leB, LeBs, LeL, leC, okNs, okN])
 rw [strR_length] at h
 have e : jB (t ++ l) = .buf 60 0 [.ptr 0 0, .own 0 5 1 (strR t ++ strR l)] := by unfold jB; rw [strR_app]
 rw [e]
 exact h
theorem j_str (t : List UInt8) (h : t ≠ []) : FnS Tryd.prog 25 [.ptr 0 0] ⟨[jB t], [t.length]⟩ (vS t) ⟨[jB t], [maxLen + 1]⟩ := by
 have h1 := w_String 0 0 (.ptr 0 0) t [jB t] [t.length] rfl rfl
 rw [if_neg h] at h1
 exact h1
theorem leB_jB (t : List UInt8) (n m : Nat) (hn : 0 < n) (hm : 0 < m) : leB n m (jB t) (jB t) := by simp [jB, leB, LeL, leC, okNs, okN, hn, hm]
def jn (a b : List UInt8) (k : Nat) : Int := if k = 0 then 2 else if k = 1 then 2 + (a.length : Int) else 2 + (a.length : Int) + b.length
def jt (a b : List UInt8) (k : Nat) : List UInt8 := if k = 0 then a else a ++ [44, 32] ++ b
theorem w_joinC : JoinC := by
 intro a b ha hb
 have l1 : decide (9223372036854775805 < (a.length : Int)) = false := by simp; omega
 have l1' : ¬ 9223372036854775805 < (a.length : Int) := by omega
 have e1 : IntKind.i64.wrap (2 + (a.length : Int)) = 2 + (a.length : Int) := wrap64 (by omega) (by omega)
 have e2 : IntKind.i64.wrap (2 + (a.length : Int) + b.length) = 2 + (a.length : Int) + b.length := wrap64 (by omega) (by omega)
 have e3 : IntKind.i64.wrap (9223372036854775807 - (2 + (a.length : Int))) = 9223372036854775807 - (2 + (a.length : Int)) := wrap64 (by omega) (by omega)
 have l2 : decide (9223372036854775807 - (2 + (a.length : Int)) < (b.length : Int)) = false := by simp; omega
 have l2' : ¬ 9223372036854775807 - (2 + (a.length : Int)) < (b.length : Int) := by omega
 have hg := j_grow (2 + a.length + b.length) (by omega) (by omega)
 have hw1 := j_ws [] a (by simp; omega) a.length (by simp)
 have hw2 := j_ws a [44, 32] (by simp; omega) (a.length + 2) (by simp)
 have hw3 := j_ws (a ++ [44, 32]) b (by simp; omega) (a.length + 2 + b.length) (by simp)
 have hs := j_str (a ++ 44 :: 32 :: b) (by simp)
 simp only [List.nil_append, List.length_nil, List.length_append, List.length_cons, Nat.zero_add, Nat.reduceAdd] at hw1 hw2 hw3 hs
 (refine Pure.of_code mix Tryd.call64 k_64 (by simp) (fun hB => ?_); (try simp at hB); (try simp -implicitDefEqProofs [c_strings_Join_64]))
 ((try simp -implicitDefEqProofs); repeat' first | ((with_reducible first | apply gdK_em | apply cdK_em | apply pickK_em) <;> (intro hc; have hc' := hc; (try simp at hc'); simp -implicitDefEqProofs [hc, hc'])))
 refine loop_rule (X := Nat) (fun k => k ≤ 2) (fun k => [(0, .t (.sl [[.str a], [.str b]])), (1, vS [44, 32]), (5, vI (jn a b k)), (39, .t (.sl [[.str a], [.str b]])), (40, vI 2), (41, vI k)]) (fun _ => St0) (fun k => 2 - k) 0 (by simp) (by simp [jn]) ?_
 rintro k hk hbd
 clear hbd
 rcases (by omega : k = 0 ∨ k = 1 ∨ k = 2) with rfl | rfl | rfl
 ·have hj : jn a b 0 = 2 := rfl
  rw [hj]
  ((try simp -implicitDefEqProofs [l1, l1', e1]); repeat' first | ((with_reducible first | apply gdK_em | apply cdK_em | apply pickK_em) <;> (intro hc; have hc' := hc; (try simp at hc'); simp -implicitDefEqProofs [hc, hc', l1, l1', e1])))
  exact ⟨1, by omega, by omega, rfl, rfl⟩
 ·have hj : jn a b 1 = 2 + (a.length : Int) := rfl
  rw [hj]
  ((try simp -implicitDefEqProofs [l2, l2', e2, e3]); repeat' first | ((with_reducible first | apply gdK_em | apply cdK_em | apply pickK_em) <;> (intro hc; have hc' := hc; (try simp at hc'); simp -implicitDefEqProofs [hc, hc', l2, l2', e2, e3])))
  exact ⟨2, by omega, by omega, rfl, rfl⟩
 ·have hj : jn a b 2 = ((2 + a.length + b.length : Nat) : Int) := by unfold jn; simp
  rw [hj]
  ((try simp -implicitDefEqProofs); repeat' first | ((with_reducible first | apply gdK_em | apply cdK_em | apply pickK_em) <;> (intro hc; have hc' := hc; (try simp at hc'); simp -implicitDefEqProofs [hc, hc'])))
  refine callK_fn hg (fun hd => by cases hd) ?_
  ((try simp -implicitDefEqProofs); repeat' first | ((with_reducible first | apply gdK_em | apply cdK_em | apply pickK_em) <;> (intro hc; have hc' := hc; (try simp at hc'); simp -implicitDefEqProofs [hc, hc'])))
  refine callK_fn hw1 (fun hd => by cases hd) ?_
  ((try simp -implicitDefEqProofs); repeat' first | ((with_reducible first | apply gdK_em | apply cdK_em | apply pickK_em) <;> (intro hc; have hc' := hc; (try simp at hc'); simp -implicitDefEqProofs [hc, hc'])))
  refine loop_rule (X := Nat) (fun i => i ≤ 1) (fun i => [(0, .t (.sl [[.str a], [.str b]])), (1, vS [44, 32]), (8, .ptr 0 0), (63, .t (.sl [[.str b]])), (64, vI 1), (65, vI i)]) (fun i => ⟨[jB (jt a b i)], [(jt a b i).length]⟩) (fun i => 1 - i) 0 (by simp) (by simp [jt, jB, leB, LeL, leC, okNs, okN]) ?_
  rintro i hi hbd
  clear hbd
  rcases (by omega : i = 0 ∨ i = 1) with rfl | rfl
  ·have hj0 : jt a b 0 = a := rfl
   rw [hj0]
   ((try simp -implicitDefEqProofs); repeat' first | ((with_reducible first | apply gdK_em | apply cdK_em | apply pickK_em) <;> (intro hc; have hc' := hc; (try simp at hc'); simp -implicitDefEqProofs [hc, hc'])))
   refine callK_fn hw2 (fun hd => by cases hd) ?_
   ((try simp -implicitDefEqProofs); repeat' first | ((with_reducible first | apply gdK_em | apply cdK_em | apply pickK_em) <;> (intro hc; have hc' := hc; (try simp at hc'); simp -implicitDefEqProofs [hc, hc'])))
   refine callK_fn hw3 (fun hd => by cases hd) ?_
   ((try simp -implicitDefEqProofs); repeat' first | ((with_reducible first | apply gdK_em | apply cdK_em | apply pickK_em) <;> (intro hc; have hc' := hc; (try simp at hc'); simp -implicitDefEqProofs [hc, hc'])))
   have hj1 : jt a b 1 = a ++ 44 :: 32 :: b := by simp [jt]
   exact ⟨1, by omega, by omega, ⟨by rw [hj1]; exact leB_jB _ _ _ (by omega) (by omega), by rw [hj1]; simp; omega⟩, rfl⟩
  ·have hj1 : jt a b 1 = a ++ 44 :: 32 :: b := by simp [jt]
   rw [hj1]
   ((try simp -implicitDefEqProofs); repeat' first | ((with_reducible first | apply gdK_em | apply cdK_em | apply pickK_em) <;> (intro hc; have hc' := hc; (try simp at hc'); simp -implicitDefEqProofs [hc, hc'])))
   refine callK_fn hs (fun hd => by cases hd) ?_
   ((try simp -implicitDefEqProofs); repeat' first | ((with_reducible first | apply gdK_em | apply cdK_em | apply pickK_em) <;> (intro hc; have hc' := hc; (try simp at hc'); simp -implicitDefEqProofs [hc, hc'])))
end Go.Proofs.YtpggidmbnjfmaaaDoor
end
