/- strings.IndexByte. -/
import Derived.Test.YtpggidmbnjfmaaaGreatDoorTok
import Derived.Lib.Builder
import Derived.Lib.Walk
import Derived.Lib.Bytealg
import Derived.Laws.StandIn
import Derived.Shelf.RegionOpenPlain
import Derived.WalkKit
import Derived.Test.YtpggidmbnjfmaaaGreatDoorFds
section
set_option linter.unusedSimpArgs false
set_option linter.unusedVariables false
set_option maxHeartbeats 2000000
set_option maxRecDepth 100000
namespace Go.Proofs.YtpggidmbnjfmaaaGreatDoor
open E Go.RowKit

theorem c_165 (s : ByteArray) (c : Int) (w : World) :
  Calls Tryz.prog 137 #[.string s, .int .u8 c] w fun e w' => e = .returned (.int .i64 (Lib.indexByte s.data.toList c.toNat.toUInt8)) ∧ w' = w := by
 have hX : ∀ (args : Array Value) (w : World), (callFunc 157 args).run Tryz.prog w = ((Extern.BytealgIndexByte.indexByte args).run Tryz.prog w).andThen fun v w' => .ok (.value v) w' :=
  fun args w => run_callFunc_indexByte Tryz.func157 (by kernel_rfl) (by kernel_rfl) (by kernel_rfl) (by kernel_rfl) args w
 have hY : ∀ W : World, (Extern.BytealgIndexByte.indexByte #[.string s, .int .u8 c]).run Tryz.prog W = .ok (.int .i64 (Lib.indexByte s.data.toList c.toNat.toUInt8)) W := fun W => Lib.run_indexByteString s c W
 have hZ : ∀ W : World, (callFunc 157 #[.string s, .int .u8 c]).run Tryz.prog W = .ok (.value (.int .i64 (Lib.indexByte s.data.toList c.toNat.toUInt8))) W := fun W => by rw [hX, hY]; rfl
 go_enter Tryz.func137, Tryz.ntmps137
 go_wp2
 go_ret
 exact ⟨rfl, rfl⟩

theorem args2' {us : Array Value} (h : us.size = 2) : us = #[us.getD 0 undef, us.getD 1 undef] := by
 apply Array.ext
 ·simp [h]
 ·intro i h1 h2
  rcases (by omega : i = 0 ∨ i = 1) with rfl | rfl <;> simp [Array.getD, h]
theorem w_165 (s : List UInt8) (c : Int) : Pure Tryz.prog 137 [vS s, vY c] (vI (Lib.indexByte s c.toNat.toUInt8)) := by
 refine ⟨Tryz.call137, fun g w us hI hus hrel => ?_⟩
 have hr0 := hrel 0 (by simp)
 have hr1 := hrel 1 (by simp)
 simp only [List.getD_cons_zero, List.getD_cons_succ] at hr0 hr1
 rw [args2' hus]
 generalize us.getD 0 undef = u0 at hr0
 generalize us.getD 1 undef = u1 at hr1
 cases hr0 with
 | t _ _ h0 =>
 cases hr1 with
 | t _ _ h1 =>
 cases h0
 cases h1
 refine (c_165 _ _ w).mono ?_
 rintro e w' ⟨rfl, rfl⟩
 exact ⟨_, g, rfl, .t _ _ (.int _ _), Mv.refl hI⟩
theorem w_idxB (s : List UInt8) (c : Int) : Pure Tryz.prog 105 [vS s, vY c] (vI (Lib.indexByte s c.toNat.toUInt8)) := by
 have h := w_165 s c
 generalize Lib.indexByte s c.toNat.toUInt8 = r at *
 (refine Pure.of_code mix Tryz.call105 k_105 (by simp) (fun hB => ?_); (try simp at hB); (try simp -implicitDefEqProofs [qc_105]))
 ((try simp at h); (try simp -implicitDefEqProofs); repeat' first | (with_reducible apply callK_pure <;> first | (simp only [eras, era, eras_map]; first | with_reducible exact h | simpa using h) | (simp -implicitDefEqProofs)))
end Go.Proofs.YtpggidmbnjfmaaaGreatDoor
end

/- Chapter 31: token.next, token.Value. -/
section
set_option linter.unusedSimpArgs false
set_option linter.unusedVariables false
set_option maxHeartbeats 2000000
set_option maxRecDepth 8000
namespace Go.Proofs.YtpggidmbnjfmaaaGreatDoor
open E

abbrev vSL (l : List (List UInt8)) : V := .t (.sl (l.map fun x => [T.str x]))
def inS (l : List (List UInt8)) (s : List UInt8) : Bool := l.any (fun y => decide (y = s))
theorem w_ixS (l : List (List UInt8)) (s : List UInt8) : Pure Tryz.prog 134 [vSL l, vS s] (vI (idxS (fun y => decide (s = y)) l)) := by
 (refine Pure.of_code mix Tryz.call134 k_134 (by simp) (fun hB => ?_); (try simp at hB); (try simp -implicitDefEqProofs [qc_134]))
 refine loop_rule (X := Nat) (fun k => k ≤ l.length ∧ ∀ y ∈ l.take k, decide (s = y) = false) (fun k => [(0, vSL l), (1, vS s), (7, vI l.length), (8, vI k)]) (fun _ => St0) (fun k => l.length - k) 0 ⟨by simp, by simp⟩ (by simp) ?_
 rintro k ⟨hk, hn⟩ hbd
 rcases Nat.lt_or_ge k l.length with hlt | hge
 ·have hx : l[k]? = some l[k] := by simp [hlt]
  have e3 : IntKind.i64.wrap ((k : Int) + 1) = (k : Int) + 1 := wrap64 (by omega) (by simp [maxLen] at hB; omega)
  by_cases hq : s = l[k]
  ·have hR := idxS_in hx hn (q := fun y => decide (s = y)) (by simpa using hq)
   rw [hR]
   have hq' : (s == l[k]) = true := by simpa using hq
   (try simp -implicitDefEqProofs [hlt, hq', e3])
  ·have hq' : (s == l[k]) = false := by simpa using hq
   (try simp -implicitDefEqProofs [hlt, hq', e3])
   refine ⟨k + 1, ⟨by omega, fun y hy => ?_⟩, by omega, by push_cast; rfl⟩
   rw [take_next hx] at hy
   rcases List.mem_append.1 hy with h1 | h1
   ·simpa using hn y h1
   ·simp at h1; subst h1; simpa using hq
 ·have : k = l.length := by omega
  subst this
  rw [List.take_length] at hn
  rw [idxS_out hn]
  (try simp -implicitDefEqProofs)
theorem w_conS (l : List (List UInt8)) (s : List UInt8) : Pure Tryz.prog 103 [vSL l, vS s] (vB (l.any fun y => decide (s = y))) := by
 have hi := w_ixS l s
 rw [← idxS_any]
 generalize idxS (fun y => decide (s = y)) l = r at *
 (refine Pure.of_code mix Tryz.call103 k_103 (by simp) (fun hB => ?_); (try simp at hB); (try simp -implicitDefEqProofs [qc_103]))
 ((try simp at hi); (try simp -implicitDefEqProofs); repeat' first | (with_reducible apply callK_pure <;> first | (simp only [eras, era, eras_map]; first | with_reducible exact hi | simpa using hi) | (simp -implicitDefEqProofs)))

def sglL : List UInt8 := [123, 125, 40, 41, 44, 59, 61, 43, 45, 42, 60, 62]
def headI : List UInt8 → Int | [] => 0 | c :: _ => (c.toNat : Int)
def nextR (s : List UInt8) : Int × Nat :=
 if ltrI (headI s) = true then (1, runR nmcI s) else
 if digI (headI s) = true then (2, runR digI s) else
 if (decide (1 < s.length) && dblL.any (fun y => decide (s.take 2 = y))) = true then (3, 2) else
 if decide (0 ≤ Lib.indexByte sglL (headI s).toNat.toUInt8) = true then (3, 1) else (0, 0)
theorem nextR_le (s : List UInt8) (h : s ≠ []) : (nextR s).2 ≤ s.length := by
 have h1 := runR_le nmcI s
 have h2 := runR_le digI s
 have h3 : 1 ≤ s.length := by rcases s with _ | ⟨c, s⟩; exact absurd rfl h; simp
 unfold nextR
 split
 ·exact h1
 split
 ·exact h2
 split
 ·rename_i h; simp at h; simp; omega
 split <;> simp <;> omega
theorem nextR_pos (s : List UInt8) (h : s ≠ []) (hk : (nextR s).1 ≠ 0) : 1 ≤ (nextR s).2 := by
 rcases s with _ | ⟨c, s⟩
 ·exact absurd rfl h
 unfold nextR at *
 by_cases h1 : ltrI (headI (c :: s)) = true
 ·rw [if_pos h1]
  simp only [headI] at h1
  simp only [runR]; rw [if_pos (by simp [nmcI, h1])]; omega
 rw [if_neg h1] at hk ⊢
 by_cases h2 : digI (headI (c :: s)) = true
 ·rw [if_pos h2]
  simp only [headI] at h2
  simp only [runR]; rw [if_pos h2]; omega
 rw [if_neg h2] at hk ⊢
 split
 ·simp
 rename_i h3
 rw [if_neg h3] at hk
 split
 ·simp
 ·rename_i h4
  rw [if_neg h4] at hk
  simp at hk
theorem w_next (S : List UInt8) (hne : 0 < S.length) (hs : S.length ≤ 1000000) : Pure Tryz.prog 58 [vS S] (.tup [vI (nextR S).1, vI (nextR S).2]) := by
 have hb : byteAt S 0 = headI S := by rcases S with _ | ⟨c, S⟩; simp at hne; rfl
 have hc0 : 0 ≤ headI S := by unfold headI; split <;> omega
 have h1 := w_letter (headI S)
 have h2 := w_digit (headI S)
 have h3 := w_run nmcI _ w_nmc S (by simpa using hs)
 have h4 := w_run digI _ w_digit S (by simpa using hs)
 have h5 := w_fields
 have h6 := w_conS dblL (S.take 2)
 have h7 := w_idxB sglL (headI S)
 unfold nextR
 unfold dblS at h5
 have hsg : sglL = [123, 125, 40, 41, 44, 59, 61, 43, 45, 42, 60, 62] := rfl
 have ht : ((S.take 2).drop 0) = S.take 2 := by simp
 generalize hq : S.take 2 = q at *
 generalize headI S = c at *
 generalize ltrI c = a at *
 generalize digI c = b at *
 generalize runR nmcI S = r1 at *
 generalize runR digI S = r2 at *
 generalize (dblL.any fun y => decide (q = y)) = d at *
 generalize Lib.indexByte sglL c.toNat.toUInt8 = g at *
 rw [hsg] at h7
 (refine Pure.of_code mix Tryz.call58 k_58 (by simp) (fun hB => ?_); (try simp at hB); (try simp -implicitDefEqProofs [qc_58]))
 cases a
 ·cases b
  ·by_cases hlen : 1 < S.length
   ·have hl1 : decide (1 < (S.length : Int)) = true := by simp; omega
    have hl2 : (2 : Int) ≤ S.length := by omega
    cases d
    ·by_cases hg : 0 ≤ g
     ·((try simp at h1); (try simp at h2); (try simp at h3); (try simp at h4); (try simp at h5); (try simp at h6); (try simp at h7); (try simp -implicitDefEqProofs [hb, hne, hlen, hl1, hl2, hg, hq]); repeat' first | (with_reducible apply callK_pure <;> first | (simp only [eras, era, eras_map]; first | with_reducible exact h1 | with_reducible exact h2 | with_reducible exact h3 | with_reducible exact h4 | with_reducible exact h5 | with_reducible exact h6 | with_reducible exact h7 | simpa using h1 | simpa using h2 | simpa using h3 | simpa using h4 | simpa using h5 | simpa using h6 | simpa using h7) | (simp -implicitDefEqProofs [hb, hne, hlen, hl1, hl2, hg, hq])))
     ·((try simp at h1); (try simp at h2); (try simp at h3); (try simp at h4); (try simp at h5); (try simp at h6); (try simp at h7); (try simp -implicitDefEqProofs [hb, hne, hlen, hl1, hl2, hg, hq]); repeat' first | (with_reducible apply callK_pure <;> first | (simp only [eras, era, eras_map]; first | with_reducible exact h1 | with_reducible exact h2 | with_reducible exact h3 | with_reducible exact h4 | with_reducible exact h5 | with_reducible exact h6 | with_reducible exact h7 | simpa using h1 | simpa using h2 | simpa using h3 | simpa using h4 | simpa using h5 | simpa using h6 | simpa using h7) | (simp -implicitDefEqProofs [hb, hne, hlen, hl1, hl2, hg, hq])))
    ·((try simp at h1); (try simp at h2); (try simp at h3); (try simp at h4); (try simp at h5); (try simp at h6); (try simp at h7); (try simp -implicitDefEqProofs [hb, hne, hlen, hl1, hl2, hq]); repeat' first | (with_reducible apply callK_pure <;> first | (simp only [eras, era, eras_map]; first | with_reducible exact h1 | with_reducible exact h2 | with_reducible exact h3 | with_reducible exact h4 | with_reducible exact h5 | with_reducible exact h6 | with_reducible exact h7 | simpa using h1 | simpa using h2 | simpa using h3 | simpa using h4 | simpa using h5 | simpa using h6 | simpa using h7) | (simp -implicitDefEqProofs [hb, hne, hlen, hl1, hl2, hq])))
   ·have hl1 : decide (1 < (S.length : Int)) = false := by simp; omega
    by_cases hg : 0 ≤ g
    ·((try simp at h1); (try simp at h2); (try simp at h3); (try simp at h4); (try simp at h5); (try simp at h6); (try simp at h7); (try simp -implicitDefEqProofs [hb, hne, hlen, hl1, hg, hq]); repeat' first | (with_reducible apply callK_pure <;> first | (simp only [eras, era, eras_map]; first | with_reducible exact h1 | with_reducible exact h2 | with_reducible exact h3 | with_reducible exact h4 | with_reducible exact h5 | with_reducible exact h6 | with_reducible exact h7 | simpa using h1 | simpa using h2 | simpa using h3 | simpa using h4 | simpa using h5 | simpa using h6 | simpa using h7) | (simp -implicitDefEqProofs [hb, hne, hlen, hl1, hg, hq])))
    ·((try simp at h1); (try simp at h2); (try simp at h3); (try simp at h4); (try simp at h5); (try simp at h6); (try simp at h7); (try simp -implicitDefEqProofs [hb, hne, hlen, hl1, hg, hq]); repeat' first | (with_reducible apply callK_pure <;> first | (simp only [eras, era, eras_map]; first | with_reducible exact h1 | with_reducible exact h2 | with_reducible exact h3 | with_reducible exact h4 | with_reducible exact h5 | with_reducible exact h6 | with_reducible exact h7 | simpa using h1 | simpa using h2 | simpa using h3 | simpa using h4 | simpa using h5 | simpa using h6 | simpa using h7) | (simp -implicitDefEqProofs [hb, hne, hlen, hl1, hg, hq])))
  ·((try simp at h1); (try simp at h2); (try simp at h3); (try simp at h4); (try simp at h5); (try simp at h6); (try simp at h7); (try simp -implicitDefEqProofs [hb, hne]); repeat' first | (with_reducible apply callK_pure <;> first | (simp only [eras, era, eras_map]; first | with_reducible exact h1 | with_reducible exact h2 | with_reducible exact h3 | with_reducible exact h4 | with_reducible exact h5 | with_reducible exact h6 | with_reducible exact h7 | simpa using h1 | simpa using h2 | simpa using h3 | simpa using h4 | simpa using h5 | simpa using h6 | simpa using h7) | (simp -implicitDefEqProofs [hb, hne])))
 ·((try simp at h1); (try simp at h2); (try simp at h3); (try simp at h4); (try simp at h5); (try simp at h6); (try simp at h7); (try simp -implicitDefEqProofs [hb, hne]); repeat' first | (with_reducible apply callK_pure <;> first | (simp only [eras, era, eras_map]; first | with_reducible exact h1 | with_reducible exact h2 | with_reducible exact h3 | with_reducible exact h4 | with_reducible exact h5 | with_reducible exact h6 | with_reducible exact h7 | simpa using h1 | simpa using h2 | simpa using h3 | simpa using h4 | simpa using h5 | simpa using h6 | simpa using h7) | (simp -implicitDefEqProofs [hb, hne])))
end Go.Proofs.YtpggidmbnjfmaaaGreatDoor
end

/- Chapter 31: token.Value. -/
section
set_option linter.unusedSimpArgs false
set_option linter.unusedVariables false
set_option maxHeartbeats 2000000
set_option maxRecDepth 8000
namespace Go.Proofs.YtpggidmbnjfmaaaGreatDoor
open E

def numR : Nat → List UInt8 → Option Nat
 | n, [] => some n
 | n, c :: s => if 1000000000000 < 10 * n + (c.toNat - 48) then none else numR (10 * n + (c.toNat - 48)) s
def valR (k : Int) (s : List UInt8) : Int × Bool :=
 if k = 2 ∧ s ≠ [] ∧ runR digI s = s.length then (match numR 0 s with | some n => ((n : Int), true) | none => (0, false)) else (0, false)
theorem runR_all (p : Int → Bool) : ∀ (s : List UInt8), runR p s = s.length → ∀ j : Nat, j < s.length → p (s.getD j 0).toNat = true
 | [], _, j, hj => by simp at hj
 | c :: s, h, 0, _ => by
  simp only [runR] at h
  split at h
  ·simpa
  ·simp at h
 | c :: s, h, j + 1, hj => by
  simp only [runR] at h
  split at h
  ·have := runR_all p s (by simp only [List.length_cons] at h; omega) j (by simpa using hj)
   simpa using this
  ·simp at h
theorem w_Value (k : Int) (s : List UInt8) (fr : Int) (hs : s.length ≤ 1000000) : Pure Tryz.prog 59 [.agg [vI k, vS s, vI fr]] (.tup [vI (valR k s).1, vB (valR k s).2]) := by
 have hrun := w_run digI _ w_digit s hs
 have hrl := runR_le digI s
 have hall := runR_all digI s
 have hR := rfl (a := valR k s)
 conv at hR => lhs; unfold valR
 generalize valR k s = R at *
 by_cases hk : k = 2
 ·by_cases hn : s = []
  ·subst hn
   rw [if_neg (by simp)] at hR
   subst hR
   subst hk
   (refine Pure.of_code mix Tryz.call59 k_59 (by simp) (fun hB => ?_); (try simp at hB); (try simp -implicitDefEqProofs [qc_59]))
   ((try simp at hrun); (try simp -implicitDefEqProofs); repeat' first | (with_reducible apply callK_pure <;> first | (simp only [eras, era, eras_map]; first | with_reducible exact hrun | simpa using hrun) | (simp -implicitDefEqProofs)))
  ·have hn' : s.isEmpty = false := by simpa using hn
   by_cases hr : runR digI s = s.length
   ·rw [if_pos ⟨hk, hn, hr⟩] at hR
    have hd := hall hr
    rw [hr] at hrun
    subst hk
    (refine Pure.of_code mix Tryz.call59 k_59 (by simp) (fun hB => ?_); (try simp at hB); (try simp -implicitDefEqProofs [qc_59]))
    ((try simp at hrun); (try simp -implicitDefEqProofs [hn, hn']); repeat' first | (with_reducible apply callK_pure <;> first | (simp only [eras, era, eras_map]; first | with_reducible exact hrun | simpa using hrun) | (simp -implicitDefEqProofs [hn, hn'])))
    refine loop_rule (X := Nat × Nat) (fun X => X.1 ≤ s.length ∧ X.2 ≤ 1000000000000 ∧ numR X.2 (s.drop X.1) = numR 0 s) (fun X => [(1, .ptr 0 0), (4, vI X.2), (26, .ptr 1 0)]) (fun X => ⟨[.cells [vI 2, vS s, vI fr], .itr s X.1], []⟩) (fun X => s.length - X.1) (0, 0) ⟨by omega, by omega, by simp⟩ (by simp) ?_
    rintro ⟨p, n⟩ ⟨hp, hnm, hnum⟩ hbd
    simp only [] at hp hnm hnum
    clear hbd
    rcases Nat.lt_or_ge p s.length with h | h
    ·have hx : s.drop p = s.getD p 0 :: s.drop (p + 1) := by
      rw [List.drop_eq_getElem_cons h]
      simp [List.getD_eq_getElem?_getD, h]
     have hdp := hd p h
     simp only [digI, Bool.and_eq_true, decide_eq_true_eq] at hdp
     obtain ⟨d1, d2⟩ := decode_lo (l := s) (p := p) (by omega)
     rw [hx, numR] at hnum
     generalize (s.getD p 0).toNat = c at *
     have e1 : IntKind.i64.wrap (10 * (n : Int)) = 10 * (n : Int) := wrap64 (by omega) (by omega)
     have e2 : IntKind.i32.wrap ((c : Int) - 48) = (c : Int) - 48 := by
      unfold IntKind.wrap; simp [IntKind.signed, IntKind.bits]; omega
     have e3 : IntKind.i64.wrap ((c : Int) - 48) = (c : Int) - 48 := wrap64 (by omega) (by omega)
     have e4 : IntKind.i64.wrap (10 * (n : Int) + ((c : Int) - 48)) = 10 * (n : Int) + ((c : Int) - 48) := wrap64 (by omega) (by omega)
     by_cases hb : 1000000000000 < 10 * n + (c - 48)
     ·rw [if_pos hb] at hnum
      rw [← hnum] at hR
      subst hR
      have hb' : decide ((1000000000000 : Int) < 10 * (n : Int) + ((c : Int) - 48)) = true := by simp; omega
      (try simp -implicitDefEqProofs [h, d1, d2, e1, e2, e3, e4, hb'])
     ·rw [if_neg hb] at hnum
      have hb' : decide ((1000000000000 : Int) < 10 * (n : Int) + ((c : Int) - 48)) = false := by simp; omega
      (try simp -implicitDefEqProofs [h, d1, d2, e1, e2, e3, e4, hb'])
      exact ⟨p + 1, 10 * n + (c - 48), ⟨by omega, by omega, hnum⟩, by omega, rfl, by omega⟩
    ·have : p = s.length := by omega
     subst this
     have : numR n (s.drop s.length) = some n := by simp [numR]
     rw [this] at hnum
     rw [← hnum] at hR
     subst hR
     (try simp -implicitDefEqProofs)
   ·rw [if_neg (fun h => hr h.2.2)] at hR
    subst hR
    have hr2 : decide (runR digI s < s.length) = true := by simp; omega
    subst hk
    (refine Pure.of_code mix Tryz.call59 k_59 (by simp) (fun hB => ?_); (try simp at hB); (try simp -implicitDefEqProofs [qc_59]))
    ((try simp at hrun); (try simp -implicitDefEqProofs [hn, hn', hr2]); repeat' first | (with_reducible apply callK_pure <;> first | (simp only [eras, era, eras_map]; first | with_reducible exact hrun | simpa using hrun) | (simp -implicitDefEqProofs [hn, hn', hr2])))
 ·rw [if_neg (fun h => hk h.1)] at hR
  subst hR
  have hk' : (k != 2) = true := by simpa using hk
  (refine Pure.of_code mix Tryz.call59 k_59 (by simp) (fun hB => ?_); (try simp at hB); (try simp -implicitDefEqProofs [qc_59]))
  ((try simp at hrun); (try simp -implicitDefEqProofs [hk, hk']); repeat' first | (with_reducible apply callK_pure <;> first | (simp only [eras, era, eras_map]; first | with_reducible exact hrun | simpa using hrun) | (simp -implicitDefEqProofs [hk, hk'])))
end Go.Proofs.YtpggidmbnjfmaaaGreatDoor
end
