/- Chapter 31: token.next, token.Value. -/
import Derived.Test.YtkapabohpfkcoaaDoorIdx
import Derived.Test.YtkapabohpfkcoaaDoorFds
import Derived.Test.YtkapabohpfkcoaaDoorTkb
set_option linter.unusedSimpArgs false
set_option linter.unusedVariables false
set_option maxHeartbeats 2000000
set_option maxRecDepth 8000
namespace Go.Proofs.YtkapabohpfkcoaaDoor
open E

abbrev vSL (l : List (List UInt8)) : V := .t (.sl (l.map fun x => [T.str x]))
def inS (l : List (List UInt8)) (s : List UInt8) : Bool := l.any (fun y => decide (y = s))
theorem w_ixS (l : List (List UInt8)) (s : List UInt8) : Pure Tryd.prog 162 [vSL l, vS s] (vI (idxS (fun y => decide (s = y)) l)) := by
  (refine Pure.of_code mix Tryd.call162 k_162 (by simp) (fun hB => ?_); (try simp at hB); (try simp -implicitDefEqProofs [c_slices_Index___string_string__162]))
  refine loop_rule (X := Nat) (fun k => k ≤ l.length ∧ ∀ y ∈ l.take k, decide (s = y) = false) (fun k => [(0, vSL l), (1, vS s), (7, vI l.length), (8, vI k)]) (fun _ => St0) (fun k => l.length - k) 0 ⟨by simp, by simp⟩ (by simp) ?_
  rintro k ⟨hk, hn⟩ hbd
  rcases Nat.lt_or_ge k l.length with hlt | hge
  · have hx : l[k]? = some l[k] := by simp [hlt]
    have e3 : IntKind.i64.wrap ((k : Int) + 1) = (k : Int) + 1 := wrap64 (by omega) (by simp [maxLen] at hB; omega)
    by_cases hq : s = l[k]
    · have hR := idxS_in hx hn (q := fun y => decide (s = y)) (by simpa using hq)
      rw [hR]
      have hq' : (s == l[k]) = true := by simpa using hq
      ((try simp -implicitDefEqProofs [hlt, hq', e3]); repeat' first | ((first | with_reducible refine gdK_em (fun hc => ?_) (fun hc => ?_) | with_reducible refine cdK_em (fun hc => ?_) (fun hc => ?_) | with_reducible refine pickK_em (fun hc => ?_) (fun hc => ?_)) <;> (have hc' := hc; (try simp at hc'); simp -implicitDefEqProofs [hc, hc', hlt, hq', e3])))
    · have hq' : (s == l[k]) = false := by simpa using hq
      ((try simp -implicitDefEqProofs [hlt, hq', e3]); repeat' first | ((first | with_reducible refine gdK_em (fun hc => ?_) (fun hc => ?_) | with_reducible refine cdK_em (fun hc => ?_) (fun hc => ?_) | with_reducible refine pickK_em (fun hc => ?_) (fun hc => ?_)) <;> (have hc' := hc; (try simp at hc'); simp -implicitDefEqProofs [hc, hc', hlt, hq', e3])))
      refine ⟨k + 1, ⟨by omega, fun y hy => ?_⟩, by omega, by push_cast; rfl⟩
      rw [take_next hx] at hy
      rcases List.mem_append.1 hy with h1 | h1
      · simpa using hn y h1
      · simp at h1; subst h1; simpa using hq
  · have : k = l.length := by omega
    subst this
    rw [List.take_length] at hn
    rw [idxS_out hn]
    ((try simp -implicitDefEqProofs); repeat' first | ((first | with_reducible refine gdK_em (fun hc => ?_) (fun hc => ?_) | with_reducible refine cdK_em (fun hc => ?_) (fun hc => ?_) | with_reducible refine pickK_em (fun hc => ?_) (fun hc => ?_)) <;> (have hc' := hc; (try simp at hc'); simp -implicitDefEqProofs [hc, hc'])))
theorem w_conS (l : List (List UInt8)) (s : List UInt8) : Pure Tryd.prog 154 [vSL l, vS s] (vB (l.any fun y => decide (s = y))) := by
  have hi := w_ixS l s
  rw [← idxS_any]
  generalize idxS (fun y => decide (s = y)) l = r at *
  (refine Pure.of_code mix Tryd.call154 k_154 (by simp) (fun hB => ?_); (try simp at hB); (try simp -implicitDefEqProofs [c_slices_Contains___string_string__154]))
  ((try simp at hi); (try simp -implicitDefEqProofs); repeat' first | ((first | with_reducible refine gdK_em (fun hc => ?_) (fun hc => ?_) | with_reducible refine cdK_em (fun hc => ?_) (fun hc => ?_) | with_reducible refine pickK_em (fun hc => ?_) (fun hc => ?_)) <;> (have hc' := hc; (try simp at hc'); simp -implicitDefEqProofs [hc, hc'])) | (with_reducible apply callK_pure <;> first | (simp only [eras, era, eras_map]; first | with_reducible exact hi | simpa using hi) | (simp -implicitDefEqProofs)))

def sglL : List UInt8 := [123, 125, 40, 41, 44, 59, 61, 43, 45, 42, 60, 62]
def headI : List UInt8 → Int | [] => 0 | c :: _ => (c.toNat : Int)
/-- The kind and the length of the token with which a text begins. -/
def nextR (s : List UInt8) : Int × Nat :=
  if ltrI (headI s) = true then (1, runR nmcI s) else
  if digI (headI s) = true then (2, runR digI s) else
  if (decide (1 < s.length) && dblL.any (fun y => decide (s.take 2 = y))) = true then (3, 2) else
  if decide (0 ≤ Lib.indexByte sglL (headI s).toNat.toUInt8) = true then (3, 1) else (0, 0)
theorem nextR_le (s : List UInt8) (h : s ≠ []) : (nextR s).2 ≤ s.length := by
  have h1 := runR_le nmcI s
  have h2 := runR_le digI s
  have h3 : 1 ≤ s.length := by rcases s with _ | ⟨c, s⟩; exact absurd rfl h; simp
  unfold nextR
  split
  · exact h1
  split
  · exact h2
  split
  · rename_i h; simp at h; simp; omega
  split <;> simp <;> omega
theorem nextR_pos (s : List UInt8) (h : s ≠ []) (hk : (nextR s).1 ≠ 0) : 1 ≤ (nextR s).2 := by
  rcases s with _ | ⟨c, s⟩
  · exact absurd rfl h
  unfold nextR at *
  by_cases h1 : ltrI (headI (c :: s)) = true
  · rw [if_pos h1]
    simp only [headI] at h1
    simp only [runR]; rw [if_pos (by simp [nmcI, h1])]; omega
  rw [if_neg h1] at hk ⊢
  by_cases h2 : digI (headI (c :: s)) = true
  · rw [if_pos h2]
    simp only [headI] at h2
    simp only [runR]; rw [if_pos h2]; omega
  rw [if_neg h2] at hk ⊢
  split
  · simp
  rename_i h3
  rw [if_neg h3] at hk
  split
  · simp
  · rename_i h4
    rw [if_neg h4] at hk
    simp at hk
theorem w_next (S : List UInt8) (hne : 0 < S.length) (hs : S.length ≤ 1000000) : Pure Tryd.prog 136 [vS S] (.tup [vI (nextR S).1, vI (nextR S).2]) := by
  have hb : byteAt S 0 = headI S := by rcases S with _ | ⟨c, S⟩; simp at hne; rfl
  have hc0 : 0 ≤ headI S := by unfold headI; split <;> omega
  have h1 := w_letter (headI S)
  have h2 := w_digit (headI S)
  have h3 := w_run nmcI _ w_nmc S (by simpa using hs)
  have h4 := w_run digI _ w_digit S (by simpa using hs)
  have h5 := w_fields
  have h6 := w_conS dblL (S.take 2)
  have h7 := w_idxB sglL (headI S)
  unfold nextR
  unfold dblS at h5
  have hsg : sglL = [123, 125, 40, 41, 44, 59, 61, 43, 45, 42, 60, 62] := rfl
  have ht : ((S.take 2).drop 0) = S.take 2 := by simp
  generalize hq : S.take 2 = q at *
  generalize headI S = c at *
  generalize ltrI c = a at *
  generalize digI c = b at *
  generalize runR nmcI S = r1 at *
  generalize runR digI S = r2 at *
  generalize (dblL.any fun y => decide (q = y)) = d at *
  generalize Lib.indexByte sglL c.toNat.toUInt8 = g at *
  rw [hsg] at h7
  (refine Pure.of_code mix Tryd.call136 k_136 (by simp) (fun hB => ?_); (try simp at hB); (try simp -implicitDefEqProofs [c_token_next_136]))
  cases a
  · cases b
    · by_cases hlen : 1 < S.length
      · have hl1 : decide (1 < (S.length : Int)) = true := by simp; omega
        have hl2 : (2 : Int) ≤ S.length := by omega
        cases d
        · by_cases hg : 0 ≤ g
          · ((try simp at h1); (try simp at h2); (try simp at h3); (try simp at h4); (try simp at h5); (try simp at h6); (try simp at h7); (try simp -implicitDefEqProofs [hb, hne, hlen, hl1, hl2, hg, hq]); repeat' first | ((first | with_reducible refine gdK_em (fun hc => ?_) (fun hc => ?_) | with_reducible refine cdK_em (fun hc => ?_) (fun hc => ?_) | with_reducible refine pickK_em (fun hc => ?_) (fun hc => ?_)) <;> (have hc' := hc; (try simp at hc'); simp -implicitDefEqProofs [hc, hc', hb, hne, hlen, hl1, hl2, hg, hq])) | (with_reducible apply callK_pure <;> first | (simp only [eras, era, eras_map]; first | with_reducible exact h1 | with_reducible exact h2 | with_reducible exact h3 | with_reducible exact h4 | with_reducible exact h5 | with_reducible exact h6 | with_reducible exact h7 | simpa using h1 | simpa using h2 | simpa using h3 | simpa using h4 | simpa using h5 | simpa using h6 | simpa using h7) | (simp -implicitDefEqProofs [hb, hne, hlen, hl1, hl2, hg, hq])))
          · ((try simp at h1); (try simp at h2); (try simp at h3); (try simp at h4); (try simp at h5); (try simp at h6); (try simp at h7); (try simp -implicitDefEqProofs [hb, hne, hlen, hl1, hl2, hg, hq]); repeat' first | ((first | with_reducible refine gdK_em (fun hc => ?_) (fun hc => ?_) | with_reducible refine cdK_em (fun hc => ?_) (fun hc => ?_) | with_reducible refine pickK_em (fun hc => ?_) (fun hc => ?_)) <;> (have hc' := hc; (try simp at hc'); simp -implicitDefEqProofs [hc, hc', hb, hne, hlen, hl1, hl2, hg, hq])) | (with_reducible apply callK_pure <;> first | (simp only [eras, era, eras_map]; first | with_reducible exact h1 | with_reducible exact h2 | with_reducible exact h3 | with_reducible exact h4 | with_reducible exact h5 | with_reducible exact h6 | with_reducible exact h7 | simpa using h1 | simpa using h2 | simpa using h3 | simpa using h4 | simpa using h5 | simpa using h6 | simpa using h7) | (simp -implicitDefEqProofs [hb, hne, hlen, hl1, hl2, hg, hq])))
        · ((try simp at h1); (try simp at h2); (try simp at h3); (try simp at h4); (try simp at h5); (try simp at h6); (try simp at h7); (try simp -implicitDefEqProofs [hb, hne, hlen, hl1, hl2, hq]); repeat' first | ((first | with_reducible refine gdK_em (fun hc => ?_) (fun hc => ?_) | with_reducible refine cdK_em (fun hc => ?_) (fun hc => ?_) | with_reducible refine pickK_em (fun hc => ?_) (fun hc => ?_)) <;> (have hc' := hc; (try simp at hc'); simp -implicitDefEqProofs [hc, hc', hb, hne, hlen, hl1, hl2, hq])) | (with_reducible apply callK_pure <;> first | (simp only [eras, era, eras_map]; first | with_reducible exact h1 | with_reducible exact h2 | with_reducible exact h3 | with_reducible exact h4 | with_reducible exact h5 | with_reducible exact h6 | with_reducible exact h7 | simpa using h1 | simpa using h2 | simpa using h3 | simpa using h4 | simpa using h5 | simpa using h6 | simpa using h7) | (simp -implicitDefEqProofs [hb, hne, hlen, hl1, hl2, hq])))
      · have hl1 : decide (1 < (S.length : Int)) = false := by simp; omega
        by_cases hg : 0 ≤ g
        · ((try simp at h1); (try simp at h2); (try simp at h3); (try simp at h4); (try simp at h5); (try simp at h6); (try simp at h7); (try simp -implicitDefEqProofs [hb, hne, hlen, hl1, hg, hq]); repeat' first | ((first | with_reducible refine gdK_em (fun hc => ?_) (fun hc => ?_) | with_reducible refine cdK_em (fun hc => ?_) (fun hc => ?_) | with_reducible refine pickK_em (fun hc => ?_) (fun hc => ?_)) <;> (have hc' := hc; (try simp at hc'); simp -implicitDefEqProofs [hc, hc', hb, hne, hlen, hl1, hg, hq])) | (with_reducible apply callK_pure <;> first | (simp only [eras, era, eras_map]; first | with_reducible exact h1 | with_reducible exact h2 | with_reducible exact h3 | with_reducible exact h4 | with_reducible exact h5 | with_reducible exact h6 | with_reducible exact h7 | simpa using h1 | simpa using h2 | simpa using h3 | simpa using h4 | simpa using h5 | simpa using h6 | simpa using h7) | (simp -implicitDefEqProofs [hb, hne, hlen, hl1, hg, hq])))
        · ((try simp at h1); (try simp at h2); (try simp at h3); (try simp at h4); (try simp at h5); (try simp at h6); (try simp at h7); (try simp -implicitDefEqProofs [hb, hne, hlen, hl1, hg, hq]); repeat' first | ((first | with_reducible refine gdK_em (fun hc => ?_) (fun hc => ?_) | with_reducible refine cdK_em (fun hc => ?_) (fun hc => ?_) | with_reducible refine pickK_em (fun hc => ?_) (fun hc => ?_)) <;> (have hc' := hc; (try simp at hc'); simp -implicitDefEqProofs [hc, hc', hb, hne, hlen, hl1, hg, hq])) | (with_reducible apply callK_pure <;> first | (simp only [eras, era, eras_map]; first | with_reducible exact h1 | with_reducible exact h2 | with_reducible exact h3 | with_reducible exact h4 | with_reducible exact h5 | with_reducible exact h6 | with_reducible exact h7 | simpa using h1 | simpa using h2 | simpa using h3 | simpa using h4 | simpa using h5 | simpa using h6 | simpa using h7) | (simp -implicitDefEqProofs [hb, hne, hlen, hl1, hg, hq])))
    · ((try simp at h1); (try simp at h2); (try simp at h3); (try simp at h4); (try simp at h5); (try simp at h6); (try simp at h7); (try simp -implicitDefEqProofs [hb, hne]); repeat' first | ((first | with_reducible refine gdK_em (fun hc => ?_) (fun hc => ?_) | with_reducible refine cdK_em (fun hc => ?_) (fun hc => ?_) | with_reducible refine pickK_em (fun hc => ?_) (fun hc => ?_)) <;> (have hc' := hc; (try simp at hc'); simp -implicitDefEqProofs [hc, hc', hb, hne])) | (with_reducible apply callK_pure <;> first | (simp only [eras, era, eras_map]; first | with_reducible exact h1 | with_reducible exact h2 | with_reducible exact h3 | with_reducible exact h4 | with_reducible exact h5 | with_reducible exact h6 | with_reducible exact h7 | simpa using h1 | simpa using h2 | simpa using h3 | simpa using h4 | simpa using h5 | simpa using h6 | simpa using h7) | (simp -implicitDefEqProofs [hb, hne])))
  · ((try simp at h1); (try simp at h2); (try simp at h3); (try simp at h4); (try simp at h5); (try simp at h6); (try simp at h7); (try simp -implicitDefEqProofs [hb, hne]); repeat' first | ((first | with_reducible refine gdK_em (fun hc => ?_) (fun hc => ?_) | with_reducible refine cdK_em (fun hc => ?_) (fun hc => ?_) | with_reducible refine pickK_em (fun hc => ?_) (fun hc => ?_)) <;> (have hc' := hc; (try simp at hc'); simp -implicitDefEqProofs [hc, hc', hb, hne])) | (with_reducible apply callK_pure <;> first | (simp only [eras, era, eras_map]; first | with_reducible exact h1 | with_reducible exact h2 | with_reducible exact h3 | with_reducible exact h4 | with_reducible exact h5 | with_reducible exact h6 | with_reducible exact h7 | simpa using h1 | simpa using h2 | simpa using h3 | simpa using h4 | simpa using h5 | simpa using h6 | simpa using h7) | (simp -implicitDefEqProofs [hb, hne])))
end Go.Proofs.YtkapabohpfkcoaaDoor
