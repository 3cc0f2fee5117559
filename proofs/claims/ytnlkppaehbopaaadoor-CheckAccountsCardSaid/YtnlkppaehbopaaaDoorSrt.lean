/- slices.Sort of ints: the shelf's contract, laid by the kit's tool (XSrl), as a contract of the engine. -/
import Derived.Shelf.Sort.Plain
import Derived.Shelf.Small.Bits
import Derived.Test.YtnlkppaehbopaaaDoorSrl
import Derived.Test.YtnlkppaehbopaaaDoorCmp
set_option linter.unusedSimpArgs false
set_option linter.unusedVariables false
set_option maxHeartbeats 2000000
set_option maxRecDepth 100000
namespace Go.Proofs.YtnlkppaehbopaaaDoor
open E Go.RowKit

namespace E
theorem args_one {us : Array Value} (h : us.size = 1) : us = #[us.getD 0 undef] := by
  rcases us with ⟨l⟩
  match l, h with
  | [x], _ => rfl
/-- A world that only has more blocks, and drew. -/
theorem Inv.grownS {g : Gh} {S : St} {w w' : World} (h : Inv g S w) (h1 : w'.os = w.os) (h2 : w'.tape = w.tape) (h3 : w'.output = w.output) (h4 : w.heap.size ≤ w'.heap.size) (h5 : ∀ k, k < w.heap.size → w'.heap[k]? = w.heap[k]?) : Mv g S w g S w' := by
  refine ⟨⟨fun b o c hc => ?_, h.len, h.nodup, fun i blk bx hi hbx => ?_, h.sep, h.bwr, h.tlen, fun k n blk e z cap hk hn => ?_, h.tnil, h.tdis, Nat.le_trans h.lo h4, fun i blk hi => Nat.lt_of_lt_of_le (h.bold i blk hi) h4, h.lay, h.lszOf fun b hb _ => h5 b hb⟩, Ext.refl _ _, ⟨h1, h2, h3, h4, fun k hk _ => h5 k (Nat.lt_of_lt_of_le hk h.lo)⟩⟩
  · rw [cell_old (h5 b (h.Ilt hc))]
    exact h.imm b o c hc
  · exact (h.box i blk bx hi hbx).mono (Ext.refl _ _) hi (h5 blk (h.bold i blk hi))
  · obtain ⟨q1, q2, q3, q4, hlt⟩ := h.tok k n blk e z cap hk hn
    exact ⟨q1.imp id fun ⟨cur, a, r⟩ => ⟨cur, by rw [h5 blk hlt]; exact a, r⟩, q2, q3, q4, Nat.lt_of_lt_of_le hlt h4⟩
theorem w_Sort (b : Nat) (zs : List Int) (S : St) (hz : zs.length ≤ 1000000) (hS : S.boxes[b]? = some (bufI zs)) :
    FnS Tryd.prog 33 [.bw b zs.length] S (.tup []) ⟨S.boxes.set b (bufI (srtI zs)), S.toks⟩ := by
  refine ⟨Tryd.call33, fun g w us hI hus hrel => ?_⟩
  rw [args_one hus]
  have h0 := hrel 0 (by simp)
  simp only [List.getD_cons_zero] at h0
  generalize us.getD 0 undef = u0 at h0
  cases h0 with
  | bw _ _ blk cap hβ hc hk hm =>
    obtain ⟨vs, hh, h2, ⟨h3, _⟩, h4⟩ := hI.box b blk _ hβ hS
    have hl : zs.length ≤ vs.size := by simpa using h3
    have hcell : ∀ j, j < zs.length → vs[j]? = some (.int .i64 (zs.getD j 0)) := by
      intro j hj
      have hr := h4 j (by simpa using hj)
      have e1 : (zs.map vI).getD j .junk = vI (zs.getD j 0) := by simp [List.getD_eq_getElem?_getD, hj]
      rw [e1] at hr
      have hjv : j < vs.size := by omega
      have e2 : vs.getD j undef = vs[j] := by simp [hjv]
      rw [e2] at hr
      rw [Array.getElem?_eq_getElem hjv]
      generalize vs[j] = u at hr
      cases hr with
      | t _ _ hr => cases hr; rfl
    have hH : Go.Sort.Holds (Value.int .i64) w blk 0 zs.toArray := by
      intro j hj
      have hj' : j < zs.length := by simpa using hj
      have e := hcell j hj'
      have e3 : zs.toArray[j]! = zs.getD j 0 := by simp [hj', List.getD_eq_getElem?_getD]
      rw [e3]
      refine ⟨?_, ?_⟩
      · simp [World.cell?, hh, e]
      · simp [World.frozen?, hh]
    have hblk : blk < w.heap.size := (Array.getElem?_eq_some_iff.1 hh).1
    refine (Any.slices_Sort_int laysSrt blk 0 cap zs w hH hblk (by omega)).mono ?_
    rintro e w' ⟨rfl, n, os, rfl⟩
    refine ⟨.tuple #[], g, rfl, .tup [] #[] rfl (fun j hj => by simp at hj), ?_⟩
    have hput : (Go.Sort.putRow (Value.int .i64) (Go.Sort.ahead w n) blk 0 (srtI zs).toArray).heap[blk]? = some (.cells (Go.Sort.putCells (Value.int .i64) 0 (srtI zs).toArray vs) 3 (0, 0)) := by
      simp [Go.Sort.putRow, Go.Sort.mapBlock, Go.Sort.ahead, Array.getElem?_modify, hh, Go.Sort.onCells]
    have hm1 := hI.put b blk _ (bufI (srtI zs)) hβ hS (fun h => by cases h) (fun h => by cases h) (.cells #[] 0) (Go.Sort.putRow (Value.int .i64) (Go.Sort.ahead w n) blk 0 (srtI zs).toArray)
      (fun k hk => by simp [Go.Sort.putRow, Go.Sort.mapBlock, Go.Sort.ahead, Array.getElem?_modify, Ne.symm hk]) (by simp) rfl rfl rfl
      ⟨_, hput, by simpa [Go.Sort.putCells] using h2, ⟨by simpa [Go.Sort.putCells, srtI_len] using hl, fun h => by cases h⟩, fun j hj => by
        have hj' : j < (srtI zs).length := by simpa using hj
        have hjz : j < zs.length := by rw [srtI_len] at hj'; exact hj'
        have hjv : j < vs.size := by omega
        have e1 : ((srtI zs).map vI).getD j .junk = vI ((srtI zs).getD j 0) := by simp [List.getD_eq_getElem?_getD, hj']
        have e2 : (Go.Sort.putCells (Value.int .i64) 0 (srtI zs).toArray vs).getD j undef = .int .i64 ((srtI zs).getD j 0) := by
          simp [Go.Sort.putCells, hjv, hj', List.getD_eq_getElem?_getD]
        rw [e1, e2]
        exact .t _ _ (.int _ _)⟩
    refine hm1.trans (hm1.inv.grownS rfl rfl rfl (by simp) fun k hk => ?_)
    simp only [Go.Sort.grow]
    rw [Array.getElem?_append_left (by simpa using hk)]
    rfl
end E
/-! ### Of no element -/
theorem w_len0 : Pure Tryd.prog 60 [.t (.int .u64 0)] (vI 0) := by
  refine ⟨Tryd.call60, fun g w us hI hus hrel => ?_⟩
  rw [args_one hus]
  have h0 := hrel 0 (by simp)
  simp only [List.getD_cons_zero] at h0
  generalize us.getD 0 undef = u0 at h0
  cases h0 with
  | t _ _ hr =>
    cases hr
    refine (Any.bits_Len laysLen 0 w (by omega) (by omega)).mono ?_
    rintro e w' ⟨rfl, rfl⟩
    exact ⟨_, g, rfl, .t _ _ (.int _ _), Mv.refl hI⟩
theorem w_ins0 : Pure Tryd.prog 73 [.t (.sl []), vI 0, vI 0] (.tup []) := by
  (refine Pure.of_code mix Tryd.call73 k_73 (by simp) (fun hB => ?_); (try simp at hB); (try simp -implicitDefEqProofs [c_slices_insertionSortOrdered_int__73]))
  refine loop_rule (X := Nat) (fun m => m = 0) (fun _ => [(0, .t (.sl [])), (1, vI 0), (2, vI 0), (6, vI 1)]) (fun _ => ⟨[], []⟩) (fun _ => 0) 0 rfl (by simp) ?_
  rintro m rfl hbd
  ((try simp -implicitDefEqProofs); repeat' first | ((first | with_reducible refine gdK_em (fun hc => ?_) (fun hc => ?_) | with_reducible refine cdK_em (fun hc => ?_) (fun hc => ?_) | with_reducible refine pickK_em (fun hc => ?_) (fun hc => ?_)) <;> (have hc' := hc; (try simp at hc'); simp -implicitDefEqProofs [hc, hc'])))
theorem w_pdq0 : Pure Tryd.prog 59 [.t (.sl []), vI 0, vI 0, vI 0] (.tup []) := by
  have h := w_ins0
  (refine Pure.of_code mix Tryd.call59 k_59 (by simp) (fun hB => ?_); (try simp at hB); (try simp -implicitDefEqProofs [c_slices_pdqsortOrdered_int__59]))
  refine loop_rule (X := Nat) (fun m => m = 0) (fun _ => [(0, .t (.sl [])), (1, vI 0), (2, vI 0), (3, vI 0), (8, vB true), (9, vB true)]) (fun _ => ⟨[], []⟩) (fun _ => 0) 0 rfl (by simp) ?_
  rintro m rfl hbd
  ((try simp at h); (try simp -implicitDefEqProofs); repeat' first | ((first | with_reducible refine gdK_em (fun hc => ?_) (fun hc => ?_) | with_reducible refine cdK_em (fun hc => ?_) (fun hc => ?_) | with_reducible refine pickK_em (fun hc => ?_) (fun hc => ?_)) <;> (have hc' := hc; (try simp at hc'); simp -implicitDefEqProofs [hc, hc'])) | (with_reducible apply callK_pure <;> first | (simp only [eras, era, eras_map]; first | with_reducible exact h | simpa using h) | (simp -implicitDefEqProofs)))
theorem w_Sort0 : Pure Tryd.prog 33 [.t (.sl [])] (.tup []) := by
  have h1 := w_len0
  have h2 := w_pdq0
  have e0 : IntKind.u64.wrap 0 = 0 := by decide
  (refine Pure.of_code mix Tryd.call33 k_33 (by simp) (fun hB => ?_); (try simp at hB); (try simp -implicitDefEqProofs [c_slices_Sort___int_int__33]))
  ((try simp at h1); (try simp at h2); (try simp -implicitDefEqProofs [e0]); repeat' first | ((first | with_reducible refine gdK_em (fun hc => ?_) (fun hc => ?_) | with_reducible refine cdK_em (fun hc => ?_) (fun hc => ?_) | with_reducible refine pickK_em (fun hc => ?_) (fun hc => ?_)) <;> (have hc' := hc; (try simp at hc'); simp -implicitDefEqProofs [hc, hc', e0])) | (with_reducible apply callK_pure <;> first | (simp only [eras, era, eras_map]; first | with_reducible exact h1 | with_reducible exact h2 | simpa using h1 | simpa using h2) | (simp -implicitDefEqProofs [e0])))
end Go.Proofs.YtnlkppaehbopaaaDoor
