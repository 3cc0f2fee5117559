/- strconv.Itoa: the shelf's contract, laid by the kit's tool (numbers of round r2's seat), as a contract of the engine. -/
import Derived.Shelf.Strconv.Itoa3
import Derived.Shelf.LaysM
import Derived.Test.YtpggidmbnjfmaaaGreatDoorBld
import Derived.Test.YtpggidmbnjfmaaaGreatDoorItl
import Derived.Lib.UnsafeStr
import Derived.Lib.Builder
import Derived.Lib.Walk
import Derived.Shelf.RegionOpenPlain
import Derived.WalkKit
section
set_option linter.unusedSimpArgs false
set_option linter.unusedVariables false
set_option maxRecDepth 100000
namespace Go.Proofs.YtpggidmbnjfmaaaGreatDoor
open Go.Shelf
open Go.RowKit Go.Sort Go.Lib in
theorem itoa_calls (n : Int) (h0 : -9223372036854775808 ≤ n) (h1 : n ≤ 9223372036854775807) (w : World) (htab : Lib.TabIs Tryz.prog w "internal/strconv.uint64pow10" .u64 Lib.pow10Tab) :
  Calls Tryz.prog 43 #[.int .i64 n] w fun e w' => e = .returned (.string ⟨(Lib.itoa n).toArray⟩) ∧ ∃ k os, w' = grow (w.drewN k) os := Any.strconv_Itoa laysIto n h0 h1 w htab
open E Go.RowKit
theorem pow10_lay {o : Nat} (h : o < 20) : laidC 2 o = some (.int .u64 ((10 ^ o : Nat) : Int)) := by
 have : laidC 2 o = ((List.range 20).map fun i => Value.int .u64 ((10 ^ i : Nat) : Int))[o]? := rfl
 rw [this]
 simp [h]
theorem pow10_tab {g : Gh} {S : St} {w : World} (h : Inv g S w) : Lib.TabIs Tryz.prog w "internal/strconv.uint64pow10" .u64 Lib.pow10Tab := by
 have hg : Tryz.prog.globalNamed "internal/strconv.uint64pow10" = some 2 := by kernel_rfl
 obtain ⟨cs, ty, fz, h1, h2⟩ := h.lsz 2 _ (pow10_lay (by decide))
 have h3 : laidN 2 = 20 := rfl
 unfold Lib.TabIs World.var?
 rw [hg]
 simp only [Option.bind_some, h1]
 congr 1
 apply Array.ext_getElem?
 intro o
 rcases Nat.lt_or_ge o 20 with ho | ho
 ·have h4 := h.imm _ _ _ (h.lay _ _ _ (pow10_lay ho))
  simp only [World.cell?, h1, Option.isSome_none] at h4
  rw [if_neg (by simp)] at h4
  rw [h4]
  simp [Lib.pow10Tab, ho]
 ·rw [Array.getElem?_eq_none (by rw [h2, h3]; exact ho), Array.getElem?_eq_none (by simp [Lib.pow10Tab]; exact ho)]

theorem w_itoa (n : Int) (h0 : -9223372036854775808 ≤ n) (h1 : n ≤ 9223372036854775807) : Pure Tryz.prog 43 [.t (.int .i64 n)] (.t (.str (Lib.itoa n))) := by
 refine ⟨Tryz.call43, fun g w us hI hus hrel => ?_⟩
 rw [args1 hus]
 have hr := hrel 0 (by simp)
 simp only [List.getD_cons_zero] at hr
 generalize us.getD 0 undef = u0 at hr
 cases hr with
 | t _ _ hr =>
  cases hr
  refine (itoa_calls n h0 h1 w (pow10_tab hI)).mono ?_
  rintro e w' ⟨rfl, k, os, rfl⟩
  refine ⟨_, g, rfl, .t _ _ (.str _), hI.grown rfl rfl rfl ?_ fun i hi => ?_⟩
  ·simp [Go.Sort.grow, World.drewN]
  ·simp [Go.Sort.grow, World.drewN, Array.getElem?_append, hi]
end Go.Proofs.YtpggidmbnjfmaaaGreatDoor
end

/- (*strings.Builder).String, with the exact world. -/
section
set_option linter.unusedSimpArgs false
set_option linter.unusedVariables false
set_option maxHeartbeats 2000000
set_option maxRecDepth 100000
namespace Go.Proofs.YtpggidmbnjfmaaaGreatDoor
open E Go.RowKit

theorem str_some (b g cap : Nat) (p : Value) (cur : Array Value) (l : List UInt8) (w : World) (h0 : l ≠ []) (hbk : w.heap[b]? = some (.cells #[p, .slice (some ⟨g, 0, none⟩) l.length cap] 117 (0, 0)))
  (hg : w.heap[g]? = some (.cells cur 5 (0, 0))) (hnc : l.length ≤ cap) (hcm : cap ≤ maxLen) (hcs : cur.size = cap * 1) (hcell : ∀ j x, l[j]? = some x → w.cell? ⟨g, j, none⟩ = some (.int .u8 x.toNat)) :
  Calls Tryz.prog 45 #[.pointer (some ⟨b, 0, none⟩)] w fun e w' => e = .returned (.string ⟨l.toArray⟩) ∧ w' = w.drew.freeze ⟨g, 0, none⟩ l.length := by
 have hl0 : l.length ≠ 0 := by simpa using h0
 have c1 : w.drew.cell? ⟨b, 1, none⟩ = some (.slice (some ⟨g, 0, none⟩) l.length cap) := by
  have : w.drew.heap[b]? = some (.cells #[p, .slice (some ⟨g, 0, none⟩) l.length cap] 117 (0, 0)) := hbk
  rw [Lib.cell_of_heap this]; rfl
 have hSD : (Builtin.unsafeSliceData_ #[115] 163 #[.slice (some ⟨g, 0, none⟩) l.length cap]).run Tryz.prog w.drew = .ok (.pointer (some ⟨g, 0, none⟩)) w.drew :=
  Lib.run_unsafeSliceData_row _ _ _ _ _ _ (by omega)
 have hUS : (Builtin.unsafeString_ #[163, 3] 9 #[.pointer (some ⟨g, 0, none⟩), .int .i64 l.length]).run Tryz.prog w.drew = .ok (.string ⟨l.toArray⟩) (w.drew.freeze ⟨g, 0, none⟩ l.length) := by
  refine Lib.run_unsafeString_row w.drew 163 3 9 5 Tryz.underlying163 (by kernel_rfl) g cur.size (by have hg' : w.drew.heap[g]? = some (.cells cur 5 (0, 0)) := hg; simp [World.shape?, hg']) l h0 (by omega) (by unfold maxLen at hcm; omega) ?_
  intro j x hx
  have := hcell j x hx
  rw [Addr.add_lit]
  simpa using this
 go_enter Tryz.func45, Tryz.ntmps45
 go_wp2
 go_region
 all_goals (go_wp2; go_ret; exact ⟨rfl, rfl⟩)

theorem str_nil (b : Nat) (p : Value) (w : World) (hbk : w.heap[b]? = some (.cells #[p, .slice none 0 0] 117 (0, 0))) :
  Calls Tryz.prog 45 #[.pointer (some ⟨b, 0, none⟩)] w fun e w' => e = .returned (.string ⟨#[]⟩) ∧ w' = w.drew := by
 have hUS : ∀ (W : World) (q : Option Addr), (Builtin.unsafeString_ #[163, 3] 9 #[.pointer q, .int .i64 0]).run Tryz.prog W = .ok (.string .empty) W := fun W q => Lib.run_unsafeString_none W _ _ _ q
 have c1 : w.drew.cell? ⟨b, 1, none⟩ = some (.slice none 0 0) := by
  have : w.drew.heap[b]? = some (.cells #[p, .slice none 0 0] 117 (0, 0)) := hbk
  rw [Lib.cell_of_heap this]; rfl
 have hSD : (Builtin.unsafeSliceData_ #[115] 163 #[.slice none 0 0]).run Tryz.prog w.drew = .ok (.pointer none) w.drew := rfl
 go_enter Tryz.func45, Tryz.ntmps45
 go_wp2
 go_region
 all_goals (go_wp2; go_ret; exact ⟨rfl, rfl⟩)

theorem str_room (b g cap : Nat) (p : Value) (w : World) (hc0 : cap ≠ 0) (hbk : w.heap[b]? = some (.cells #[p, .slice (some ⟨g, 0, none⟩) 0 cap] 117 (0, 0))) :
  Calls Tryz.prog 45 #[.pointer (some ⟨b, 0, none⟩)] w fun e w' => e = .returned (.string ⟨#[]⟩) ∧ w' = w.drew := by
 have hUS : ∀ (W : World) (q : Option Addr), (Builtin.unsafeString_ #[163, 3] 9 #[.pointer q, .int .i64 0]).run Tryz.prog W = .ok (.string .empty) W := fun W q => Lib.run_unsafeString_none W _ _ _ q
 have c1 : w.drew.cell? ⟨b, 1, none⟩ = some (.slice (some ⟨g, 0, none⟩) 0 cap) := by
  have : w.drew.heap[b]? = some (.cells #[p, .slice (some ⟨g, 0, none⟩) 0 cap] 117 (0, 0)) := hbk
  rw [Lib.cell_of_heap this]; rfl
 have hSD : (Builtin.unsafeSliceData_ #[115] 163 #[.slice (some ⟨g, 0, none⟩) 0 cap]).run Tryz.prog w.drew = .ok (.pointer (some ⟨g, 0, none⟩)) w.drew :=
  Lib.run_unsafeSliceData_row _ _ _ _ _ _ hc0
 clear hc0
 go_enter Tryz.func45, Tryz.ntmps45
 go_wp2
 go_region
 all_goals (go_wp2; go_ret; exact ⟨rfl, rfl⟩)

theorem str_noroom (b g : Nat) (p : Value) (cur : Array Value) (w : World) (hbk : w.heap[b]? = some (.cells #[p, .slice (some ⟨g, 0, none⟩) 0 0] 117 (0, 0))) (hg : w.heap[g]? = some (.cells cur 5 (0, 0))) :
  Calls Tryz.prog 45 #[.pointer (some ⟨b, 0, none⟩)] w fun e w' => e = .returned (.string ⟨#[]⟩) ∧ ∃ o, w' = w.drew.alloc o := by
 have hUS : ∀ (W : World) (q : Option Addr), (Builtin.unsafeString_ #[163, 3] 9 #[.pointer q, .int .i64 0]).run Tryz.prog W = .ok (.string .empty) W := fun W q => Lib.run_unsafeString_none W _ _ _ q
 have hlt : b < w.heap.size := by
  rcases Nat.lt_or_ge b w.heap.size with h' | h'
  ·exact h'
  ·simp [Array.getElem?_eq_none h'] at hbk
 have c1 : w.drew.cell? ⟨b, 1, none⟩ = some (.slice (some ⟨g, 0, none⟩) 0 0) := by
  have : w.drew.heap[b]? = some (.cells #[p, .slice (some ⟨g, 0, none⟩) 0 0] 117 (0, 0)) := hbk
  rw [Lib.cell_of_heap this]; rfl
 have hSD : (Builtin.unsafeSliceData_ #[115] 163 #[.slice (some ⟨g, 0, none⟩) 0 0]).run Tryz.prog w.drew = .ok (.pointer (some ⟨w.drew.heap.size, 0, none⟩)) (w.drew.alloc (.view ⟨g, 0, none⟩ 5)) :=
  Lib.run_unsafeSliceData_zero w.drew _ _ 5 Tryz.underlying163 ⟨g, 0, none⟩ 0 (5, cur.size) (by have hg' : w.drew.heap[g]? = some (.cells cur 5 (0, 0)) := hg; simp [World.shape?, hg'])
 have c2 : (w.drew.alloc (.view ⟨g, 0, none⟩ 5)).cell? ⟨b, 1, none⟩ = some (.slice (some ⟨g, 0, none⟩) 0 0) := by
  have : (w.drew.alloc (.view ⟨g, 0, none⟩ 5)).heap[b]? = _ := (Lib.alloc_old w.drew _ b hlt).trans hbk
  rw [Lib.cell_of_heap this]; rfl
 have c3 : (w.alloc (.view ⟨g, 0, none⟩ 5)).drew.cell? ⟨b, 1, none⟩ = some (.slice (some ⟨g, 0, none⟩) 0 0) := c2
 have c0 : w.cell? ⟨b, 1, none⟩ = some (.slice (some ⟨g, 0, none⟩) 0 0) := c1
 go_enter Tryz.func45, Tryz.ntmps45
 go_wp2
 go_region
 all_goals (go_wp2; go_ret; exact ⟨rfl, _, rfl⟩)

theorem strR_length (l : List UInt8) : (strR l).length = l.length := by simp [strR]

theorem relsl_len {I : Nat → Nat → Option Value} {es : List (List T)} {v : Value} (h : RelT I (.sl es) v) : es.length ≤ maxLen := by
 cases h with
 | slnil => simp
 | slz a cap hm => simp
 | sl _ b off cap z c hz hc hm hI hr => omega
theorem relsl_cell {I : Nat → Nat → Option Value} {es : List (List T)} {b n cap : Nat} (h : RelT I (.sl es) (.slice (some ⟨b, 0, none⟩) n cap)) (hz1 : ∀ x ∈ es, x.length = 1) (j : Nat) (hj : j < es.length) :
  ∃ c, I b j = some c ∧ RelT I ((es.getD j []).getD 0 .nilp) c := by
 cases h with
 | slz a cap hm => simp at hj
 | sl _ b off cap z c hz hc hm hI hr =>
  have hz' : z = 1 := by
   have h1 := hz j hj
   rw [← h1]
   apply hz1
   simp [List.getD_eq_getElem?_getD, hj]
  subst hz'
  exact ⟨_, by simpa using hI j 0 hj (by omega), hr j 0 hj (by omega)⟩

theorem freeze_heap (w : World) (b n k : Nat) (h : k ≠ b) : (w.freeze ⟨b, 0, none⟩ n).heap[k]? = w.heap[k]? := by
 unfold World.freeze
 split
 ·rfl
 ·simp only [Array.getElem?_modify]
  rw [if_neg (fun e => h e.symm)]
theorem freeze_size (w : World) (b n : Nat) : (w.freeze ⟨b, 0, none⟩ n).heap.size = w.heap.size := by
 unfold World.freeze
 split <;> simp
theorem freeze_same (w : World) (b n : Nat) (cur : Array Value) (ty : TypeId) (fz : Nat × Nat) (h : w.heap[b]? = some (.cells cur ty fz)) : ∃ fz', (w.freeze ⟨b, 0, none⟩ n).heap[b]? = some (.cells cur ty fz') := by
 unfold World.freeze
 split
 ·exact ⟨fz, h⟩
 ·exact ⟨_, by simp only [Array.getElem?_modify, if_true, h]; rfl⟩

theorem w_String (b k : Nat) (p : V) (l : List UInt8) (B : List Bx) (K : List Nat) (hB : B[b]? = some (.buf 117 0 [p, .own k 5 1 (strR l)])) (hK : K[k]? = some l.length) :
  FnS Tryz.prog 45 [.ptr b 0] ⟨B, K⟩ (.t (.str l)) ⟨B, if l = [] then K else K.set k (maxLen + 1)⟩ := by
 refine ⟨Tryz.call45, fun g w us hI hus hrel => ?_⟩
 rw [args1 hus]
 have hr0 := hrel 0 (by simp)
 simp only [List.getD_cons_zero] at hr0
 generalize us.getD 0 undef = u0 at hr0
 cases hr0 with
 | ptr _ _ blk hβ =>
  obtain ⟨vp, vv, hh, rp, rv⟩ := bld_box hI hβ hB
  cases rv with
  | own _ _ _ _ _ n h hz hn hle hg =>
   rw [hK] at hn
   cases hn
   have hog := hg (strR_length l)
   rcases hog with ⟨hτ, he, rfl⟩ | ⟨bk, cap, hτ, rfl⟩
   ·have hl : l = [] := by simpa [strR] using he
    subst hl
    refine (str_nil blk vp w hh).mono ?_
    rintro e w' ⟨rfl, rfl⟩
    exact ⟨_, g, rfl, .t _ _ (.str _), by simpa using Mv.drew hI⟩
   ·obtain ⟨t1, t2, t3, t4, t5⟩ := hI.tok k l.length bk 5 1 cap hτ hK
    have hlm : l.length ≤ maxLen := by
     have := relsl_len h
     rw [strR_length] at this
     exact this
    rcases t1 with t1 | ⟨cur, q1, q2, q3, q4⟩
    ·omega
    rw [strR_length] at hh
    by_cases hl : l = []
    ·subst hl
     by_cases hc0 : cap = 0
     ·subst hc0
      refine (str_noroom blk bk vp cur w hh q1).mono ?_
      rintro e w' ⟨rfl, o, rfl⟩
      refine ⟨_, g, rfl, .t _ _ (.str _), ?_⟩
      rw [if_pos rfl]
      exact hI.grown rfl rfl rfl (by simp) fun i hi => heap_alloc_lt (w := w.drew) hi
     ·refine (str_room blk bk cap vp w hc0 hh).mono ?_
      rintro e w' ⟨rfl, rfl⟩
      exact ⟨_, g, rfl, .t _ _ (.str _), by simpa using Mv.drew hI⟩
    ·rw [if_neg hl]
     refine (str_some blk bk cap vp cur l w hl hh q1 q3 q4 q2 ?_).mono ?_
     ·intro j x hx
      have hj : j < l.length := lt_of_get hx
      obtain ⟨c, h1, h2⟩ := relsl_cell h hz j (by rw [strR_length]; exact hj)
      rw [hI.imm _ _ _ h1]
      have h3 : ((strR l).getD j []).getD 0 .nilp = .int .u8 (x.toNat : Int) := by simp [strR, List.getD_eq_getElem?_getD, hx]
      rw [h3] at h2
      cases h2
      rfl
     ·rintro e w' ⟨rfl, rfl⟩
      refine ⟨_, g, rfl, .t _ _ (.str _), ?_⟩
      refine hI.killTok k l.length bk 5 1 cap hτ hK hlm ?_ ?_ ?_ (freeze_size _ _ _) (fun i hi => freeze_heap w.drew bk _ i hi) (fun c ty fz hc => freeze_same w.drew bk _ c ty fz hc)
      all_goals (unfold World.freeze; split <;> rfl)
end Go.Proofs.YtpggidmbnjfmaaaGreatDoor
end
