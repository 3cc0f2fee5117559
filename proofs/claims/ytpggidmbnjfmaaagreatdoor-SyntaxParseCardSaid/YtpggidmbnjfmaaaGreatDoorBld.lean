/- strings.Builder: what its methods do, as contracts of the engine. -/
import Derived.Test.YtpggidmbnjfmaaaGreatDoorCodeB
import Derived.Test.YtpggidmbnjfmaaaGreatDoorApi
import Derived.Lib.Builder
import Derived.Lib.Walk
import Derived.Laws.Externs
import Derived.Laws.IdiomCopy
import Derived.Laws.BitsLemmas
import Derived.BigCall
set_option linter.unusedSimpArgs false
set_option linter.unusedVariables false
set_option maxHeartbeats 2000000
set_option maxRecDepth 100000
namespace Go.Proofs.YtpggidmbnjfmaaaGreatDoor
open E Go.RowKit

theorem bld_used (b : Nat) (w : World) (h0 : w.cell? ⟨b, 0, none⟩ = some (.pointer (some ⟨b, 0, none⟩))) :
  Calls Tryz.prog 85 #[.pointer (some ⟨b, 0, none⟩)] w fun e w' => e = .returned (.tuple #[]) ∧ w' = w := by
 obtain ⟨j, hj⟩ : ∃ j, Tryz.prog.info? 117 = some j := ⟨_, rfl⟩
 go_enter Tryz.func85, Tryz.ntmps85
 go_wp2
 rw [Lib.run_neq_ptr_same w _ Tryz.underlying114 hj]
 go_wp2
 go_end0
 exact ⟨rfl, rfl⟩
theorem bld_fresh (b : Nat) (w : World) (h0 : w.cell? ⟨b, 0, none⟩ = some (.pointer none)) (hsh : w.shape? b = some (117, 2)) (hfz : w.frozen? ⟨b, 0, none⟩ = false) :
  Calls Tryz.prog 85 #[.pointer (some ⟨b, 0, none⟩)] w fun e w' => e = .returned (.tuple #[]) ∧ w' = w.setCell ⟨b, 0, none⟩ (.pointer (some ⟨b, 0, none⟩)) := by
 obtain ⟨j, hj, hjs⟩ : ∃ j, Tryz.prog.info? 117 = some j ∧ j.size = 2 := ⟨_, rfl, by kernel_rfl⟩
 go_enter Tryz.func85, Tryz.ntmps85
 go_wp2
 rw [Lib.run_to_unsafe w ⟨b, 0, none⟩ Tryz.underlying114 Tryz.underlying191 hj (by rw [hjs]; decide) hsh (Nat.zero_lt_succ 1)]
 simp only [Result.andThen]
 rw [Oper.upon_value]
 go_wp2
 rw [run_callFunc_extern Tryz.func123 (by kernel_rfl) (by kernel_rfl) (by kernel_rfl) (e := Extern.AbiNoEscape.same) (by kernel_rfl)]
 rw [Lib.run_noEscape]
 simp only [Result.andThen]
 rw [Oper.upon_value]
 go_wp2
 rw [Lib.run_from_unsafe w ⟨b, 0, none⟩ Tryz.underlying191 Tryz.underlying114 hj hsh (by kernel_rfl)]
 simp only [Result.andThen]
 rw [Oper.upon_value]
 go_wp2
 go_end0
 exact ⟨rfl, rfl⟩

namespace E

theorem args1 {us : Array Value} (h : us.size = 1) : us = #[us.getD 0 undef] := by
 rcases us with ⟨l⟩
 match l, h with
 | [x], _ => rfl

theorem bld_box {g : Gh} {S : St} {w : World} {b blk : Nat} {p v : V} (hI : Inv g S w) (hβ : g.β[b]? = some blk) (hb : S.boxes[b]? = some (.buf 117 0 [p, v])) :
  ∃ vp vv, w.heap[blk]? = some (.cells #[vp, vv] 117 (0, 0)) ∧ RelV g S.toks p vp ∧ RelV g S.toks v vv := by
 obtain ⟨vs, h1, h2, h3, h4⟩ := hI.box b blk _ hβ hb
 have hs : vs.size = 2 := by simpa using h3.2 rfl
 have e : vs = #[vs.getD 0 undef, vs.getD 1 undef] := by
  rcases vs with ⟨l⟩
  match l, hs with
  | [x, y], _ => rfl
 have r0 := h4 0 (by simp)
 have r1 := h4 1 (by simp)
 exact ⟨vs.getD 0 undef, vs.getD 1 undef, by rw [h1]; exact congrArg (fun x => some (Obj.cells x _ _)) e, r0, r1⟩

theorem set_same {α : Type} {l : List α} {b : Nat} {x : α} (h : l[b]? = some x) : l.set b x = l := by
 apply List.ext_getElem?
 intro i
 rw [List.getElem?_set]
 split
 ·rename_i he
  subst he
  split
  ·exact h.symm
  ·rename_i hn
   rw [List.getElem?_eq_none (by omega)] at h
   cases h
 ·rfl

theorem w_check (b : Nat) (p v : V) (S : St) (hp : p = .t .nilp ∨ p = .ptr b 0) (hS : S.boxes[b]? = some (.buf 117 0 [p, v])) :
  FnS Tryz.prog 85 [.ptr b 0] S (.tup []) ⟨S.boxes.set b (.buf 117 0 [.ptr b 0, v]), S.toks⟩ := by
 refine ⟨Tryz.call85, fun g w us hI hus hrel => ?_⟩
 rw [args1 hus]
 have h0 := hrel 0 (by simp)
 simp only [List.getD_cons_zero] at h0
 generalize us.getD 0 undef = u0 at h0
 cases h0 with
 | ptr _ _ blk hβ =>
  obtain ⟨vp, vv, hh, rp, rv⟩ := bld_box hI hβ hS
  rcases hp with rfl | rfl
  ·cases rp with
   | t _ _ hr =>
    cases hr
    refine (bld_fresh blk w (by simp [World.cell?, hh]) (by simp [World.shape?, hh]) (by simp [World.frozen?, hh])).mono ?_
    rintro e w' ⟨rfl, rfl⟩
    have hset := heap_setCell_same w blk 0 _ _ (.pointer (some ⟨blk, 0, none⟩)) hh
    refine ⟨_, g, rfl, .tup [] #[] rfl (fun j hj => by simp at hj), hI.put b blk _ _ hβ hS (fun h => by cases h) (fun h => by cases h) (.cells #[] 0) _ (fun k hk => heap_setCell_other w _ k _ hk) (by simp) rfl rfl rfl ?_⟩
    refine ⟨_, hset, by simp, ⟨by simp, fun _ => by simp⟩, fun j hj => ?_⟩
    match j, hj with
    | 0, _ => exact .ptr b 0 blk hβ
    | 1, _ => exact rv
  ·cases rp with
   | ptr _ _ blk' hβ' =>
    rw [hβ] at hβ'
    cases hβ'
    refine (bld_used blk w (by simp [World.cell?, hh])).mono ?_
    rintro e w' ⟨rfl, rfl⟩
    rw [set_same hS]
    exact ⟨_, g, rfl, .tup [] #[] rfl (fun j hj => by simp at hj), Mv.refl hI⟩

theorem LeBs.setR {n m : Nat} {X : Bx} (hX : leB n m X X) : ∀ {B : List Bx} (b : Nat), LeBs n m B B → LeBs n m (B.set b X) (B.set b X)
 | [], _, _ => trivial
 | x :: B, 0, h => ⟨hX, h.2⟩
 | x :: B, b + 1, h => ⟨h.1, LeBs.setR hX b h.2⟩
theorem LeNs.refl : ∀ (K : List Nat), LeNs K K
 | [] => trivial
 | x :: K => ⟨rfl, LeNs.refl K⟩

theorem w_WS (b k : Nat) (p : V) (rows : List (List T)) (l : List UInt8) (B : List Bx) (K : List Nat) (hp : p = .t .nilp ∨ p = .ptr b 0) (hB : B[b]? = some (.buf 117 0 [p, .own k 5 1 rows]))
  (hK : K[k]? = some rows.length) (hl : rows.length + l.length ≤ 10000000000) (hok : LeBs B.length K.length B B) :
  FnS Tryz.prog 42 [.ptr b 0, .t (.str l)] ⟨B, K⟩ (.tup [.t (.int .i64 l.length), .t .nili])
   ⟨B.set b (.buf 117 0 [.ptr b 0, .own k 5 1 (rows ++ strR l)]), K.set k (rows.length + l.length)⟩ := by
 have hb : b < B.length := (List.getElem?_eq_some_iff.1 hB).1
 have hk : k < K.length := (List.getElem?_eq_some_iff.1 hK).1
 have hc := w_check b p (.own k 5 1 rows) ⟨B, K⟩ hp hB
 (refine FnS.of_code mix Tryz.call42 k_42 (by simp) (fun hB => ?_); (try simp at hB); (try simp -implicitDefEqProofs [qc_42]))
 refine callK_fn hc (fun h => by cases h) ?_
 ((try simp -implicitDefEqProofs [hb, hk, hK]); repeat' first | ((with_reducible first | apply gdK_em | apply cdK_em | apply pickK_em) <;> (intro hc; have hc' := hc; (try simp at hc'); simp -implicitDefEqProofs [hc, hc', hb, hk, hK])))
 have hkk : K[k] = rows.length := by simpa [hk] using hK
 refine ⟨⟨hkk, by unfold maxLen; omega, by omega⟩, LeBs.setR ?_ b hok, LeNs.refl _⟩
 simp [leB, LeL, leC, okNs, okN, hb, hk]

theorem w_WB (b k : Nat) (p : V) (rows : List (List T)) (c : Int) (B : List Bx) (K : List Nat) (hp : p = .t .nilp ∨ p = .ptr b 0) (hB : B[b]? = some (.buf 117 0 [p, .own k 5 1 rows]))
  (hK : K[k]? = some rows.length) (hl : rows.length ≤ 1000000) (hok : LeBs B.length K.length B B) :
  FnS Tryz.prog 44 [.ptr b 0, .t (.int .u8 c)] ⟨B, K⟩ (.t .nili)
   ⟨B.set b (.buf 117 0 [.ptr b 0, .own k 5 1 (rows ++ [[.int .u8 c]])]), K.set k (rows.length + 1)⟩ := by
 have hb : b < B.length := (List.getElem?_eq_some_iff.1 hB).1
 have hk : k < K.length := (List.getElem?_eq_some_iff.1 hK).1
 have hc := w_check b p (.own k 5 1 rows) ⟨B, K⟩ hp hB
 (refine FnS.of_code mix Tryz.call44 k_44 (by simp) (fun hB => ?_); (try simp at hB); (try simp -implicitDefEqProofs [qc_44]))
 refine callK_fn hc (fun h => by cases h) ?_
 ((try simp -implicitDefEqProofs [hb, hk, hK]); repeat' first | ((with_reducible first | apply gdK_em | apply cdK_em | apply pickK_em) <;> (intro hc; have hc' := hc; (try simp at hc'); simp -implicitDefEqProofs [hc, hc', hb, hk, hK])))
 have hkk : K[k] = rows.length := by simpa [hk] using hK
 refine ⟨⟨hkk, by unfold maxLen; omega, by omega⟩, LeBs.setR ?_ b hok, LeNs.refl _⟩
 simp [leB, LeL, leC, okNs, okN, hb, hk]

theorem Inv.grown {g : Gh} {S : St} {w w' : World} (h : Inv g S w) (h1 : w'.os = w.os) (h2 : w'.tape = w.tape) (h3 : w'.output = w.output) (h4 : w.heap.size ≤ w'.heap.size) (h5 : ∀ k, k < w.heap.size → w'.heap[k]? = w.heap[k]?) : Mv g S w g S w' := by
 refine ⟨⟨fun b o c hc => ?_, h.len, h.nodup, fun i blk bx hi hbx => ?_, h.sep, h.bwr, h.tlen, fun k n blk e z cap hk hn => ?_, h.tnil, h.tdis, Nat.le_trans h.lo h4, fun i blk hi => Nat.lt_of_lt_of_le (h.bold i blk hi) h4, h.lay, h.lszOf fun b hb _ => h5 b hb⟩, Ext.refl _ _, ⟨h1, h2, h3, h4, fun k hk _ => h5 k (Nat.lt_of_lt_of_le hk h.lo)⟩⟩
 ·rw [cell_old (h5 b (h.Ilt hc))]
  exact h.imm b o c hc
 ·exact (h.box i blk bx hi hbx).mono (Ext.refl _ _) hi (h5 blk (h.bold i blk hi))
 ·obtain ⟨q1, q2, q3, q4, hlt⟩ := h.tok k n blk e z cap hk hn
  exact ⟨q1.imp id fun ⟨cur, a, r⟩ => ⟨cur, by rw [h5 blk hlt]; exact a, r⟩, q2, q3, q4, Nat.lt_of_lt_of_le hlt h4⟩

theorem Inv.killTok {g : Gh} {S : St} {w w' : World} (h : Inv g S w) (k n blk : Nat) (e : TypeId) (z cap : Nat) (hτ : g.τ[k]? = some (some (blk, e, z, cap))) (hn : S.toks[k]? = some n) (hle : n ≤ maxLen)
  (h1 : w'.os = w.os) (h2 : w'.tape = w.tape) (h3 : w'.output = w.output) (h4 : w'.heap.size = w.heap.size) (h5 : ∀ k, k ≠ blk → w'.heap[k]? = w.heap[k]?)
  (h6 : ∀ cur ty fz, w.heap[blk]? = some (.cells cur ty fz) → ∃ fz', w'.heap[blk]? = some (.cells cur ty fz')) :
  Mv g S w g ⟨S.boxes, S.toks.set k (maxLen + 1)⟩ w' := by
 have hkl : k < S.toks.length := (List.getElem?_eq_some_iff.1 hn).1
 have hext : Ext g S.toks g (S.toks.set k (maxLen + 1)) := by
  refine ⟨fun _ _ _ h => h, fun _ _ h => h, fun i m hm => ?_, rfl, rfl, fun _ _ _ h => .inl h, fun _ _ _ => rfl⟩
  by_cases hi : i = k
  ·subst hi
   rw [hn] at hm; cases hm
   exact ⟨maxLen + 1, by simp [hkl], by omega, fun _ => rfl⟩
  ·exact ⟨m, by rw [List.getElem?_set_ne (Ne.symm hi)]; exact hm, Nat.le_refl _, fun _ => rfl⟩
 obtain ⟨t1, t2, t3, t4, t5⟩ := h.tok k n blk e z cap hτ hn
 have hcell : ∀ b o, w'.cell? ⟨b, o, none⟩ = w.cell? ⟨b, o, none⟩ := by
  intro b o
  by_cases hb : b = blk
  ·subst hb
   rcases t1 with t1 | ⟨cur, q1, _⟩
   ·omega
   ·obtain ⟨fz', q2⟩ := h6 cur e _ q1
    simp [World.cell?, q1, q2]
  ·exact cell_old (h5 b hb)
 refine ⟨⟨fun b o c hc => by rw [hcell]; exact h.imm b o c hc, h.len, h.nodup, fun i b bx hi hbx => ?_, h.sep, h.bwr, by simp [h.tlen], fun i m b e' z' cap' hk hm => ?_, fun i m hk hm => ?_, h.tdis, by rw [h4]; exact h.lo, fun i b hi => by rw [h4]; exact h.bold i b hi, h.lay, fun b c hc => ?_⟩, hext, ⟨h1, h2, h3, by omega, fun b hb1 hb2 => h5 b ?_⟩⟩
 ·exact (h.box i b bx hi hbx).mono hext hi (h5 b fun heq => t3 (by rw [← heq]; exact List.mem_of_getElem? hi))
 ·by_cases hi : i = k
  ·subst hi
   rw [hτ] at hk; cases hk
   simp [hkl] at hm
   subst hm
   exact ⟨.inl (by omega), fun o ho => t2 o (Nat.le_trans (Nat.mul_le_mul_right _ (by omega)) ho), t3, t4, by rw [h4]; exact t5⟩
  ·rw [List.getElem?_set_ne (Ne.symm hi)] at hm
   obtain ⟨q1, q2, q3, q4, q5⟩ := h.tok i m b e' z' cap' hk hm
   have hb : b ≠ blk := fun heq => hi (h.tdis i k _ _ hk hτ (by simpa using heq))
   exact ⟨q1.imp id fun ⟨cur, a, r⟩ => ⟨cur, by rw [h5 b hb]; exact a, r⟩, q2, q3, q4, by rw [h4]; exact q5⟩
 ·by_cases hi : i = k
  ·subst hi; rw [hτ] at hk; cases hk
  ·rw [List.getElem?_set_ne (Ne.symm hi)] at hm
   exact h.tnil i m hk hm
 ·obtain ⟨cs, ty, fz, q1, q2⟩ := h.lsz b c hc
  by_cases hb : b = blk
  ·subst hb
   obtain ⟨fz', q3⟩ := h6 cs ty fz q1
   exact ⟨cs, ty, fz', q3, q2⟩
  ·exact ⟨cs, ty, fz, (h5 b hb).trans q1, q2⟩
 ·intro heq
  subst heq
  rcases t4 with t4 | t4
  ·omega
  ·exact hb2 t4
end E
end Go.Proofs.YtpggidmbnjfmaaaGreatDoor
