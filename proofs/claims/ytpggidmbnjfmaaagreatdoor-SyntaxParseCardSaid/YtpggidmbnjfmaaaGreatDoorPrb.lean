/- Chapter 32: Print. -/
import Derived.Test.YtpggidmbnjfmaaaGreatDoorPra
import Derived.Test.YtpggidmbnjfmaaaGreatDoorBld
import Derived.Test.YtpggidmbnjfmaaaGreatDoorIto
import Derived.Test.YtpggidmbnjfmaaaGreatDoorSye
import Derived.Test.YtpggidmbnjfmaaaGreatDoorCodeD
set_option linter.unusedSimpArgs false
set_option linter.unusedVariables false
set_option maxHeartbeats 4000000
set_option maxRecDepth 8000
namespace Go.Proofs.YtpggidmbnjfmaaaGreatDoor
open E

theorem okNs_allP {nb nt : Nat} {l : List V} (h : ∀ v ∈ l, okN nb nt v = true) : okNs nb nt l = true := by
 induction l with
 | nil => rfl
 | cons x l ih => simp [okNs, h x (by simp), ih fun v hv => h v (by simp [hv])]
def pbX (t : List UInt8) : Bx := if t = [] then .buf 117 0 [.t .nilp, .snil] else .buf 117 0 [.ptr 0 0, .own 0 5 1 (strR t)]
def pbK (t : List UInt8) : List Nat := if t = [] then [] else [t.length]
theorem pb_strR_append (a b : List UInt8) : strR (a ++ b) = strR a ++ strR b := by simp [strR]
theorem pb_strR_length (a : List UInt8) : (strR a).length = a.length := by simp [strR]
theorem leB_pbX (t : List UInt8) (n m : Nat) (hn : 1 ≤ n) (hm : (pbK t).length ≤ m) : leB n m (pbX t) (pbX t) := by
 unfold pbX pbK at *
 split
 ·exact ⟨rfl, rfl, LeL_refl _, rfl⟩
 ·rename_i h
  rw [if_neg h] at hm
  simp at hm
  exact ⟨rfl, rfl, LeL_refl _, by simp [okNs, okN]; omega⟩
theorem w_pWS (t l : List UInt8) (hl0 : l ≠ []) (hl : t.length + l.length ≤ 10000000000) (X : List Bx) (hX : ∀ n m, LeBs n m X X) :
  FnS Tryz.prog 42 [.ptr 0 0, vS l] ⟨pbX t :: X, pbK t⟩ (.tup [vI l.length, .t .nili]) ⟨pbX (t ++ l) :: X, pbK (t ++ l)⟩ := by
 have hne : t ++ l ≠ [] := fun q => hl0 (List.append_eq_nil_iff.1 q).2
 by_cases h0 : t = []
 ·subst h0
  have e1 : pbX [] = .buf 117 0 [.t .nilp, .snil] := rfl
  have e2 : pbK [] = [] := rfl
  rw [e1, e2, List.nil_append]
  unfold pbX pbK
  rw [if_neg hl0, if_neg hl0]
  have hc := w_check 0 (.t .nilp) .snil ⟨.buf 117 0 [.t .nilp, .snil] :: X, []⟩ (.inl rfl) rfl
  simp only [List.set_cons_zero] at hc
  simp only [List.length_nil, Nat.zero_add] at hl
  (refine FnS.of_code mix Tryz.call42 k_42 (by simp) (fun hB => ?_); (try simp at hB); (try simp -implicitDefEqProofs [qc_42]))
  refine callK_fn hc (fun h => by cases h) ?_
  (try simp -implicitDefEqProofs)
  refine ⟨⟨by unfold maxLen; omega, by omega⟩, ?_⟩
  exact hX _ _
 ·have h := w_WS 0 0 (.ptr 0 0) (strR t) l (pbX t :: X) (pbK t) (.inr rfl) (by unfold pbX; rw [if_neg h0]; rfl) (by unfold pbK; rw [if_neg h0, pb_strR_length]; rfl) (by rw [pb_strR_length]; exact hl) (by
   refine ⟨leB_pbX t _ _ (by simp) (Nat.le_refl _), hX _ _⟩)
  have e1 : pbX (t ++ l) = .buf 117 0 [.ptr 0 0, .own 0 5 1 (strR t ++ strR l)] := by unfold pbX; rw [if_neg hne, pb_strR_append]
  have e2 : pbK (t ++ l) = (pbK t).set 0 ((strR t).length + l.length) := by unfold pbK; rw [if_neg hne, if_neg h0, pb_strR_length]; simp
  rw [e1, e2]
  simpa using h
theorem w_pLen (t : List UInt8) (h : t ≠ []) (hl : t.length ≤ 10000000000) : FnS Tryz.prog 56 [.ptr 0 0] ⟨[pbX t], pbK t⟩ (vI t.length) ⟨[pbX t], pbK t⟩ := by
 have e1 : pbX t = .buf 117 0 [.ptr 0 0, .own 0 5 1 (strR t)] := by unfold pbX; rw [if_neg h]
 have e2 : pbK t = [t.length] := by unfold pbK; rw [if_neg h]
 have e3 := pb_strR_length t
 rw [e1, e2]
 generalize strR t = r at *
 (refine FnS.of_code mix Tryz.call56 k_56 (by simp) (fun hB => ?_); (try simp at hB); (try simp -implicitDefEqProofs [qc_56]))
 (try simp -implicitDefEqProofs [e3])
theorem w_pLen0 : FnS Tryz.prog 56 [.ptr 0 0] ⟨[pbX []], pbK []⟩ (vI 0) ⟨[pbX []], pbK []⟩ := by
 have e1 : pbX [] = .buf 117 0 [.t .nilp, .snil] := rfl
 have e2 : pbK [] = [] := rfl
 rw [e1, e2]
 (refine FnS.of_code mix Tryz.call56 k_56 (by simp) (fun hB => ?_); (try simp at hB); (try simp -implicitDefEqProofs [qc_56]))
 (try simp -implicitDefEqProofs)
theorem w_pString0 : FnS Tryz.prog 45 [.ptr 0 0] ⟨[pbX []], pbK []⟩ (vS []) ⟨[pbX []], pbK []⟩ := by
 refine ⟨Tryz.call45, fun g w us hI hus hrel => ?_⟩
 rw [args1 hus]
 have hr0 := hrel 0 (by simp)
 simp only [List.getD_cons_zero] at hr0
 generalize us.getD 0 undef = u0 at hr0
 cases hr0 with
 | ptr _ _ blk hβ =>
  obtain ⟨vp, vv, hh, rp, rv⟩ := bld_box hI hβ (show ([pbX []] : List Bx)[0]? = some (.buf 117 0 [.t .nilp, .snil]) from rfl)
  cases rv with
  | snil =>
   refine (str_nil blk vp w hh).mono ?_
   rintro e w' ⟨rfl, rfl⟩
   exact ⟨_, g, rfl, .t _ _ (.str _), Mv.drew hI⟩
theorem w_pString (t : List UInt8) (h : t ≠ []) : FnS Tryz.prog 45 [.ptr 0 0] ⟨[pbX t], pbK t⟩ (vS t) ⟨[pbX t], (pbK t).set 0 (maxLen + 1)⟩ := by
 have := w_String 0 0 (.ptr 0 0) t [pbX t] (pbK t) (by unfold pbX; rw [if_neg h]; rfl) (by unfold pbK; rw [if_neg h]; rfl)
 rwa [if_neg h] at this
def hdR (r : Rul) : List UInt8 := [114, 117, 108, 101, 32] ++ (r.name ++ ([32, 101, 97, 99, 104, 32] ++ ((if r.pair then sPair else sEnt) ++ [32, 123, 10])))
def tlR (r : Rul) : List UInt8 := [9, 116, 111, 32] ++ (Lib.itoa r.to ++ [59, 10, 125, 10])
def prS (s : Stm) : List UInt8 := if s.kind = 1 then [9, 108, 101, 116, 32] ++ (s.name ++ [32, 61, 32]) else if s.kind = 2 then [9, 114, 101, 113, 117, 105, 114, 101, 32] else [9, 112, 111, 115, 116, 32] ++ (Lib.itoa s.acc ++ [32])
def tyS (s : Stm) : List UInt8 := prS s ++ (txt (bare s.ex) ++ [59, 10])
theorem txt_flat {α : Type} (f : α → List Pc) (l : List α) : txt (l.flatMap f) = l.flatMap fun x => txt (f x) := by
 induction l with
 | nil => rfl
 | cons x l ih => rw [List.flatMap_cons, txt_append, ih, List.flatMap_cons]
theorem txt_stm (s : Stm) : txt (stmP s) = tyS s := by
 unfold stmP tyS prS
 rw [txt_append, txt_append]
 have : txt [(3, [59]), (0, [10])] = [59, 10] := rfl
 rw [this]
 congr 1
 split
 ·rfl
 ·split
  ·rfl
  ·rfl
theorem txt_rul (r : Rul) : txt (rulP r) = hdR r ++ (r.stmts.flatMap tyS ++ tlR r) := by
 unfold rulP hdR tlR
 rw [txt_append, txt_append, txt_flat]
 have : (fun s => txt (stmP s)) = tyS := funext txt_stm
 rw [this]
 congr 1
def tyR (r : Rul) : List UInt8 := hdR r ++ (r.stmts.flatMap tyS ++ tlR r)
theorem txt_prg (p : List Rul) : txt (prgP p) = p.flatMap tyR := by
 unfold prgP
 rw [txt_flat]
 congr 1
 exact funext txt_rul
theorem leB_sx' (k a : Int) (nm : List UInt8) (x : Xp) (n m : Nat) : leB n m (.cells (vI k :: vI a :: vS nm :: x.c.map V.t)) (.cells (vI k :: vI a :: vS nm :: x.c.map V.t)) := ⟨LeL_refl _, okNs_allP (fun v hv => by
 rcases List.mem_cons.1 hv with rfl | hv
 ·rfl
 rcases List.mem_cons.1 hv with rfl | hv
 ·rfl
 rcases List.mem_cons.1 hv with rfl | hv
 ·rfl
 obtain ⟨t, _, rfl⟩ := List.mem_map.1 hv; rfl)⟩
theorem hdR_ne (r : Rul) : hdR r ≠ [] := by unfold hdR; simp
theorem tyS_len {s : Stm} (h : stmB s = true) (hc : s.ex.cnt ≤ 10000) : (tyS s).length ≤ 600100 ∧ (prS s).length ≤ 50 ∧ (txt (bare s.ex)).length ≤ 600000 := by
 unfold stmB at h
 simp only [Bool.and_eq_true, decide_eq_true_eq] at h
 obtain ⟨⟨hs, _⟩, hp⟩ := h
 have h1 := txt_len (Px.of _ hp)
 have h2 : (prS s).length ≤ 50 := by
  unfold shdB at hs
  unfold prS
  split
  ·rename_i c
   rw [if_pos c] at hs
   simp only [Bool.and_eq_true] at hs
   have := hs.1
   unfold nameB nfB at this
   simp only [Bool.and_eq_true, decide_eq_true_eq] at this
   have := this.1.1.1.2
   simp only [List.length_append, List.length_cons, List.length_nil]; omega
  ·rename_i c
   split
   ·simp
   ·rename_i c2
    rw [if_neg c, if_neg c2] at hs
    split at hs
    ·simp only [Bool.and_eq_true] at hs
     have ha := hs.2
     unfold acB at ha
     simp only [Bool.and_eq_true, decide_eq_true_eq] at ha
     have := itoa_len (v := s.acc) (by omega) (by omega)
     simp only [List.length_append, List.length_cons, List.length_nil]; omega
    ·cases hs
 refine ⟨?_, h2, by omega⟩
 unfold tyS
 simp only [List.length_append, List.length_cons, List.length_nil]; omega
theorem flat_len {α : Type} {f : α → List UInt8} {l : List α} {m : Nat} (h : ∀ x ∈ l, (f x).length ≤ m) : (l.flatMap f).length ≤ l.length * m := by
 induction l with
 | nil => simp
 | cons x l ih =>
  rw [List.flatMap_cons, List.length_append, List.length_cons, Nat.add_mul]
  have h1 := h x (by simp)
  have h2 := ih fun y hy => h y (by simp [hy])
  omega
theorem rul_of {r : Rul} (h : rulB r = true) : nameB r.name = true ∧ r.stmts.length ≤ 30 ∧ (1 ≤ r.to ∧ r.to ≤ 99999) ∧ ∀ s ∈ r.stmts, stmB s = true := by
 unfold rulB at h
 simp only [Bool.and_eq_true, decide_eq_true_eq, List.all_eq_true] at h
 obtain ⟨⟨⟨hn, hl⟩, ht⟩, hs⟩ := h
 unfold acB at ht
 simp only [Bool.and_eq_true, decide_eq_true_eq] at ht
 exact ⟨hn, hl, ht, hs⟩
theorem rul_len {r : Rul} (h : rulB r = true) (hc : ∀ s ∈ r.stmts, s.ex.cnt ≤ 10000) : (tyR r).length ≤ 18010000 ∧ (hdR r).length ≤ 100 ∧ (tlR r).length ≤ 100 ∧ (r.stmts.flatMap tyS).length ≤ 18003000 := by
 obtain ⟨h1, h2, h3, h4⟩ := rul_of h
 unfold nameB nfB at h1
 simp only [Bool.and_eq_true, decide_eq_true_eq] at h1
 have hn := h1.1.1.1.2
 have a1 : (hdR r).length ≤ 100 := by
  unfold hdR
  have : (if r.pair then sPair else sEnt).length ≤ 6 := by split <;> simp [sPair, sEnt]
  simp only [List.length_append, List.length_cons, List.length_nil]; omega
 have a2 : (tlR r).length ≤ 100 := by
  unfold tlR
  have := itoa_len (v := r.to) (by omega) (by omega)
  simp only [List.length_append, List.length_cons, List.length_nil]; omega
 have a3 := flat_len (f := tyS) (l := r.stmts) (m := 600100) fun s hs => (tyS_len (h4 s hs) (hc s hs)).1
 have a4 : r.stmts.length * 600100 ≤ 30 * 600100 := Nat.mul_le_mul_right _ h2
 refine ⟨?_, a1, a2, by omega⟩
 unfold tyR
 simp only [List.length_append]; omega
theorem w_Print (p : List Rul) (hc : ∀ r ∈ p, ∀ s ∈ r.stmts, s.ex.cnt ≤ 10000) (hJ : ∀ r ∈ p, ∀ s ∈ r.stmts, JoinOK s.ex) :
  Pure Tryz.prog 25 [Rul.l p] (.tup [vS (printR p).1, vI (printR p).2]) := by
 have hv := w_Valid p (fun r hr s hs => by have := hc r hr s hs; omega)
 unfold printR
 cases hb : prgB p
 ·rw [hb] at hv
  rw [if_neg (by decide)]
  (refine Pure.of_code mix Tryz.call25 k_25 (by simp) (fun hB => ?_); (try simp at hB); (try simp -implicitDefEqProofs [qc_25]))
  ((try simp at hv); (try simp -implicitDefEqProofs); repeat' first | (with_reducible apply callK_pure <;> first | (simp only [eras, era, eras_map]; first | with_reducible exact hv | simpa using hv) | (simp -implicitDefEqProofs)))
 rw [hb] at hv
 rw [if_pos rfl]
 rw [txt_prg]
 unfold prgB at hb
 simp only [Bool.and_eq_true, List.all_eq_true, decide_eq_true_eq] at hb
 obtain ⟨hrl, hpl⟩ := hb
 obtain ⟨W, hW⟩ : ∃ W : Nat → List UInt8, W = fun k => (p.take k).flatMap tyR := ⟨_, rfl⟩
 have hW0 : W 0 = [] := by rw [hW]; rfl
 have hWe : W p.length = p.flatMap tyR := by rw [hW]; simp
 have hWs : ∀ k (h : k < p.length), W (k + 1) = W k ++ tyR p[k] := fun k h => by rw [hW]; simp only []; rw [take_next (show p[k]? = some p[k] by simp [h]), List.flatMap_append]; simp
 have hWl : ∀ k, k ≤ p.length → (W k).length ≤ k * 18010000 := fun k hk => by
  rw [hW]
  have := flat_len (f := tyR) (l := p.take k) (m := 18010000) fun r hr => (rul_len (hrl r (List.mem_of_mem_take hr)) (hc r (List.mem_of_mem_take hr))).1
  rw [List.length_take, Nat.min_eq_left hk] at this
  exact this
 have hWp : ∀ k, k ≤ p.length → k ≠ 0 → W k ≠ [] := fun k hk h0 => by
  obtain ⟨j, rfl⟩ : ∃ j, k = j + 1 := ⟨k - 1, by omega⟩
  rw [hWs j (by omega)]
  unfold tyR
  intro q
  have := (List.append_eq_nil_iff.1 q).2
  exact hdR_ne _ (List.append_eq_nil_iff.1 this).1
 rw [← hWe]
 clear hW
 (refine Pure.of_code mix Tryz.call25 k_25 (by simp) (fun hB => ?_); (try simp at hB); (try simp -implicitDefEqProofs [qc_25]))
 ((try simp at hv); (try simp -implicitDefEqProofs); repeat' first | (with_reducible apply callK_pure <;> first | (simp only [eras, era, eras_map]; first | with_reducible exact hv | simpa using hv) | (simp -implicitDefEqProofs)))
 refine loop_rule (X := Nat) (fun k => k ≤ p.length) (fun k => [(0, Rul.l p), (4, .ptr 0 0), (13, Rul.l p), (14, vI p.length), (15, vI k)]) (fun k => ⟨[pbX (W k)], pbK (W k)⟩) (fun k => p.length - k) 0 (by simp) (by rw [hW0]; simp [pbX, pbK]) ?_
 rintro k hk hbd
 clear hbd
 rcases Nat.lt_or_ge k p.length with h | h
 ·have hx : p[k]? = some p[k] := by simp [h]
  have e3 : IntKind.i64.wrap ((k : Int) + 1) = (k : Int) + 1 := wrap64 (by omega) (by omega)
  have hrk := hrl _ (List.getElem_mem h)
  have hck := hc _ (List.getElem_mem h)
  have hJk := hJ _ (List.getElem_mem h)
  obtain ⟨r1, r2, r3, r4⟩ := rul_of hrk
  obtain ⟨l1, l2, l3, l4⟩ := rul_len hrk hck
  have hwn := hWs k h
  have hwl := hWl k hk
  obtain ⟨nm, pr, ss, to, hr⟩ : ∃ nm pr ss to, p[k] = ⟨nm, pr, ss, to⟩ := ⟨_, _, _, _, rfl⟩
  have hrc : (p.map Rul.c)[k]? = some [.str nm, .bool pr, .sl (ss.map Stm.c), .int .i64 to] := by simp [h, hr, Rul.c]
  rw [hr] at r1 r2 r3 r4 l1 l2 l3 l4 hwn hck hJk
  simp only [] at r1 r2 r3 r4 l1 l2 l3 l4 hck hJk
  unfold tyR at hwn
  simp only [] at hwn
  have hti := w_itoa to (by omega) (by omega)
  have hkl : k * 18010000 ≤ 40 * 18010000 := Nat.mul_le_mul_right _ (by omega)
  have hcc : Rul.c ⟨nm, pr, ss, to⟩ = [.str nm, .bool pr, .sl (ss.map Stm.c), .int .i64 to] := rfl
  have hX1 : ∀ n m, LeBs n m [.cells [vS nm, vB pr, Stm.l ss, vI to]] [.cells [vS nm, vB pr, Stm.l ss, vI to]] := fun n m => ⟨⟨LeL_refl _, rfl⟩, trivial⟩
  have hw1 := w_pWS (W k) (hdR ⟨nm, pr, ss, to⟩) (hdR_ne _) (by omega) _ hX1
  have hn16 : nm.length ≤ 16 := by
   unfold nameB nfB at r1
   simp only [Bool.and_eq_true, decide_eq_true_eq] at r1
   exact r1.1.1.1.2
  cases pr
  focus
   obtain ⟨z, hz⟩ : ∃ z, z = hdR ⟨nm, false, ss, to⟩ := ⟨_, rfl⟩
   obtain ⟨z2, hz2⟩ : ∃ z, z = tlR ⟨nm, false, ss, to⟩ := ⟨_, rfl⟩
   rw [← hz] at hw1 hwn l2
   rw [← hz2] at hwn l3
   have hz0 : z ≠ [] := by rw [hz]; exact hdR_ne _
   have hz20 : z2 ≠ [] := by rw [hz2]; unfold tlR; simp
   simp [hdR, sEnt] at hz
   simp [tlR] at hz2
   have hz := hz.symm
   have hz2 := hz2.symm
   have hil := itoa_len (v := to) (by omega) (by omega)
   (try simp -implicitDefEqProofs [h, hr, hrc, hcc, hz])
   repeat' (refine And.intro (by ((try simp only [List.length_append, List.length_cons, List.length_nil]); unfold maxLen; omega)) ?_; (try simp -implicitDefEqProofs [h, hr, hrc, hcc, hz]))
   refine callKf hw1 ?_
   (try simp -implicitDefEqProofs)
   refine loop_rule (X := Nat) (fun j => j ≤ ss.length) (fun j => [(0, Rul.l p), (4, .ptr 0 0), (13, Rul.l p), (14, vI p.length), (15, vI k), (6, .ptr 1 0), (30, Stm.l ss), (31, vI ss.length), (32, vI j)])
    (fun j => ⟨[pbX (W k ++ z ++ (ss.take j).flatMap tyS), .cells [vS nm, vB false, Stm.l ss, vI to]], pbK (W k ++ z ++ (ss.take j).flatMap tyS)⟩) (fun j => ss.length - j) 0 (by simp) ?hs ?_
   case hs =>
    have q1 := leB_pbX (W k ++ z) 2 (pbK (W k ++ z)).length (by omega) (Nat.le_refl _)
    have q2 := fun n m => (hX1 n m).1
    simp only [List.take_zero, List.flatMap_nil, List.append_nil]
    generalize pbX (W k ++ z) = bx at *
    generalize pbK (W k ++ z) = bk at *
    simp [LeBs, q1, q2, LeNs.refl]
    exact q1
   rintro j hj hbd
   clear hbd
   rcases Nat.lt_or_ge j ss.length with g | g
   ·have gx : ss[j]? = some ss[j] := by simp [g]
    have e4 : IntKind.i64.wrap ((j : Int) + 1) = (j : Int) + 1 := wrap64 (by omega) (by omega)
    have hsb := r4 _ (List.getElem_mem g)
    have hcj := hck _ (List.getElem_mem g)
    have hJj := hJk _ (List.getElem_mem g)
    obtain ⟨y1, y2, y3⟩ := tyS_len hsb hcj
    have htn : (ss.take (j + 1)).flatMap tyS = (ss.take j).flatMap tyS ++ tyS ss[j] := by rw [take_next gx, List.flatMap_append]; simp
    have htl : ((ss.take j).flatMap tyS).length ≤ 18003000 := by
     have := flat_len (f := tyS) (l := ss.take j) (m := 600100) fun s hs => (tyS_len (r4 s (List.mem_of_mem_take hs)) (hck s (List.mem_of_mem_take hs))).1
     rw [List.length_take, Nat.min_eq_left hj] at this
     omega
    have hlT : (W k ++ z ++ (ss.take j).flatMap tyS).length ≤ 800000000 := by simp only [List.length_append]; omega
    have hTn : W k ++ z ++ (ss.take (j + 1)).flatMap tyS = W k ++ z ++ (ss.take j).flatMap tyS ++ tyS ss[j] := by rw [htn]; simp only [List.append_assoc]
    generalize W k ++ z ++ (ss.take j).flatMap tyS = TT at *
    obtain ⟨kd, acc, sn, x, hs⟩ : ∃ kd acc sn x, ss[j] = ⟨kd, acc, sn, x⟩ := ⟨_, _, _, _, rfl⟩
    have hsk : (ss.map Stm.c)[j]? = some (.int .i64 kd :: .int .i64 acc :: .str sn :: x.c) := by simp [g, hs, Stm.c]
    have hc2 : Stm.c ⟨kd, acc, sn, x⟩ = (.int .i64 kd :: .int .i64 acc :: .str sn :: x.c) := rfl
    rw [hs] at hsb hcj hJj y1 y2 y3 hTn
    try simp only [] at hcj hJj y3
    unfold stmB at hsb
    simp only [Bool.and_eq_true, decide_eq_true_eq] at hsb
    obtain ⟨⟨hsh, _⟩, hpx⟩ := hsb
    have htx := w_txt (Px.of _ hpx) hJj hcj 0
    rw [pcs0] at htx
    have hlx := len_c x
    have htc := take_c x
    have hX2 : ∀ n m, LeBs n m [.cells [vS nm, vB false, Stm.l ss, vI to], .cells (vI kd :: vI acc :: vS sn :: x.c.map V.t)] [.cells [vS nm, vB false, Stm.l ss, vI to], .cells (vI kd :: vI acc :: vS sn :: x.c.map V.t)] := fun n m => ⟨(hX1 n m).1, leB_sx' kd acc sn x n m, trivial⟩
    have hpne : prS ⟨kd, acc, sn, x⟩ ≠ [] := by
     unfold prS
     split
     ·simp
     ·split <;> simp
    have hw2 := w_pWS TT (prS ⟨kd, acc, sn, x⟩) hpne (by omega) _ hX2
    have hw3 := w_pWS (TT ++ prS ⟨kd, acc, sn, x⟩) (txt (bare x) ++ [59, 10]) (by simp) (by simp only [List.length_append, List.length_cons, List.length_nil]; omega) _ hX2
    have hTe : TT ++ prS ⟨kd, acc, sn, x⟩ ++ (txt (bare x) ++ [59, 10]) = W k ++ z ++ (ss.take (j + 1)).flatMap tyS := by rw [hTn, List.append_assoc]; rfl
    rw [hTe] at hw3
    clear hTn hTe htn
    have q9 := fun n m => (hX1 n m).1
    generalize hTT2 : W k ++ z ++ (ss.take (j + 1)).flatMap tyS = T2 at *
    obtain ⟨ps, hps⟩ : ∃ ps, ps = prS ⟨kd, acc, sn, x⟩ := ⟨_, rfl⟩
    rw [← hps] at hw2 hw3 y2
    generalize txt (bare x) = tb at *
    unfold shdB at hsh
    try simp only [] at hsh
    have hkd : kd = 1 ∨ kd = 2 ∨ kd = 3 := by
     by_cases e1 : kd = 1
     ·exact .inl e1
     by_cases e2 : kd = 2
     ·exact .inr (.inl e2)
     by_cases e3 : kd = 3
     ·exact .inr (.inr e3)
     rw [if_neg e1, if_neg e2, if_neg e3] at hsh
     cases hsh
    rcases hkd with rfl | rfl | rfl
    ·simp only [prS, if_true] at hps
     simp at hps
     have hps := hps.symm
     rw [if_pos rfl] at hsh
     simp only [Bool.and_eq_true] at hsh
     have hs16 : sn.length ≤ 16 := by
      have := hsh.1
      unfold nameB nfB at this
      simp only [Bool.and_eq_true, decide_eq_true_eq] at this
      exact this.1.1.1.2
     (try simp -implicitDefEqProofs [g, hs, hsk, hc2, hlx, htc, hps])
     repeat' (refine And.intro (by ((try simp only [List.length_append, List.length_cons, List.length_nil]); unfold maxLen; omega)) ?_; (try simp -implicitDefEqProofs [g, hs, hsk, hc2, hlx, htc, hps]))
     refine callKf hw2 ?_
     ((try simp at htx); (try simp -implicitDefEqProofs [hlx, htc]); repeat' first | (with_reducible apply callK_pure <;> first | (simp only [eras, era, eras_map]; first | with_reducible exact htx | simpa using htx) | (simp -implicitDefEqProofs [hlx, htc])))
     repeat' (refine And.intro (by ((try simp only [List.length_append, List.length_cons, List.length_nil]); unfold maxLen; omega)) ?_; ((try simp at htx); (try simp -implicitDefEqProofs [hlx, htc]); repeat' first | (with_reducible apply callK_pure <;> first | (simp only [eras, era, eras_map]; first | with_reducible exact htx | simpa using htx) | (simp -implicitDefEqProofs [hlx, htc]))))
     refine callKf hw3 ?_
     (try simp -implicitDefEqProofs [e4])
     exact ⟨j + 1, by omega, by omega, ⟨by rw [← List.append_assoc, hTT2]; exact leB_pbX T2 2 _ (by omega) (Nat.le_refl _), by rw [← List.append_assoc, hTT2]; exact LeNs.refl _⟩, by push_cast; rfl⟩
    ·simp only [prS, show ¬ ((2 : Int) = 1) by decide, if_false, if_true] at hps
     have hps := hps.symm
     (try simp -implicitDefEqProofs [g, hs, hsk, hc2, hlx, htc, hps])
     refine callKf hw2 ?_
     ((try simp at htx); (try simp -implicitDefEqProofs [hlx, htc]); repeat' first | (with_reducible apply callK_pure <;> first | (simp only [eras, era, eras_map]; first | with_reducible exact htx | simpa using htx) | (simp -implicitDefEqProofs [hlx, htc])))
     repeat' (refine And.intro (by ((try simp only [List.length_append, List.length_cons, List.length_nil]); unfold maxLen; omega)) ?_; ((try simp at htx); (try simp -implicitDefEqProofs [hlx, htc]); repeat' first | (with_reducible apply callK_pure <;> first | (simp only [eras, era, eras_map]; first | with_reducible exact htx | simpa using htx) | (simp -implicitDefEqProofs [hlx, htc]))))
     refine callKf hw3 ?_
     (try simp -implicitDefEqProofs [e4])
     exact ⟨j + 1, by omega, by omega, ⟨by rw [← List.append_assoc, hTT2]; exact leB_pbX T2 2 _ (by omega) (Nat.le_refl _), by rw [← List.append_assoc, hTT2]; exact LeNs.refl _⟩, by push_cast; rfl⟩
    ·simp only [prS, show ¬ ((3 : Int) = 1) by decide, show ¬ ((3 : Int) = 2) by decide, if_false] at hps
     rw [if_neg (by decide), if_neg (by decide), if_pos rfl] at hsh
     simp only [Bool.and_eq_true] at hsh
     have ha := hsh.2
     unfold acB at ha
     simp only [Bool.and_eq_true, decide_eq_true_eq] at ha
     have hia := w_itoa acc (by omega) (by omega)
     have hil2 := itoa_len (v := acc) (by omega) (by omega)
     simp at hps
     have hps := hps.symm
     generalize Lib.itoa acc = ia at *
     ((try simp at hia); (try simp -implicitDefEqProofs [g, hs, hsk, hc2, hlx, htc, hps]); repeat' first | (with_reducible apply callK_pure <;> first | (simp only [eras, era, eras_map]; first | with_reducible exact hia | simpa using hia) | (simp -implicitDefEqProofs [g, hs, hsk, hc2, hlx, htc, hps])))
     repeat' (refine And.intro (by ((try simp only [List.length_append, List.length_cons, List.length_nil]); unfold maxLen; omega)) ?_; ((try simp at hia); (try simp -implicitDefEqProofs [g, hs, hsk, hc2, hlx, htc, hps]); repeat' first | (with_reducible apply callK_pure <;> first | (simp only [eras, era, eras_map]; first | with_reducible exact hia | simpa using hia) | (simp -implicitDefEqProofs [g, hs, hsk, hc2, hlx, htc, hps]))))
     refine callKf hw2 ?_
     ((try simp at htx); (try simp -implicitDefEqProofs [hlx, htc]); repeat' first | (with_reducible apply callK_pure <;> first | (simp only [eras, era, eras_map]; first | with_reducible exact htx | simpa using htx) | (simp -implicitDefEqProofs [hlx, htc])))
     repeat' (refine And.intro (by ((try simp only [List.length_append, List.length_cons, List.length_nil]); unfold maxLen; omega)) ?_; ((try simp at htx); (try simp -implicitDefEqProofs [hlx, htc]); repeat' first | (with_reducible apply callK_pure <;> first | (simp only [eras, era, eras_map]; first | with_reducible exact htx | simpa using htx) | (simp -implicitDefEqProofs [hlx, htc]))))
     refine callKf hw3 ?_
     (try simp -implicitDefEqProofs [e4])
     exact ⟨j + 1, by omega, by omega, ⟨by rw [← List.append_assoc, hTT2]; exact leB_pbX T2 2 _ (by omega) (Nat.le_refl _), by rw [← List.append_assoc, hTT2]; exact LeNs.refl _⟩, by push_cast; rfl⟩
   ·have : j = ss.length := by omega
    subst this
    have hll : (W k ++ z ++ (ss.take ss.length).flatMap tyS).length ≤ 800000000 := by rw [List.take_length]; simp only [List.length_append]; omega
    have hw4 := w_pWS (W k ++ z ++ (ss.take ss.length).flatMap tyS) z2 hz20 (by omega) _ hX1
    have hTe : W k ++ z ++ (ss.take ss.length).flatMap tyS ++ z2 = W (k + 1) := by rw [hwn, List.take_length]; simp only [List.append_assoc]
    rw [hTe] at hw4
    clear hTe hwn
    generalize W k ++ z ++ (ss.take ss.length).flatMap tyS = TT at *
    generalize hWk : W (k + 1) = T3 at *
    generalize Lib.itoa to = ia at *
    ((try simp at hti); (try simp -implicitDefEqProofs [hz2]); repeat' first | (with_reducible apply callK_pure <;> first | (simp only [eras, era, eras_map]; first | with_reducible exact hti | simpa using hti) | (simp -implicitDefEqProofs [hz2])))
    repeat' (refine And.intro (by ((try simp only [List.length_append, List.length_cons, List.length_nil]); unfold maxLen; omega)) ?_; ((try simp at hti); (try simp -implicitDefEqProofs [hz2]); repeat' first | (with_reducible apply callK_pure <;> first | (simp only [eras, era, eras_map]; first | with_reducible exact hti | simpa using hti) | (simp -implicitDefEqProofs [hz2]))))
    refine callKf hw4 ?_
    (try simp -implicitDefEqProofs [e3])
    refine ⟨k + 1, by omega, by omega, ⟨?_, ?_⟩, by push_cast; rfl⟩
    ·rw [hWk]; exact leB_pbX T3 1 _ (by omega) (Nat.le_refl _)
    ·rw [hWk]; exact LeNs.refl _
  focus
   obtain ⟨z, hz⟩ : ∃ z, z = hdR ⟨nm, true, ss, to⟩ := ⟨_, rfl⟩
   obtain ⟨z2, hz2⟩ : ∃ z, z = tlR ⟨nm, true, ss, to⟩ := ⟨_, rfl⟩
   rw [← hz] at hw1 hwn l2
   rw [← hz2] at hwn l3
   have hz0 : z ≠ [] := by rw [hz]; exact hdR_ne _
   have hz20 : z2 ≠ [] := by rw [hz2]; unfold tlR; simp
   simp [hdR, sPair] at hz
   simp [tlR] at hz2
   have hz := hz.symm
   have hz2 := hz2.symm
   have hil := itoa_len (v := to) (by omega) (by omega)
   (try simp -implicitDefEqProofs [h, hr, hrc, hcc, hz])
   repeat' (refine And.intro (by ((try simp only [List.length_append, List.length_cons, List.length_nil]); unfold maxLen; omega)) ?_; (try simp -implicitDefEqProofs [h, hr, hrc, hcc, hz]))
   refine callKf hw1 ?_
   (try simp -implicitDefEqProofs)
   refine loop_rule (X := Nat) (fun j => j ≤ ss.length) (fun j => [(0, Rul.l p), (4, .ptr 0 0), (13, Rul.l p), (14, vI p.length), (15, vI k), (6, .ptr 1 0), (30, Stm.l ss), (31, vI ss.length), (32, vI j)])
    (fun j => ⟨[pbX (W k ++ z ++ (ss.take j).flatMap tyS), .cells [vS nm, vB true, Stm.l ss, vI to]], pbK (W k ++ z ++ (ss.take j).flatMap tyS)⟩) (fun j => ss.length - j) 0 (by simp) ?hs ?_
   case hs =>
    have q1 := leB_pbX (W k ++ z) 2 (pbK (W k ++ z)).length (by omega) (Nat.le_refl _)
    have q2 := fun n m => (hX1 n m).1
    simp only [List.take_zero, List.flatMap_nil, List.append_nil]
    generalize pbX (W k ++ z) = bx at *
    generalize pbK (W k ++ z) = bk at *
    simp [LeBs, q1, q2, LeNs.refl]
    exact q1
   rintro j hj hbd
   clear hbd
   rcases Nat.lt_or_ge j ss.length with g | g
   ·have gx : ss[j]? = some ss[j] := by simp [g]
    have e4 : IntKind.i64.wrap ((j : Int) + 1) = (j : Int) + 1 := wrap64 (by omega) (by omega)
    have hsb := r4 _ (List.getElem_mem g)
    have hcj := hck _ (List.getElem_mem g)
    have hJj := hJk _ (List.getElem_mem g)
    obtain ⟨y1, y2, y3⟩ := tyS_len hsb hcj
    have htn : (ss.take (j + 1)).flatMap tyS = (ss.take j).flatMap tyS ++ tyS ss[j] := by rw [take_next gx, List.flatMap_append]; simp
    have htl : ((ss.take j).flatMap tyS).length ≤ 18003000 := by
     have := flat_len (f := tyS) (l := ss.take j) (m := 600100) fun s hs => (tyS_len (r4 s (List.mem_of_mem_take hs)) (hck s (List.mem_of_mem_take hs))).1
     rw [List.length_take, Nat.min_eq_left hj] at this
     omega
    have hlT : (W k ++ z ++ (ss.take j).flatMap tyS).length ≤ 800000000 := by simp only [List.length_append]; omega
    have hTn : W k ++ z ++ (ss.take (j + 1)).flatMap tyS = W k ++ z ++ (ss.take j).flatMap tyS ++ tyS ss[j] := by rw [htn]; simp only [List.append_assoc]
    generalize W k ++ z ++ (ss.take j).flatMap tyS = TT at *
    obtain ⟨kd, acc, sn, x, hs⟩ : ∃ kd acc sn x, ss[j] = ⟨kd, acc, sn, x⟩ := ⟨_, _, _, _, rfl⟩
    have hsk : (ss.map Stm.c)[j]? = some (.int .i64 kd :: .int .i64 acc :: .str sn :: x.c) := by simp [g, hs, Stm.c]
    have hc2 : Stm.c ⟨kd, acc, sn, x⟩ = (.int .i64 kd :: .int .i64 acc :: .str sn :: x.c) := rfl
    rw [hs] at hsb hcj hJj y1 y2 y3 hTn
    try simp only [] at hcj hJj y3
    unfold stmB at hsb
    simp only [Bool.and_eq_true, decide_eq_true_eq] at hsb
    obtain ⟨⟨hsh, _⟩, hpx⟩ := hsb
    have htx := w_txt (Px.of _ hpx) hJj hcj 0
    rw [pcs0] at htx
    have hlx := len_c x
    have htc := take_c x
    have hX2 : ∀ n m, LeBs n m [.cells [vS nm, vB true, Stm.l ss, vI to], .cells (vI kd :: vI acc :: vS sn :: x.c.map V.t)] [.cells [vS nm, vB true, Stm.l ss, vI to], .cells (vI kd :: vI acc :: vS sn :: x.c.map V.t)] := fun n m => ⟨(hX1 n m).1, leB_sx' kd acc sn x n m, trivial⟩
    have hpne : prS ⟨kd, acc, sn, x⟩ ≠ [] := by
     unfold prS
     split
     ·simp
     ·split <;> simp
    have hw2 := w_pWS TT (prS ⟨kd, acc, sn, x⟩) hpne (by omega) _ hX2
    have hw3 := w_pWS (TT ++ prS ⟨kd, acc, sn, x⟩) (txt (bare x) ++ [59, 10]) (by simp) (by simp only [List.length_append, List.length_cons, List.length_nil]; omega) _ hX2
    have hTe : TT ++ prS ⟨kd, acc, sn, x⟩ ++ (txt (bare x) ++ [59, 10]) = W k ++ z ++ (ss.take (j + 1)).flatMap tyS := by rw [hTn, List.append_assoc]; rfl
    rw [hTe] at hw3
    clear hTn hTe htn
    have q9 := fun n m => (hX1 n m).1
    generalize hTT2 : W k ++ z ++ (ss.take (j + 1)).flatMap tyS = T2 at *
    obtain ⟨ps, hps⟩ : ∃ ps, ps = prS ⟨kd, acc, sn, x⟩ := ⟨_, rfl⟩
    rw [← hps] at hw2 hw3 y2
    generalize txt (bare x) = tb at *
    unfold shdB at hsh
    try simp only [] at hsh
    have hkd : kd = 1 ∨ kd = 2 ∨ kd = 3 := by
     by_cases e1 : kd = 1
     ·exact .inl e1
     by_cases e2 : kd = 2
     ·exact .inr (.inl e2)
     by_cases e3 : kd = 3
     ·exact .inr (.inr e3)
     rw [if_neg e1, if_neg e2, if_neg e3] at hsh
     cases hsh
    rcases hkd with rfl | rfl | rfl
    ·simp only [prS, if_true] at hps
     simp at hps
     have hps := hps.symm
     rw [if_pos rfl] at hsh
     simp only [Bool.and_eq_true] at hsh
     have hs16 : sn.length ≤ 16 := by
      have := hsh.1
      unfold nameB nfB at this
      simp only [Bool.and_eq_true, decide_eq_true_eq] at this
      exact this.1.1.1.2
     (try simp -implicitDefEqProofs [g, hs, hsk, hc2, hlx, htc, hps])
     repeat' (refine And.intro (by ((try simp only [List.length_append, List.length_cons, List.length_nil]); unfold maxLen; omega)) ?_; (try simp -implicitDefEqProofs [g, hs, hsk, hc2, hlx, htc, hps]))
     refine callKf hw2 ?_
     ((try simp at htx); (try simp -implicitDefEqProofs [hlx, htc]); repeat' first | (with_reducible apply callK_pure <;> first | (simp only [eras, era, eras_map]; first | with_reducible exact htx | simpa using htx) | (simp -implicitDefEqProofs [hlx, htc])))
     repeat' (refine And.intro (by ((try simp only [List.length_append, List.length_cons, List.length_nil]); unfold maxLen; omega)) ?_; ((try simp at htx); (try simp -implicitDefEqProofs [hlx, htc]); repeat' first | (with_reducible apply callK_pure <;> first | (simp only [eras, era, eras_map]; first | with_reducible exact htx | simpa using htx) | (simp -implicitDefEqProofs [hlx, htc]))))
     refine callKf hw3 ?_
     (try simp -implicitDefEqProofs [e4])
     exact ⟨j + 1, by omega, by omega, ⟨by rw [← List.append_assoc, hTT2]; exact leB_pbX T2 2 _ (by omega) (Nat.le_refl _), by rw [← List.append_assoc, hTT2]; exact LeNs.refl _⟩, by push_cast; rfl⟩
    ·simp only [prS, show ¬ ((2 : Int) = 1) by decide, if_false, if_true] at hps
     have hps := hps.symm
     (try simp -implicitDefEqProofs [g, hs, hsk, hc2, hlx, htc, hps])
     refine callKf hw2 ?_
     ((try simp at htx); (try simp -implicitDefEqProofs [hlx, htc]); repeat' first | (with_reducible apply callK_pure <;> first | (simp only [eras, era, eras_map]; first | with_reducible exact htx | simpa using htx) | (simp -implicitDefEqProofs [hlx, htc])))
     repeat' (refine And.intro (by ((try simp only [List.length_append, List.length_cons, List.length_nil]); unfold maxLen; omega)) ?_; ((try simp at htx); (try simp -implicitDefEqProofs [hlx, htc]); repeat' first | (with_reducible apply callK_pure <;> first | (simp only [eras, era, eras_map]; first | with_reducible exact htx | simpa using htx) | (simp -implicitDefEqProofs [hlx, htc]))))
     refine callKf hw3 ?_
     (try simp -implicitDefEqProofs [e4])
     exact ⟨j + 1, by omega, by omega, ⟨by rw [← List.append_assoc, hTT2]; exact leB_pbX T2 2 _ (by omega) (Nat.le_refl _), by rw [← List.append_assoc, hTT2]; exact LeNs.refl _⟩, by push_cast; rfl⟩
    ·simp only [prS, show ¬ ((3 : Int) = 1) by decide, show ¬ ((3 : Int) = 2) by decide, if_false] at hps
     rw [if_neg (by decide), if_neg (by decide), if_pos rfl] at hsh
     simp only [Bool.and_eq_true] at hsh
     have ha := hsh.2
     unfold acB at ha
     simp only [Bool.and_eq_true, decide_eq_true_eq] at ha
     have hia := w_itoa acc (by omega) (by omega)
     have hil2 := itoa_len (v := acc) (by omega) (by omega)
     simp at hps
     have hps := hps.symm
     generalize Lib.itoa acc = ia at *
     ((try simp at hia); (try simp -implicitDefEqProofs [g, hs, hsk, hc2, hlx, htc, hps]); repeat' first | (with_reducible apply callK_pure <;> first | (simp only [eras, era, eras_map]; first | with_reducible exact hia | simpa using hia) | (simp -implicitDefEqProofs [g, hs, hsk, hc2, hlx, htc, hps])))
     repeat' (refine And.intro (by ((try simp only [List.length_append, List.length_cons, List.length_nil]); unfold maxLen; omega)) ?_; ((try simp at hia); (try simp -implicitDefEqProofs [g, hs, hsk, hc2, hlx, htc, hps]); repeat' first | (with_reducible apply callK_pure <;> first | (simp only [eras, era, eras_map]; first | with_reducible exact hia | simpa using hia) | (simp -implicitDefEqProofs [g, hs, hsk, hc2, hlx, htc, hps]))))
     refine callKf hw2 ?_
     ((try simp at htx); (try simp -implicitDefEqProofs [hlx, htc]); repeat' first | (with_reducible apply callK_pure <;> first | (simp only [eras, era, eras_map]; first | with_reducible exact htx | simpa using htx) | (simp -implicitDefEqProofs [hlx, htc])))
     repeat' (refine And.intro (by ((try simp only [List.length_append, List.length_cons, List.length_nil]); unfold maxLen; omega)) ?_; ((try simp at htx); (try simp -implicitDefEqProofs [hlx, htc]); repeat' first | (with_reducible apply callK_pure <;> first | (simp only [eras, era, eras_map]; first | with_reducible exact htx | simpa using htx) | (simp -implicitDefEqProofs [hlx, htc]))))
     refine callKf hw3 ?_
     (try simp -implicitDefEqProofs [e4])
     exact ⟨j + 1, by omega, by omega, ⟨by rw [← List.append_assoc, hTT2]; exact leB_pbX T2 2 _ (by omega) (Nat.le_refl _), by rw [← List.append_assoc, hTT2]; exact LeNs.refl _⟩, by push_cast; rfl⟩
   ·have : j = ss.length := by omega
    subst this
    have hll : (W k ++ z ++ (ss.take ss.length).flatMap tyS).length ≤ 800000000 := by rw [List.take_length]; simp only [List.length_append]; omega
    have hw4 := w_pWS (W k ++ z ++ (ss.take ss.length).flatMap tyS) z2 hz20 (by omega) _ hX1
    have hTe : W k ++ z ++ (ss.take ss.length).flatMap tyS ++ z2 = W (k + 1) := by rw [hwn, List.take_length]; simp only [List.append_assoc]
    rw [hTe] at hw4
    clear hTe hwn
    generalize W k ++ z ++ (ss.take ss.length).flatMap tyS = TT at *
    generalize hWk : W (k + 1) = T3 at *
    generalize Lib.itoa to = ia at *
    ((try simp at hti); (try simp -implicitDefEqProofs [hz2]); repeat' first | (with_reducible apply callK_pure <;> first | (simp only [eras, era, eras_map]; first | with_reducible exact hti | simpa using hti) | (simp -implicitDefEqProofs [hz2])))
    repeat' (refine And.intro (by ((try simp only [List.length_append, List.length_cons, List.length_nil]); unfold maxLen; omega)) ?_; ((try simp at hti); (try simp -implicitDefEqProofs [hz2]); repeat' first | (with_reducible apply callK_pure <;> first | (simp only [eras, era, eras_map]; first | with_reducible exact hti | simpa using hti) | (simp -implicitDefEqProofs [hz2]))))
    refine callKf hw4 ?_
    (try simp -implicitDefEqProofs [e3])
    refine ⟨k + 1, by omega, by omega, ⟨?_, ?_⟩, by push_cast; rfl⟩
    ·rw [hWk]; exact leB_pbX T3 1 _ (by omega) (Nat.le_refl _)
    ·rw [hWk]; exact LeNs.refl _
 ·have : k = p.length := by omega
  subst this
  have hwl := hWl p.length (Nat.le_refl _)
  have hkl : p.length * 18010000 ≤ 40 * 18010000 := Nat.mul_le_mul_right _ hpl
  by_cases h0 : p.length = 0
  ·have hl := w_pLen0
   rw [h0, hW0]
   (try simp -implicitDefEqProofs)
   refine callKf hl ?_
   (try simp -implicitDefEqProofs)
   refine callKf w_pString0 ?_
   (try simp -implicitDefEqProofs)
  ·have hne := hWp p.length (Nat.le_refl _) h0
   have hl := w_pLen (W p.length) hne (by omega)
   have hst := w_pString (W p.length) hne
   generalize W p.length = T3 at *
   by_cases h8 : 8000 < T3.length
   ·have d8 : decide ((8000 : Int) < T3.length) = true := by simp; omega
    have d8' : (8000 : Int) < T3.length := by omega
    rw [if_pos h8]
    (try simp -implicitDefEqProofs)
    refine callKf hl ?_
    (try simp -implicitDefEqProofs [d8, d8'])
   ·have d8 : decide ((8000 : Int) < T3.length) = false := by simp; omega
    have d8' : ¬ (8000 : Int) < T3.length := by omega
    rw [if_neg h8]
    (try simp -implicitDefEqProofs)
    refine callKf hl ?_
    (try simp -implicitDefEqProofs [d8, d8'])
    refine callKf hst ?_
    (try simp -implicitDefEqProofs)
end Go.Proofs.YtpggidmbnjfmaaaGreatDoor
