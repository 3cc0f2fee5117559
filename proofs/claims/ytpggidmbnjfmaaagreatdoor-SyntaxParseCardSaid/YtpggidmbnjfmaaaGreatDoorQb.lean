/- Chapter 32: what the reference's expr and primary lead to; primary. -/
import Derived.Test.YtpggidmbnjfmaaaGreatDoorQa
import Derived.Test.YtpggidmbnjfmaaaGreatDoorPsd
section
set_option linter.unusedSimpArgs false
set_option linter.unusedVariables false
set_option maxHeartbeats 4000000
set_option maxRecDepth 8000
namespace Go.Proofs.YtpggidmbnjfmaaaGreatDoor
open E

def r0 : Xp := .mk 2 0 0 0 [] []
def RdR (f : Nat) (vs : List V) (b : Nat) (L : List Tok) (i : Nat) : Rd Xp → Prop
 | .ok x r => ∃ i', i ≤ i' ∧ i' ≤ L.length ∧ r = L.drop i' ∧ PaF f vs b L i false x.v i' false
 | .er r => ∃ i' y, i ≤ i' ∧ i' ≤ L.length ∧ r = L.drop i' ∧ PaF f vs b L i false (Xp.v y) i' true
def Out (L : List Tok) {α : Type} (i' : Nat) (bd : Bool) (y : α) (res : Rd α) : Prop := (bd = false ∧ res = .ok y (L.drop i')) ∨ (bd = true ∧ res = .er (L.drop i'))
theorem RdR.any {f : Nat} {vs : List V} {b : Nat} {L : List Tok} {i : Nat} {res : Rd Xp} (h : RdR f vs b L i res) : ∃ y i' bd, i ≤ i' ∧ i' ≤ L.length ∧ PaF f vs b L i false (Xp.v y) i' bd ∧ Out L i' bd y res := by
 cases res with
 | ok x r => obtain ⟨i', h1, h2, rfl, h4⟩ := h; exact ⟨x, i', false, h1, h2, h4, .inl ⟨rfl, rfl⟩⟩
 | er r => obtain ⟨i', y, h1, h2, rfl, h4⟩ := h; exact ⟨y, i', true, h1, h2, h4, .inr ⟨rfl, rfl⟩⟩
theorem RdR.of {f : Nat} {vs : List V} {b : Nat} {L : List Tok} {i : Nat} {res : Rd Xp} (h : ∃ y i' bd, i ≤ i' ∧ i' ≤ L.length ∧ PaF f vs b L i false (Xp.v y) i' bd ∧ Out L i' bd y res) : RdR f vs b L i res := by
 obtain ⟨y, i', bd, h1, h2, h3, h4⟩ := h
 rcases h4 with ⟨rfl, rfl⟩ | ⟨rfl, rfl⟩
 ·exact ⟨i', h1, h2, rfl, h3⟩
 ·exact ⟨i', y, h1, h2, rfl, h3⟩
def ExA (b : Nat) (L : List Tok) (k i : Nat) (bd : Bool) (y : Xp) (i2 : Nat) (bd2 : Bool) : Prop := PaF 119 [.ptr b 0, vI k] b L i bd y.v i2 bd2
def PrA (b : Nat) (L : List Tok) (i : Nat) (bd : Bool) (y : Xp) (i2 : Nat) (bd2 : Bool) : Prop := PaF 148 [.ptr b 0] b L i bd y.v i2 bd2
def ExC (b : Nat) (L : List Tok) (n : Nat) : Prop := ∀ (k i : Nat) (res : Rd Xp), 1 ≤ k → k ≤ 8 → par n (.lev k) (L.drop i) = some res → i ≤ L.length → RdR 119 [.ptr b 0, vI k] b L i res
def PmC (b : Nat) (L : List Tok) (n : Nat) : Prop := ∀ (i : Nat) (res : Rd Xp), par n .prm (L.drop i) = some res → i ≤ L.length → RdR 148 [.ptr b 0] b L i res
theorem kf_nil {n k : Nat} (h : ∀ j : Nat, k ≤ j → j < k + n → ((j : Int) = 4 ∨ (j : Int) = 5 ∨ (7 ≤ (j : Int) ∧ (j : Int) ≤ 19) ∨ (j : Int) = 21 ∨ (j : Int) = 22)) : kfF n k [] = 0 := by
 induction n generalizing k with
 | zero => rfl
 | succ n ih => rw [kfF, if_neg (opN_ne k (h k (by omega) (by omega))), ih (fun j h1 h2 => h j (by omega) (by omega))]
theorem kf2 {k : Nat} {s : List UInt8} (h1 : s ≠ opN k) (h2 : s ≠ opN (k + 1 : Nat)) : kfF 2 k s = 0 := by
 rw [kfF, if_neg (fun q => h1 q.symm), kfF, if_neg (fun q => h2 q.symm), kfF]
section
variable {b : Nat} {L : List Tok}
theorem rpr_name (hL : TokL L) {i : Nat} {bd : Bool} (h40 : pk L i bd ≠ [40]) (k1 : kfF 2 10 (pk L i bd) = 0) (k2 : kfF 2 4 (pk L i bd) = 0) (k3 : kfF 2 21 (pk L i bd) = 0) (hk : bd = true ∨ kdT (L.drop i) ≠ 2) :
  PrA b L i bd (.mk 2 0 0 0 ((nmO L i bd).getD []) []) (if (nmO L i bd).isSome then i + 1 else i) (if (nmO L i bd).isSome then bd else true) := by
 intro B K hb hok
 have E := env hb hok
 have hil := hL.len
 have hX : ∀ n m, B.length + [zc].length ≤ n → K.length ≤ m → LeBs n m [zc] [zc] := fun n m _ _ => ⟨leB_zc n m, trivial⟩
 have q1 := (w_rtk0 (b := b) h40).on hb hok (Nat.le_refl _) hX
 have q2 := (w_rkind (b := b) hil (i := i) (bd := bd) (lo := 10) (hi := 11) (by omega) (by omega) (by intro k _ _; omega) (by omega)).on hb hok (Nat.le_refl _) hX
 have q3 := (w_rkind (b := b) hil (i := i) (bd := bd) (lo := 4) (hi := 5) (by omega) (by omega) (by intro k _ _; omega) (by omega)).on hb hok (Nat.le_refl _) hX
 have q4 := (w_rkind (b := b) hil (i := i) (bd := bd) (lo := 21) (hi := 22) (by omega) (by omega) (by intro k _ _; omega) (by omega)).on hb hok (Nat.le_refl _) hX
 have q5 := (w_rname (b := b) hL (i := i) (bd := bd)).on hb hok (Nat.le_refl _) hX
 simp only [Nat.reduceAdd, Nat.reduceSub, k1, k2, k3, Nat.lt_irrefl, if_false] at q2 q3 q4
 have hga := E.ga
 have hc0 := E.c0
 have ht0 := E.t0
 have hln := E.ln
 have hfa := E.fia
 rw [Xp.v, Xp.c_mk]
 have hzc : zc = .cells [vI 0, vI 0, vI 0, vI 0, vS [], .snil] := rfl
 generalize hj : (if (nmO L i bd).isSome then i + 1 else i) = j at *
 generalize hjb : (if (nmO L i bd).isSome then bd else true) = jb at *
 generalize (nmO L i bd).getD [] = nm at *
 rw [hzc] at q1 q2 q3 q4 q5
 have hend : ∀ l, LeBs B.length K.length (B.set b (rX L j jb) ++ l) (B.set b (rX L j jb)) := fun l => hfa L j jb l
 (refine FnS.of_codeW mix Tryz.call148 kw_148 (by simp) (fun hB => ?_); (try simp at hB); (try simp -implicitDefEqProofs [qw_148]))
 (try simp -implicitDefEqProofs [hln])
 refine callKf q1 ?_
 (try simp -implicitDefEqProofs [hln])
 refine callKf q2 ?_
 (try simp -implicitDefEqProofs [hln])
 refine callKf q3 ?_
 (try simp -implicitDefEqProofs [hln])
 refine callKf q4 ?_
 have hrx : ∀ i bd, rX L i bd = .cells [Tok.l L, vI i, vB bd] := fun _ _ => rfl
 have hgx : ∀ l, (B.set b (rX L i bd) ++ l)[b]? = some (.cells [Tok.l L, vI i, vB bd]) := fun l => by rw [hga, hrx]
 rcases hk with rfl | hk
 ·(try simp -implicitDefEqProofs [hln, hgx])
  refine callKf q5 ?_
  (try simp -implicitDefEqProofs [hln, hc0, ht0])
  all_goals exact ⟨hend _, LeNs.refl _⟩
 ·cases bd with
  | true =>
   (try simp -implicitDefEqProofs [hln, hgx])
   refine callKf q5 ?_
   (try simp -implicitDefEqProofs [hln, hc0, ht0])
   all_goals exact ⟨hend _, LeNs.refl _⟩
  | false =>
   rcases Nat.lt_or_ge i L.length with q | q
   ·have hcc : ∀ a c d, Tok.c ⟨a, c, d⟩ = [.int .i64 a, .str c, .int .i64 d] := fun _ _ _ => rfl
    rw [drop_at q] at hk
    have hk' : (L[i].kind == 2) = false := by simpa [kdT] using hk
    generalize hti : L[i] = t at *
    obtain ⟨tk, tx, tf⟩ := t
    simp only [] at hk'
    (try simp -implicitDefEqProofs [hln, hgx, q, hti, hcc, hk'])
    refine callKf q5 ?_
    (try simp -implicitDefEqProofs [hln, hc0, ht0])
    all_goals exact ⟨hend _, LeNs.refl _⟩
   ·have q' : ¬ i < L.length := by omega
    (try simp -implicitDefEqProofs [hln, hgx, q'])
    refine callKf q5 ?_
    (try simp -implicitDefEqProofs [hln, hc0, ht0])
    all_goals exact ⟨hend _, LeNs.refl _⟩
theorem rpr_lpar (hL : TokL L) {i : Nat} (h : pk L i false = [40]) {y : Xp} {i2 i3 : Nat} {b2 b3 : Bool} (hy : ExA b L 1 (i + 1) false y i2 b2) (h3 : needF L [[41]] i2 b2 = (i3, b3)) : PrA b L i false y i3 b3 := by
 intro B K hb hok
 have E := env hb hok
 have hX : ∀ n m, B.length + [zc].length ≤ n → K.length ≤ m → LeBs n m [zc] [zc] := fun n m _ _ => ⟨leB_zc n m, trivial⟩
 have hX2 : ∀ n m, B.length + [zc, .cells (y.c.map V.t)].length ≤ n → K.length ≤ m → LeBs n m [zc, .cells (y.c.map V.t)] [zc, .cells (y.c.map V.t)] := fun n m _ _ => ⟨leB_zc n m, leB_xc y n m, trivial⟩
 have q1 := (w_rtk1 (b := b) hL.len h (by decide)).on hb hok (Nat.le_refl _) hX
 have q2 := PaF.on hy hb hok (Nat.le_refl _) hX
 have q3 := (w_rwant (b := b) hL.len (i := i2) (bd := b2) (s := [41]) (by decide)).on hb hok (Nat.le_refl _) hX2
 rw [h3] at q3
 simp only [] at q3
 have hln := E.ln
 have hc0 := E.c0
 have hc1 := E.c1
 have ht0 := E.t0
 have ht1 := E.t1
 have hend : ∀ l, LeBs B.length K.length (B.set b (rX L i3 b3) ++ l) (B.set b (rX L i3 b3)) := fun l => E.fia L i3 b3 l
 have hly := len_c y
 have hty := take_c y
 have hdy : (y.c.map V.t).drop 6 = [] := List.drop_of_length_le (by simp [hly])
 have hzc : zc = .cells [vI 0, vI 0, vI 0, vI 0, vS [], .snil] := rfl
 rw [hzc] at q1 q2 q3
 (refine FnS.of_codeW mix Tryz.call148 kw_148 (by simp) (fun hB => ?_); (try simp at hB); (try simp -implicitDefEqProofs [qw_148]))
 (try simp -implicitDefEqProofs [hln])
 refine callKf q1 ?_
 (try simp -implicitDefEqProofs [hln])
 refine callKf q2 ?_
 (try simp -implicitDefEqProofs [hln, hc1, ht1, hly, hty, hdy])
 refine callKf q3 ?_
 (try simp -implicitDefEqProofs [hln, hc0, ht0, hc1, ht1, hly, hty, hdy])
 all_goals exact ⟨hend _, LeNs.refl _⟩
theorem rpr_num (hL : TokL L) {i : Nat} (q : i < L.length) (h40 : pk L i false ≠ [40]) (k1 : kfF 2 10 (pk L i false) = 0) (k2 : kfF 2 4 (pk L i false) = 0) (k3 : kfF 2 21 (pk L i false) = 0) (hk : kdT (L.drop i) = 2) :
  PrA b L i false (.mk 1 ((nuO 0 1000000000000 L i false).getD 0) 0 0 [] []) (if (nuO 0 1000000000000 L i false).isSome then i + 1 else i) (if (nuO 0 1000000000000 L i false).isSome then false else true) := by
 intro B K hb hok
 have E := env hb hok
 have hil := hL.len
 have hX : ∀ n m, B.length + [zc].length ≤ n → K.length ≤ m → LeBs n m [zc] [zc] := fun n m _ _ => ⟨leB_zc n m, trivial⟩
 have q1 := (w_rtk0 (b := b) h40).on hb hok (Nat.le_refl _) hX
 have q2 := (w_rkind (b := b) hil (i := i) (bd := false) (lo := 10) (hi := 11) (by omega) (by omega) (by intro k _ _; omega) (by omega)).on hb hok (Nat.le_refl _) hX
 have q3 := (w_rkind (b := b) hil (i := i) (bd := false) (lo := 4) (hi := 5) (by omega) (by omega) (by intro k _ _; omega) (by omega)).on hb hok (Nat.le_refl _) hX
 have q4 := (w_rkind (b := b) hil (i := i) (bd := false) (lo := 21) (hi := 22) (by omega) (by omega) (by intro k _ _; omega) (by omega)).on hb hok (Nat.le_refl _) hX
 have q5 := (w_rnumber (b := b) hL (i := i) (bd := false) 0 1000000000000).on hb hok (Nat.le_refl _) hX
 simp only [Nat.reduceAdd, Nat.reduceSub, k1, k2, k3, Nat.lt_irrefl, if_false] at q2 q3 q4
 have hga := E.ga
 have hc0 := E.c0
 have ht0 := E.t0
 have hln := E.ln
 have hfa := E.fia
 rw [Xp.v, Xp.c_mk]
 have hzc : zc = .cells [vI 0, vI 0, vI 0, vI 0, vS [], .snil] := rfl
 generalize hj : (if (nuO 0 1000000000000 L i false).isSome then i + 1 else i) = j at *
 generalize hjb : (if (nuO 0 1000000000000 L i false).isSome then false else true) = jb at *
 generalize (nuO 0 1000000000000 L i false).getD 0 = nv at *
 rw [hzc] at q1 q2 q3 q4 q5
 have hend : ∀ l, LeBs B.length K.length (B.set b (rX L j jb) ++ l) (B.set b (rX L j jb)) := fun l => hfa L j jb l
 have hrx : ∀ i bd, rX L i bd = .cells [Tok.l L, vI i, vB bd] := fun _ _ => rfl
 have hgx : ∀ l, (B.set b (rX L i false) ++ l)[b]? = some (.cells [Tok.l L, vI i, vB false]) := fun l => by rw [hga, hrx]
 have hcc : ∀ a c d, Tok.c ⟨a, c, d⟩ = [.int .i64 a, .str c, .int .i64 d] := fun _ _ _ => rfl
 rw [drop_at q] at hk
 have hk' : L[i].kind = 2 := hk
 generalize hti : L[i] = t at *
 obtain ⟨tk, tx, tf⟩ := t
 simp only [] at hk'
 subst hk'
 (refine FnS.of_codeW mix Tryz.call148 kw_148 (by simp) (fun hB => ?_); (try simp at hB); (try simp -implicitDefEqProofs [qw_148]))
 (try simp -implicitDefEqProofs [hln])
 refine callKf q1 ?_
 (try simp -implicitDefEqProofs [hln])
 refine callKf q2 ?_
 (try simp -implicitDefEqProofs [hln])
 refine callKf q3 ?_
 (try simp -implicitDefEqProofs [hln])
 refine callKf q4 ?_
 (try simp -implicitDefEqProofs [hln, hgx, q, hti, hcc])
 refine callKf q5 ?_
 (try simp -implicitDefEqProofs [hln, hc0, ht0])
 all_goals exact ⟨hend _, LeNs.refl _⟩
theorem rpr_f1 (hL : TokL L) {k : Nat} (hk : k = 4 ∨ k = 5) {i : Nat} (h : pk L i false = opN k) {y : Xp} {i1 i2 i3 : Nat} {b1 b2 b3 : Bool} (h1 : needF L [[40]] (i + 1) false = (i1, b1)) (hy : ExA b L 1 i1 b1 y i2 b2) (h3 : needF L [[41]] i2 b2 = (i3, b3)) : PrA b L i false (one k y) i3 b3 := by
 intro B K hb hok
 have E := env hb hok
 have hil := hL.len
 have hX : ∀ n m, B.length + [zc].length ≤ n → K.length ≤ m → LeBs n m [zc] [zc] := fun n m _ _ => ⟨leB_zc n m, trivial⟩
 have hX2 : ∀ n m, B.length + [zc, .cells ((one k y).c.map V.t)].length ≤ n → K.length ≤ m → LeBs n m [zc, .cells ((one k y).c.map V.t)] [zc, .cells ((one k y).c.map V.t)] := fun n m _ _ => ⟨leB_zc n m, leB_xc _ n m, trivial⟩
 have q1 := (w_rtk0 (b := b) (s := [40]) (L := L) (i := i) (bd := false) (by rw [h]; rcases hk with rfl | rfl <;> decide)).on hb hok (Nat.le_refl _) hX
 have q2 := (w_rkind (b := b) hil (i := i) (bd := false) (lo := 10) (hi := 11) (by omega) (by omega) (by intro k _ _; omega) (by omega)).on hb hok (Nat.le_refl _) hX
 have q3 := (w_rkind (b := b) hil (i := i) (bd := false) (lo := 4) (hi := 5) (by omega) (by omega) (by intro k _ _; omega) (by omega)).on hb hok (Nat.le_refl _) hX
 rw [h, show kfF (11 + 1 - 10) 10 (opN k) = 0 by rcases hk with rfl | rfl <;> decide] at q2
 rw [h, show kfF (5 + 1 - 4) 4 (opN k) = k by rcases hk with rfl | rfl <;> decide, if_pos (by omega)] at q3
 simp only [Nat.lt_irrefl, if_false] at q2
 have q4 := (w_rwant (b := b) hL.len (i := i + 1) (bd := false) (s := [40]) (by decide)).on hb hok (Nat.le_refl _) hX
 rw [h1] at q4
 have q5 := PaF.on hy hb hok (Nat.le_refl _) hX
 have q6 := (w_rwant (b := b) hL.len (i := i2) (bd := b2) (s := [41]) (by decide)).on hb hok (Nat.le_refl _) hX2
 rw [h3] at q6
 simp only [] at q4 q6
 have h1k := w_rone k y
 have hln := E.ln
 have hc0 := E.c0
 have hc1 := E.c1
 have ht0 := E.t0
 have ht1 := E.t1
 have hend : ∀ l, LeBs B.length K.length (B.set b (rX L i3 b3) ++ l) (B.set b (rX L i3 b3)) := fun l => E.fia L i3 b3 l
 have hly := len_c (one k y)
 have hty := take_c (one k y)
 have hly' := len_c y
 have hty' := take_c y
 have hdy : ((one k y).c.map V.t).drop 6 = [] := List.drop_of_length_le (by simp [hly])
 have hzc : zc = .cells [vI 0, vI 0, vI 0, vI 0, vS [], .snil] := rfl
 rw [hzc] at q1 q2 q3 q4 q5 q6
 have hk0 : (0 : Int) < k := by omega
 have hk0' : 0 < k := by omega
 generalize one k y = z at *
 (refine FnS.of_codeW mix Tryz.call148 kw_148 (by simp) (fun hB => ?_); (try simp at hB); (try simp -implicitDefEqProofs [qw_148]))
 (try simp -implicitDefEqProofs [hln])
 refine callKf q1 ?_
 (try simp -implicitDefEqProofs [hln])
 refine callKf q2 ?_
 (try simp -implicitDefEqProofs [hln])
 refine callKf q3 ?_
 (try simp -implicitDefEqProofs [hln, hk0, hk0'])
 refine callKf q4 ?_
 (try simp -implicitDefEqProofs [hln])
 refine callKf q5 ?_
 ((try simp at h1k); (try simp -implicitDefEqProofs [hln, hc1, ht1, hly, hty, hdy, hly', hty']); repeat' first | (with_reducible apply callK_pure <;> first | (simp only [eras, era, eras_map]; first | with_reducible exact h1k | simpa using h1k) | (simp -implicitDefEqProofs [hln, hc1, ht1, hly, hty, hdy, hly', hty'])))
 refine callKf q6 ?_
 (try simp -implicitDefEqProofs [hln, hc0, ht0, hc1, ht1, hly, hty, hdy])
 all_goals exact ⟨hend _, LeNs.refl _⟩
theorem rpr_f2 (hL : TokL L) {k : Nat} (hk : k = 10 ∨ k = 11) {i : Nat} (h : pk L i false = opN k) {x y : Xp} {i1 i2 i3 i4 i5 : Nat} {b1 b2 b3 b4 b5 : Bool} (h1 : needF L [[40]] (i + 1) false = (i1, b1)) (hx : ExA b L 1 i1 b1 x i2 b2) (h3 : needF L [[44]] i2 b2 = (i3, b3)) (hy : ExA b L 1 i3 b3 y i4 b4) (h5 : needF L [[41]] i4 b4 = (i5, b5)) : PrA b L i false (two k x y) i5 b5 := by
 intro B K hb hok
 have E := env hb hok
 have hil := hL.len
 have hX : ∀ n m, B.length + [zc].length ≤ n → K.length ≤ m → LeBs n m [zc] [zc] := fun n m _ _ => ⟨leB_zc n m, trivial⟩
 have hXx : ∀ (z : Xp), ∀ n m, B.length + [zc, .cells (z.c.map V.t)].length ≤ n → K.length ≤ m → LeBs n m [zc, .cells (z.c.map V.t)] [zc, .cells (z.c.map V.t)] := fun z n m _ _ => ⟨leB_zc n m, leB_xc _ n m, trivial⟩
 have q1 := (w_rtk0 (b := b) (s := [40]) (L := L) (i := i) (bd := false) (by rw [h]; rcases hk with rfl | rfl <;> decide)).on hb hok (Nat.le_refl _) hX
 have q2 := (w_rkind (b := b) hil (i := i) (bd := false) (lo := 10) (hi := 11) (by omega) (by omega) (by intro k _ _; omega) (by omega)).on hb hok (Nat.le_refl _) hX
 rw [h, show kfF (11 + 1 - 10) 10 (opN k) = k by rcases hk with rfl | rfl <;> decide, if_pos (by omega)] at q2
 have q4 := (w_rwant (b := b) hL.len (i := i + 1) (bd := false) (s := [40]) (by decide)).on hb hok (Nat.le_refl _) hX
 rw [h1] at q4
 have q5 := PaF.on hx hb hok (Nat.le_refl _) hX
 have q6 := (w_rwant (b := b) hL.len (i := i2) (bd := b2) (s := [44]) (by decide)).on hb hok (Nat.le_refl _) (hXx x)
 rw [h3] at q6
 have q7 := PaF.on hy hb hok (Nat.le_refl _) (hXx x)
 have q8 := (w_rwant (b := b) hL.len (i := i4) (bd := b4) (s := [41]) (by decide)).on hb hok (Nat.le_refl _) (hXx (two k x y))
 rw [h5] at q8
 simp only [] at q4 q6 q8
 have h2k := w_rtwo k x y
 have hln := E.ln
 have hc0 := E.c0
 have hc1 := E.c1
 have ht0 := E.t0
 have ht1 := E.t1
 have hend : ∀ l, LeBs B.length K.length (B.set b (rX L i5 b5) ++ l) (B.set b (rX L i5 b5)) := fun l => E.fia L i5 b5 l
 have hlz := len_c (two k x y)
 have htz := take_c (two k x y)
 have hlx := len_c x
 have htx := take_c x
 have hly := len_c y
 have hty := take_c y
 have hdx : (x.c.map V.t).drop 6 = [] := List.drop_of_length_le (by simp [hlx])
 have hdz : ((two k x y).c.map V.t).drop 6 = [] := List.drop_of_length_le (by simp [hlz])
 have hzc : zc = .cells [vI 0, vI 0, vI 0, vI 0, vS [], .snil] := rfl
 rw [hzc] at q1 q2 q4 q5 q6 q7 q8
 have hk0 : (0 : Int) < k := by omega
 have hk0' : 0 < k := by omega
 generalize two k x y = z at *
 (refine FnS.of_codeW mix Tryz.call148 kw_148 (by simp) (fun hB => ?_); (try simp at hB); (try simp -implicitDefEqProofs [qw_148]))
 (try simp -implicitDefEqProofs [hln])
 refine callKf q1 ?_
 (try simp -implicitDefEqProofs [hln])
 refine callKf q2 ?_
 (try simp -implicitDefEqProofs [hln, hk0, hk0'])
 refine callKf q4 ?_
 (try simp -implicitDefEqProofs [hln])
 refine callKf q5 ?_
 (try simp -implicitDefEqProofs [hln, hc1, ht1, hlx, htx, hdx])
 refine callKf q6 ?_
 (try simp -implicitDefEqProofs [hln, hc1, ht1, hlx, htx, hdx])
 all_goals (repeat' with_reducible apply And.intro)
 all_goals
  refine callKf q7 ?_
  ((try simp at h2k); (try simp -implicitDefEqProofs [hln, hc1, ht1, hlx, htx, hdx, hly, hty, hlz, htz, hdz]); repeat' first | (with_reducible apply callK_pure <;> first | (simp only [eras, era, eras_map]; first | with_reducible exact h2k | simpa using h2k) | (simp -implicitDefEqProofs [hln, hc1, ht1, hlx, htx, hdx, hly, hty, hlz, htz, hdz])))
  refine callKf q8 ?_
  (try simp -implicitDefEqProofs [hln, hc0, ht0, hc1, ht1, hlz, htz, hdz])
  all_goals exact ⟨hend _, LeNs.refl _⟩
theorem rpr_bal (hL : TokL L) {k : Nat} (hk : k = 21 ∨ k = 22) {i : Nat} (h : pk L i false = opN k) {f t : Int} {i1 i2 i3 i4 i5 : Nat} {b1 b2 b3 b4 b5 : Bool} (h1 : needF L [[40]] (i + 1) false = (i1, b1))
  (hf : (nuO 1 99999 L i1 b1).getD 0 = f ∧ (if (nuO 1 99999 L i1 b1).isSome then i1 + 1 else i1) = i2 ∧ (if (nuO 1 99999 L i1 b1).isSome then b1 else true) = b2) (h3 : needF L [[46, 46]] i2 b2 = (i3, b3))
  (ht : (nuO 1 99999 L i3 b3).getD 0 = t ∧ (if (nuO 1 99999 L i3 b3).isSome then i3 + 1 else i3) = i4 ∧ (if (nuO 1 99999 L i3 b3).isSome then b3 else true) = b4) (h5 : needF L [[41]] i4 b4 = (i5, b5)) : PrA b L i false (.mk k 0 f t [] []) i5 b5 := by
 intro B K hb hok
 have E := env hb hok
 have hil := hL.len
 have hX : ∀ n m, B.length + [zc].length ≤ n → K.length ≤ m → LeBs n m [zc] [zc] := fun n m _ _ => ⟨leB_zc n m, trivial⟩
 have hXx : ∀ (f t : Int), ∀ n m, B.length + [zc, .cells [vI k, vI 0, vI f, vI t, vS [], .snil]].length ≤ n → K.length ≤ m → LeBs n m [zc, .cells [vI k, vI 0, vI f, vI t, vS [], .snil]] [zc, .cells [vI k, vI 0, vI f, vI t, vS [], .snil]] := fun f t n m _ _ => ⟨leB_zc n m, ⟨LeL_refl _, rfl⟩, trivial⟩
 have q1 := (w_rtk0 (b := b) (s := [40]) (L := L) (i := i) (bd := false) (by rw [h]; rcases hk with rfl | rfl <;> decide)).on hb hok (Nat.le_refl _) hX
 have q2 := (w_rkind (b := b) hil (i := i) (bd := false) (lo := 10) (hi := 11) (by omega) (by omega) (by intro k _ _; omega) (by omega)).on hb hok (Nat.le_refl _) hX
 have q3 := (w_rkind (b := b) hil (i := i) (bd := false) (lo := 4) (hi := 5) (by omega) (by omega) (by intro k _ _; omega) (by omega)).on hb hok (Nat.le_refl _) hX
 have q3' := (w_rkind (b := b) hil (i := i) (bd := false) (lo := 21) (hi := 22) (by omega) (by omega) (by intro k _ _; omega) (by omega)).on hb hok (Nat.le_refl _) hX
 rw [h, show kfF (11 + 1 - 10) 10 (opN k) = 0 by rcases hk with rfl | rfl <;> decide] at q2
 rw [h, show kfF (5 + 1 - 4) 4 (opN k) = 0 by rcases hk with rfl | rfl <;> decide] at q3
 rw [h, show kfF (22 + 1 - 21) 21 (opN k) = k by rcases hk with rfl | rfl <;> decide, if_pos (by omega)] at q3'
 simp only [Nat.lt_irrefl, if_false] at q2 q3
 have q4 := (w_rwant (b := b) hL.len (i := i + 1) (bd := false) (s := [40]) (by decide)).on hb hok (Nat.le_refl _) hX
 rw [h1] at q4
 have q5 := (w_rnumber (b := b) hL (i := i1) (bd := b1) 1 99999).on hb hok (Nat.le_refl _) hX
 rw [hf.1, hf.2.1, hf.2.2] at q5
 have q6 := (w_rwant (b := b) hL.len (i := i2) (bd := b2) (s := [46, 46]) (by decide)).on hb hok (Nat.le_refl _) (hXx f 0)
 rw [h3] at q6
 have q7 := (w_rnumber (b := b) hL (i := i3) (bd := b3) 1 99999).on hb hok (Nat.le_refl _) (hXx f 0)
 rw [ht.1, ht.2.1, ht.2.2] at q7
 have q8 := (w_rwant (b := b) hL.len (i := i4) (bd := b4) (s := [41]) (by decide)).on hb hok (Nat.le_refl _) (hXx f t)
 rw [h5] at q8
 simp only [] at q4 q6 q8
 have hln := E.ln
 have hc0 := E.c0
 have hc1 := E.c1
 have ht0 := E.t0
 have ht1 := E.t1
 have hend : ∀ l, LeBs B.length K.length (B.set b (rX L i5 b5) ++ l) (B.set b (rX L i5 b5)) := fun l => E.fia L i5 b5 l
 have hzc : zc = .cells [vI 0, vI 0, vI 0, vI 0, vS [], .snil] := rfl
 rw [hzc] at q1 q2 q3 q3' q4 q5 q6 q7 q8
 have hk0 : (0 : Int) < k := by omega
 have hk0' : 0 < k := by omega
 rw [Xp.v, Xp.c_mk]
 (refine FnS.of_codeW mix Tryz.call148 kw_148 (by simp) (fun hB => ?_); (try simp at hB); (try simp -implicitDefEqProofs [qw_148]))
 (try simp -implicitDefEqProofs [hln])
 refine callKf q1 ?_
 (try simp -implicitDefEqProofs [hln])
 refine callKf q2 ?_
 (try simp -implicitDefEqProofs [hln])
 refine callKf q3 ?_
 (try simp -implicitDefEqProofs [hln])
 refine callK_fn q3' (fun hd => by cases hd) ?_
 (try simp -implicitDefEqProofs [hln, hk0, hk0'])
 refine callKf q4 ?_
 (try simp -implicitDefEqProofs [hln])
 refine callKf q5 ?_
 (try simp -implicitDefEqProofs [hln, hc1, ht1])
 refine callKf q6 ?_
 (try simp -implicitDefEqProofs [hln, hc1, ht1])
 refine callKf q7 ?_
 (try simp -implicitDefEqProofs [hln, hc1, ht1])
 refine callKf q8 ?_
 (try simp -implicitDefEqProofs [hln, hc0, ht0, hc1, ht1])
 all_goals exact ⟨hend _, LeNs.refl _⟩
end
end Go.Proofs.YtpggidmbnjfmaaaGreatDoor
end

/- Chapter 32: the reference's expr. -/
section
set_option linter.unusedSimpArgs false
set_option linter.unusedVariables false
set_option maxHeartbeats 4000000
set_option maxRecDepth 8000
namespace Go.Proofs.YtpggidmbnjfmaaaGreatDoor
open E

inductive Lq (b : Nat) (L : List Tok) (k : Nat) : Nat → Xp → Nat → Bool → Xp → Nat → Bool → Prop where
 | bad (x : Xp) (i : Nat) : Lq b L k 0 x i true x i true
 | stop (x : Xp) (i : Nat) (h1 : ¬ (k = 6 ∧ hdT (L.drop i) = sPer)) (h2 : opT k (hdT (L.drop i)) = none) : Lq b L k 0 x i false x i false
 | per (d : Nat) (x : Xp) (i : Nat) (o : Option Int) (x' : Xp) (i' : Nat) (bd' : Bool) (hk : k = 6) (hp : hdT (L.drop i) = sPer) (hn : nuO 1 1000000000000 L (i + 1) false = o)
   (h : Lq b L k d (perX (o.getD 0) x) (if o.isSome then i + 1 + 1 else i + 1) (if o.isSome then false else true) x' i' bd') : Lq b L k (d + 1) x i false x' i' bd'
 | op (d : Nat) (x : Xp) (i : Nat) (o : Int) (y : Xp) (i2 : Nat) (bd2 : Bool) (x' : Xp) (i' : Nat) (bd' : Bool) (h1 : ¬ (k = 6 ∧ hdT (L.drop i) = sPer)) (h2 : opT k (hdT (L.drop i)) = some o)
   (h3 : ExA b L (k + 1) (i + 1) false y i2 bd2) (h : Lq b L k d (two o x y) i2 bd2 x' i' bd') : Lq b L k (d + 1) x i false x' i' bd'
theorem opT_nil {k : Nat} {o : Int} : ¬ opT k [] = some o := by
 intro h
 unfold opT at h
 split at h <;> simp [sOr, sAnd] at h
theorem lq_ex {b : Nat} {L : List Tok} {k : Nat} (hk : k = 1 ∨ k = 2 ∨ k = 5 ∨ k = 6) : ∀ (m : Nat), (∀ m', m' ≤ m → ExC b L m') → ∀ (x : Xp) (i : Nat) (res : Rd Xp), par m (.lp k x) (L.drop i) = some res → i ≤ L.length →
  ∃ d x' i' bd', Lq b L k d x i false x' i' bd' ∧ i ≤ i' ∧ i' ≤ L.length ∧ Out L i' bd' x' res
 | 0, ih, x, i, res, h, hi => by cases h
 | m + 1, ih, x, i, res, h, hi => by
  have rec1 := fun x i res => lq_ex (b := b) (L := L) hk m (fun m' hm => ih m' (by omega)) x i res
  rw [par] at h
  split at h
  ·rename_i c
   obtain ⟨rfl, c2⟩ := c
   have hlt := drop_hd (by rw [c2]; decide)
   rw [show (L.drop i).tail = L.drop (i + 1) by rw [List.tail_drop]] at h
   obtain ⟨n1, n2⟩ := nuO_num (a := 1) (b := 1000000000000) (L := L) (i := i + 1)
   cases hn : numT 1 1000000000000 (L.drop (i + 1)) with
   | ok v r =>
    rw [hn] at h
    obtain ⟨m1, rfl, m3⟩ := n1 v r hn
    obtain ⟨d, x', i', bd', q1, q2, q3, q4⟩ := rec1 _ (i + 1 + 1) res h (by omega)
    exact ⟨d + 1, x', i', bd', .per d x i (some v) x' i' bd' rfl c2 m1 q1, by omega, q3, q4⟩
   | er r =>
    rw [hn] at h
    obtain ⟨m1, rfl⟩ := n2 r hn
    cases h
    exact ⟨1, _, i + 1, true, .per 0 x i none _ _ _ rfl c2 m1 (.bad _ _), by omega, by omega, .inr ⟨rfl, rfl⟩⟩
  ·rename_i c
   cases ho : opT k (hdT (L.drop i)) with
   | none =>
    rw [ho] at h
    cases h
    exact ⟨0, x, i, false, .stop x i c ho, Nat.le_refl _, hi, .inl ⟨rfl, rfl⟩⟩
   | some o =>
    rw [ho] at h
    have hlt := drop_hd (L := L) (i := i) (fun q => by rw [q] at ho; exact opT_nil ho)
    rw [show (L.drop i).tail = L.drop (i + 1) by rw [List.tail_drop]] at h
    cases hq : par m (.lev (k + 1)) (L.drop (i + 1)) with
    | none => rw [hq] at h; cases h
    | some q =>
     rw [hq] at h
     obtain ⟨y, i2, bd2, r1, r2, r3, r4⟩ := (ih m (by omega) (k + 1) (i + 1) q (by omega) (by omega) hq (by omega)).any
     rcases r4 with ⟨rfl, rfl⟩ | ⟨rfl, rfl⟩
     ·obtain ⟨d, x', i', bd', q1, q2, q3, q4⟩ := rec1 _ i2 res h r2
      exact ⟨d + 1, x', i', bd', .op d x i o y i2 false x' i' bd' c ho r3 q1, by omega, q3, q4⟩
     ·cases h
      exact ⟨1, _, i2, true, .op 0 x i o y i2 true _ _ _ c ho r3 (.bad _ _), by omega, r2, .inr ⟨rfl, rfl⟩⟩
section
variable {b : Nat} {L : List Tok}
theorem ex_prm {k : Nat} (hk : k = 7 ∨ k = 8) {i : Nat} {bd : Bool} (h : k = 7 → pk L i bd ≠ [45]) {y : Xp} {i2 : Nat} {b2 : Bool} (hy : PrA b L i bd y i2 b2) : ExA b L k i bd y i2 b2 := by
 intro B K hb hok
 have E := env hb hok
 have hX : ∀ n m, B.length + [zc].length ≤ n → K.length ≤ m → LeBs n m [zc] [zc] := fun n m _ _ => ⟨leB_zc n m, trivial⟩
 have q2 := PaF.on hy hb hok (Nat.le_refl _) hX
 have hln := E.ln
 have hc0 := E.c0
 have ht0 := E.t0
 have hend : ∀ l, LeBs B.length K.length (B.set b (rX L i2 b2) ++ l) (B.set b (rX L i2 b2)) := fun l => E.fia L i2 b2 l
 have hly := len_c y
 have hty := take_c y
 have hdy : (y.c.map V.t).drop 6 = [] := List.drop_of_length_le (by simp [hly])
 have hzc : zc = .cells [vI 0, vI 0, vI 0, vI 0, vS [], .snil] := rfl
 rcases hk with rfl | rfl
 ·have q1 := (w_rtk0 (b := b) (h rfl)).on hb hok (Nat.le_refl _) hX
  rw [hzc] at q1 q2
  (refine FnS.of_codeW mix Tryz.call119 kw_119 (by simp) (fun hB => ?_); (try simp at hB); (try simp -implicitDefEqProofs [qw_119]))
  (try simp -implicitDefEqProofs [hln])
  refine callKf q1 ?_
  (try simp -implicitDefEqProofs [hln])
  refine callKf q2 ?_
  (try simp -implicitDefEqProofs [hln, hc0, ht0, hly, hty, hdy])
  all_goals exact ⟨hend _, LeNs.refl _⟩
 ·rw [hzc] at q2
  (refine FnS.of_codeW mix Tryz.call119 kw_119 (by simp) (fun hB => ?_); (try simp at hB); (try simp -implicitDefEqProofs [qw_119]))
  (try simp -implicitDefEqProofs [hln])
  refine callKf q2 ?_
  (try simp -implicitDefEqProofs [hln, hc0, ht0, hly, hty, hdy])
  all_goals exact ⟨hend _, LeNs.refl _⟩
theorem ex_one (hL : TokL L) {k : Nat} {o : Int} {tx : List UInt8} (hk : (k = 7 ∧ o = 3 ∧ tx = [45]) ∨ (k = 3 ∧ o = 6 ∧ tx = sNot)) {i : Nat} {bd : Bool} (h : pk L i bd = tx) {y : Xp} {i2 : Nat} {b2 : Bool} (hy : ExA b L k (i + 1) bd y i2 b2) : ExA b L k i bd (one o y) i2 b2 := by
 intro B K hb hok
 have E := env hb hok
 have hX : ∀ n m, B.length + [zc].length ≤ n → K.length ≤ m → LeBs n m [zc] [zc] := fun n m _ _ => ⟨leB_zc n m, trivial⟩
 have htx : tx ≠ [] := by rcases hk with ⟨_, _, rfl⟩ | ⟨_, _, rfl⟩ <;> decide
 have q1 := (w_rtk1 (b := b) hL.len h htx).on hb hok (Nat.le_refl _) hX
 have q2 := PaF.on hy hb hok (Nat.le_refl _) hX
 have h1k := w_rone o y
 have hln := E.ln
 have hc0 := E.c0
 have ht0 := E.t0
 have hend : ∀ l, LeBs B.length K.length (B.set b (rX L i2 b2) ++ l) (B.set b (rX L i2 b2)) := fun l => E.fia L i2 b2 l
 have hly := len_c y
 have hty := take_c y
 have hlz := len_c (one o y)
 have htz := take_c (one o y)
 have hdz : ((one o y).c.map V.t).drop 6 = [] := List.drop_of_length_le (by simp [hlz])
 have hzc : zc = .cells [vI 0, vI 0, vI 0, vI 0, vS [], .snil] := rfl
 rw [hzc] at q1 q2
 generalize one o y = z at *
 rcases hk with ⟨rfl, rfl, rfl⟩ | ⟨rfl, rfl, rfl⟩
 ·(refine FnS.of_codeW mix Tryz.call119 kw_119 (by simp) (fun hB => ?_); (try simp at hB); (try simp -implicitDefEqProofs [qw_119]))
  (try simp -implicitDefEqProofs [hln])
  refine callKf q1 ?_
  (try simp -implicitDefEqProofs [hln])
  refine callKf q2 ?_
  ((try simp at h1k); (try simp -implicitDefEqProofs [hln, hc0, ht0, hly, hty, hlz, htz, hdz]); repeat' first | (with_reducible apply callK_pure <;> first | (simp only [eras, era, eras_map]; first | with_reducible exact h1k | simpa using h1k) | (simp -implicitDefEqProofs [hln, hc0, ht0, hly, hty, hlz, htz, hdz])))
  all_goals exact ⟨hend _, LeNs.refl _⟩
 ·unfold sNot at q1
  (refine FnS.of_codeW mix Tryz.call119 kw_119 (by simp) (fun hB => ?_); (try simp at hB); (try simp -implicitDefEqProofs [qw_119]))
  (try simp -implicitDefEqProofs [hln])
  refine callKf q1 ?_
  (try simp -implicitDefEqProofs [hln])
  refine callKf q2 ?_
  ((try simp at h1k); (try simp -implicitDefEqProofs [hln, hc0, ht0, hly, hty, hlz, htz, hdz]); repeat' first | (with_reducible apply callK_pure <;> first | (simp only [eras, era, eras_map]; first | with_reducible exact h1k | simpa using h1k) | (simp -implicitDefEqProofs [hln, hc0, ht0, hly, hty, hlz, htz, hdz])))
  all_goals exact ⟨hend _, LeNs.refl _⟩
theorem ex_3 {i : Nat} {bd : Bool} (h : pk L i bd ≠ sNot) {y : Xp} {i2 : Nat} {b2 : Bool} (hy : ExA b L 4 i bd y i2 b2) : ExA b L 3 i bd y i2 b2 := by
 intro B K hb hok
 have E := env hb hok
 have hX : ∀ n m, B.length + [zc].length ≤ n → K.length ≤ m → LeBs n m [zc] [zc] := fun n m _ _ => ⟨leB_zc n m, trivial⟩
 have q1 := (w_rtk0 (b := b) h).on hb hok (Nat.le_refl _) hX
 have q2 := PaF.on hy hb hok (Nat.le_refl _) hX
 have hln := E.ln
 have hc0 := E.c0
 have ht0 := E.t0
 have hend : ∀ l, LeBs B.length K.length (B.set b (rX L i2 b2) ++ l) (B.set b (rX L i2 b2)) := fun l => E.fia L i2 b2 l
 have hly := len_c y
 have hty := take_c y
 have hdy : (y.c.map V.t).drop 6 = [] := List.drop_of_length_le (by simp [hly])
 have hzc : zc = .cells [vI 0, vI 0, vI 0, vI 0, vS [], .snil] := rfl
 rw [hzc] at q1 q2
 unfold sNot at q1
 (refine FnS.of_codeW mix Tryz.call119 kw_119 (by simp) (fun hB => ?_); (try simp at hB); (try simp -implicitDefEqProofs [qw_119]))
 (try simp -implicitDefEqProofs [hln])
 refine callKf q1 ?_
 (try simp -implicitDefEqProofs [hln])
 refine callKf q2 ?_
 (try simp -implicitDefEqProofs [hln, hc0, ht0, hly, hty, hdy])
 all_goals exact ⟨hend _, LeNs.refl _⟩
theorem ex_4 (hL : TokL L) {i : Nat} {bd : Bool} {x : Xp} {i1 : Nat} {b1 : Bool} (hx : ExA b L 5 i bd x i1 b1) (h : kfF 6 14 (pk L i1 b1) = 0) : ExA b L 4 i bd x i1 b1 := by
 intro B K hb hok
 have E := env hb hok
 have hil := hL.len
 have hX : ∀ n m, B.length + [zc].length ≤ n → K.length ≤ m → LeBs n m [zc] [zc] := fun n m _ _ => ⟨leB_zc n m, trivial⟩
 have hXx : ∀ (z : Xp), ∀ n m, B.length + [zc, .cells (z.c.map V.t)].length ≤ n → K.length ≤ m → LeBs n m [zc, .cells (z.c.map V.t)] [zc, .cells (z.c.map V.t)] := fun z n m _ _ => ⟨leB_zc n m, leB_xc _ n m, trivial⟩
 have q1 := PaF.on hx hb hok (Nat.le_refl _) hX
 have q2 := (w_rkind (b := b) hil (i := i1) (bd := b1) (lo := 14) (hi := 19) (by omega) (by omega) (by intro k _ _; omega) (by omega)).on hb hok (Nat.le_refl _) (hXx x)
 rw [show 19 + 1 - 14 = 6 from rfl, h] at q2
 simp only [Nat.lt_irrefl, if_false] at q2
 have hln := E.ln
 have hc0 := E.c0
 have ht0 := E.t0
 have hc1 := E.c1
 have ht1 := E.t1
 have hend : ∀ l, LeBs B.length K.length (B.set b (rX L i1 b1) ++ l) (B.set b (rX L i1 b1)) := fun l => E.fia L i1 b1 l
 have hlx := len_c x
 have htx := take_c x
 have hdx : (x.c.map V.t).drop 6 = [] := List.drop_of_length_le (by simp [hlx])
 have hzc : zc = .cells [vI 0, vI 0, vI 0, vI 0, vS [], .snil] := rfl
 rw [hzc] at q1 q2
 (refine FnS.of_codeW mix Tryz.call119 kw_119 (by simp) (fun hB => ?_); (try simp at hB); (try simp -implicitDefEqProofs [qw_119]))
 (try simp -implicitDefEqProofs [hln])
 refine callKf q1 ?_
 (try simp -implicitDefEqProofs [hln, hc1, ht1, hlx, htx, hdx])
 refine callKf q2 ?_
 (try simp -implicitDefEqProofs [hln, hc0, ht0, hc1, ht1, hlx, htx, hdx])
 all_goals exact ⟨hend _, LeNs.refl _⟩
theorem ex_4o (hL : TokL L) {i : Nat} {bd : Bool} {x y : Xp} {i1 i2 : Nat} {b1 b2 : Bool} (hx : ExA b L 5 i bd x i1 b1) {k : Nat} (h : kfF 6 14 (pk L i1 b1) = k) (hk : 0 < k) (hy : ExA b L 5 (i1 + 1) b1 y i2 b2) : ExA b L 4 i bd (two k x y) i2 b2 := by
 intro B K hb hok
 have E := env hb hok
 have hil := hL.len
 have hX : ∀ n m, B.length + [zc].length ≤ n → K.length ≤ m → LeBs n m [zc] [zc] := fun n m _ _ => ⟨leB_zc n m, trivial⟩
 have hXx : ∀ (z : Xp), ∀ n m, B.length + [zc, .cells (z.c.map V.t)].length ≤ n → K.length ≤ m → LeBs n m [zc, .cells (z.c.map V.t)] [zc, .cells (z.c.map V.t)] := fun z n m _ _ => ⟨leB_zc n m, leB_xc _ n m, trivial⟩
 have q1 := PaF.on hx hb hok (Nat.le_refl _) hX
 have q2 := (w_rkind (b := b) hil (i := i1) (bd := b1) (lo := 14) (hi := 19) (by omega) (by omega) (by intro k _ _; omega) (by omega)).on hb hok (Nat.le_refl _) (hXx x)
 rw [show 19 + 1 - 14 = 6 from rfl, h, if_pos hk] at q2
 have q3 := PaF.on hy hb hok (Nat.le_refl _) (hXx x)
 have h2k := w_rtwo k x y
 have hln := E.ln
 have hc0 := E.c0
 have ht0 := E.t0
 have hc1 := E.c1
 have ht1 := E.t1
 have hend : ∀ l, LeBs B.length K.length (B.set b (rX L i2 b2) ++ l) (B.set b (rX L i2 b2)) := fun l => E.fia L i2 b2 l
 have hlx := len_c x
 have htx := take_c x
 have hdx : (x.c.map V.t).drop 6 = [] := List.drop_of_length_le (by simp [hlx])
 have hly := len_c y
 have hty := take_c y
 have hlz := len_c (two k x y)
 have htz := take_c (two k x y)
 have hdz : ((two k x y).c.map V.t).drop 6 = [] := List.drop_of_length_le (by simp [hlz])
 have hzc : zc = .cells [vI 0, vI 0, vI 0, vI 0, vS [], .snil] := rfl
 rw [hzc] at q1 q2 q3
 generalize two k x y = z at *
 have hk0 : (0 : Int) < k := by omega
 (refine FnS.of_codeW mix Tryz.call119 kw_119 (by simp) (fun hB => ?_); (try simp at hB); (try simp -implicitDefEqProofs [qw_119]))
 (try simp -implicitDefEqProofs [hln])
 refine callKf q1 ?_
 (try simp -implicitDefEqProofs [hln, hc1, ht1, hlx, htx, hdx])
 refine callKf q2 ?_
 (try simp -implicitDefEqProofs [hln, hk0, hk, hc1, ht1, hlx, htx, hdx])
 all_goals (repeat' with_reducible apply And.intro)
 all_goals
  refine callKf q3 ?_
  ((try simp at h2k); (try simp -implicitDefEqProofs [hln, hc0, ht0, hc1, ht1, hlx, htx, hdx, hly, hty, hlz, htz, hdz]); repeat' first | (with_reducible apply callK_pure <;> first | (simp only [eras, era, eras_map]; first | with_reducible exact h2k | simpa using h2k) | (simp -implicitDefEqProofs [hln, hc0, ht0, hc1, ht1, hlx, htx, hdx, hly, hty, hlz, htz, hdz])))
  all_goals exact ⟨hend _, LeNs.refl _⟩
end
end Go.Proofs.YtpggidmbnjfmaaaGreatDoor
end

/- Chapter 32: the loops of the reference's expr. Printed by gen_xqd.py. -/
section
set_option linter.unusedSimpArgs false
set_option linter.unusedVariables false
set_option maxHeartbeats 4000000
set_option maxRecDepth 8000
namespace Go.Proofs.YtpggidmbnjfmaaaGreatDoor
open E

section
variable {b : Nat} {L : List Tok}
theorem opT_1 (s : List UInt8) : (opT 1 s = none → s ≠ opN 13) ∧ ∀ o, opT 1 s = some o → s = opN 13 ∧ o = 13 := by
 have : opN 13 = sOr := rfl
 rw [this]; unfold opT; split <;> simp_all
theorem opT_2 (s : List UInt8) : (opT 2 s = none → s ≠ opN 12) ∧ ∀ o, opT 2 s = some o → s = opN 12 ∧ o = 12 := by
 have : opN 12 = sAnd := rfl
 rw [this]; unfold opT; split <;> simp_all
theorem opT_5 (s : List UInt8) : (opT 5 s = none → kfF 2 7 s = 0) ∧ ∀ o, opT 5 s = some o → (kfF 2 7 s : Int) = o ∧ 0 < kfF 2 7 s := by
 have e7 : opN (7 : Nat) = [43] := rfl
 have e8 : opN (8 : Nat) = [45] := rfl
 unfold opT
 rw [kfF, e7, kfF, e8, kfF]
 by_cases h1 : s = [43]
 ·subst h1; simp
 by_cases h2 : s = [45]
 ·subst h2; simp
 ·simp [h1, h2, Ne.symm h1, Ne.symm h2, show ¬ [43] = s from fun q => h1 q.symm, show ¬ [45] = s from fun q => h2 q.symm]
theorem opT_6 (s : List UInt8) : (opT 6 s = none → s ≠ [42]) ∧ ∀ o, opT 6 s = some o → s = [42] ∧ o = 9 := by
 unfold opT; split <;> simp_all
theorem ex_l1 (hL : TokL L) {i : Nat} {bd : Bool} {y1 : Xp} {i1 : Nat} {b1 : Bool} (hx : ExA b L 2 i bd y1 i1 b1) {d : Nat} {x' : Xp} {i' : Nat} {bd' : Bool} (h : Lq b L 1 d y1 i1 b1 x' i' bd') : ExA b L 1 i bd x' i' bd' := by
 intro B K hb hok
 have E := env hb hok
 have hil := hL.len
 have hX : ∀ n m, B.length + [zc].length ≤ n → K.length ≤ m → LeBs n m [zc] [zc] := fun n m _ _ => ⟨leB_zc n m, trivial⟩
 have hXx : ∀ (z : Xp), ∀ n m, B.length + [zc, .cells (z.c.map V.t)].length ≤ n → K.length ≤ m → LeBs n m [zc, .cells (z.c.map V.t)] [zc, .cells (z.c.map V.t)] := fun z n m _ _ => ⟨leB_zc n m, leB_xc _ n m, trivial⟩
 have q1 := PaF.on hx hb hok (Nat.le_refl _) hX
 have hln := E.ln
 have hc0 := E.c0
 have ht0 := E.t0
 have hc1 := E.c1
 have ht1 := E.t1
 have hle := E.le
 have hend : ∀ l, LeBs B.length K.length (B.set b (rX L i' bd') ++ l) (B.set b (rX L i' bd')) := fun l => E.fia L i' bd' l
 have hl1 := len_c y1
 have hr1 := take_c y1
 have hd1 : (y1.c.map V.t).drop 6 = [] := List.drop_of_length_le (by simp [hl1])
 have hzc : zc = .cells [vI 0, vI 0, vI 0, vI 0, vS [], .snil] := rfl
 rw [hzc] at q1
 have hop := w_roperator 13 (by omega)
 have htn : opN 13 ≠ [] := by decide
 have hoT := opT_1
 generalize opN 13 = tx at *
 (refine FnS.of_codeW mix Tryz.call119 kw_119 (by simp) (fun hB => ?_); (try simp at hB); (try simp -implicitDefEqProofs [qw_119]))
 (try simp -implicitDefEqProofs [hln])
 refine callKf q1 ?_
 (try simp -implicitDefEqProofs [hln, hc1, ht1, hl1, hr1, hd1])
 refine loop_rule (X := BX) (fun X => Lq b L 1 X.d X.x X.i X.bd x' i' bd') (fun X => [(0, .ptr b 0), (1, vI 1), (4, .ptr B.length 0), (5, vI 13), (6, .ptr (B.length + 1) 0)]) (fun X => ⟨B.set b (rX L X.i X.bd) ++ [.cells [vI 0, vI 0, vI 0, vI 0, vS [], .snil], .cells (X.x.c.map V.t)], K⟩) (fun X => X.d) ⟨d, y1, i1, b1⟩ h ?hs ?_
 case hs =>
  simp [LeNs.refl, hb, hle, hln, leB, LeL_refl, okNs, okN]
  omega
 rintro ⟨d, x, i2, bd2⟩ hlp hbd
 simp only [] at hlp
 clear hbd q1 hl1 hr1 hd1 h
 have hlx := len_c x
 have htx := take_c x
 have hdx : (x.c.map V.t).drop 6 = [] := List.drop_of_length_le (by simp [hlx])
 cases hlp with
 | bad =>
  have qa := (w_rtk0 (b := b) (L := L) (i := i') (bd := true) (s := tx) (by rw [pk_bad]; exact htn.symm)).on hb hok (Nat.le_refl _) (hXx x')
  rw [hzc] at qa
  ((try simp at hop); (try simp -implicitDefEqProofs); repeat' first | (with_reducible apply callK_pure <;> first | (simp only [eras, era, eras_map]; first | with_reducible exact hop | simpa using hop) | (simp -implicitDefEqProofs)))
  refine callKf qa ?_
  (try simp -implicitDefEqProofs [hln, hc0, ht0, hc1, ht1, hlx, htx, hdx])
  all_goals exact ⟨hend _, LeNs.refl _⟩
 | stop _ _ h1 h2 =>
  have qa := (w_rtk0 (b := b) (L := L) (i := i') (bd := false) (s := tx) ((hoT _).1 h2)).on hb hok (Nat.le_refl _) (hXx x')
  rw [hzc] at qa
  ((try simp at hop); (try simp -implicitDefEqProofs); repeat' first | (with_reducible apply callK_pure <;> first | (simp only [eras, era, eras_map]; first | with_reducible exact hop | simpa using hop) | (simp -implicitDefEqProofs)))
  refine callKf qa ?_
  (try simp -implicitDefEqProofs [hln, hc0, ht0, hc1, ht1, hlx, htx, hdx])
  all_goals exact ⟨hend _, LeNs.refl _⟩
 | per d _ _ o _ _ _ hk6 hp hn h => exact absurd hk6 (by decide)
 | op d _ _ o y i3 bd3 _ _ _ h1 h2 h3 h =>
  obtain ⟨g1, rfl⟩ := (hoT _).2 _ h2
  have qa := (w_rtk1 (b := b) hil (i := i2) (bd := false) (s := tx) g1 htn).on hb hok (Nat.le_refl _) (hXx x)
  have qb := PaF.on h3 hb hok (Nat.le_refl _) (hXx x)
  rw [hzc] at qa qb
  have h2k := w_rtwo 13 x y
  have hly := len_c y
  have hty := take_c y
  have hlz := len_c (two 13 x y)
  have htz := take_c (two 13 x y)
  have hdz : ((two 13 x y).c.map V.t).drop 6 = [] := List.drop_of_length_le (by simp [hlz])
  have hzl := fun n m => leB_xc (two 13 x y) n m
  have key : ∃ z' : BX, Lq b L 1 z'.d z'.x z'.i z'.bd x' i' bd' ∧ z'.d < d + 1 ∧ z'.d = d ∧ z'.x = two 13 x y ∧ z'.i = i3 ∧ z'.bd = bd3 := ⟨⟨d, two 13 x y, i3, bd3⟩, h, Nat.lt_succ_self d, rfl, rfl, rfl, rfl⟩
  ((try simp at hop); (try simp -implicitDefEqProofs); repeat' first | (with_reducible apply callK_pure <;> first | (simp only [eras, era, eras_map]; first | with_reducible exact hop | simpa using hop) | (simp -implicitDefEqProofs)))
  refine callKf qa ?_
  (try simp -implicitDefEqProofs [hln, hc1, ht1, hlx, htx, hdx])
  all_goals (repeat' with_reducible apply And.intro)
  all_goals
   refine callKf qb ?_
   ((try simp at h2k); (try simp -implicitDefEqProofs [hln, hc1, ht1, hlx, htx, hdx, hly, hty, hlz, htz, hdz]); repeat' first | (with_reducible apply callK_pure <;> first | (simp only [eras, era, eras_map]; first | with_reducible exact h2k | simpa using h2k) | (simp -implicitDefEqProofs [hln, hc1, ht1, hlx, htx, hdx, hly, hty, hlz, htz, hdz])))
   refine ⟨⟨d, two 13 x y, i3, bd3⟩, h, Nat.lt_succ_self d, ?_⟩
   exact ⟨⟨(hle _ _ _ _ _ _ _ (by omega) (Nat.le_refl _)).2 ⟨leB_zc _ _, leB_xc _ _ _, trivial⟩, LeNs.refl _⟩, by omega⟩
theorem ex_l2 (hL : TokL L) {i : Nat} {bd : Bool} {y1 : Xp} {i1 : Nat} {b1 : Bool} (hx : ExA b L 3 i bd y1 i1 b1) {d : Nat} {x' : Xp} {i' : Nat} {bd' : Bool} (h : Lq b L 2 d y1 i1 b1 x' i' bd') : ExA b L 2 i bd x' i' bd' := by
 intro B K hb hok
 have E := env hb hok
 have hil := hL.len
 have hX : ∀ n m, B.length + [zc].length ≤ n → K.length ≤ m → LeBs n m [zc] [zc] := fun n m _ _ => ⟨leB_zc n m, trivial⟩
 have hXx : ∀ (z : Xp), ∀ n m, B.length + [zc, .cells (z.c.map V.t)].length ≤ n → K.length ≤ m → LeBs n m [zc, .cells (z.c.map V.t)] [zc, .cells (z.c.map V.t)] := fun z n m _ _ => ⟨leB_zc n m, leB_xc _ n m, trivial⟩
 have q1 := PaF.on hx hb hok (Nat.le_refl _) hX
 have hln := E.ln
 have hc0 := E.c0
 have ht0 := E.t0
 have hc1 := E.c1
 have ht1 := E.t1
 have hle := E.le
 have hend : ∀ l, LeBs B.length K.length (B.set b (rX L i' bd') ++ l) (B.set b (rX L i' bd')) := fun l => E.fia L i' bd' l
 have hl1 := len_c y1
 have hr1 := take_c y1
 have hd1 : (y1.c.map V.t).drop 6 = [] := List.drop_of_length_le (by simp [hl1])
 have hzc : zc = .cells [vI 0, vI 0, vI 0, vI 0, vS [], .snil] := rfl
 rw [hzc] at q1
 have hop := w_roperator 12 (by omega)
 have htn : opN 12 ≠ [] := by decide
 have hoT := opT_2
 generalize opN 12 = tx at *
 (refine FnS.of_codeW mix Tryz.call119 kw_119 (by simp) (fun hB => ?_); (try simp at hB); (try simp -implicitDefEqProofs [qw_119]))
 (try simp -implicitDefEqProofs [hln])
 refine callKf q1 ?_
 (try simp -implicitDefEqProofs [hln, hc1, ht1, hl1, hr1, hd1])
 refine loop_rule (X := BX) (fun X => Lq b L 2 X.d X.x X.i X.bd x' i' bd') (fun X => [(0, .ptr b 0), (1, vI 2), (4, .ptr B.length 0), (5, vI 12), (6, .ptr (B.length + 1) 0)]) (fun X => ⟨B.set b (rX L X.i X.bd) ++ [.cells [vI 0, vI 0, vI 0, vI 0, vS [], .snil], .cells (X.x.c.map V.t)], K⟩) (fun X => X.d) ⟨d, y1, i1, b1⟩ h ?hs ?_
 case hs =>
  simp [LeNs.refl, hb, hle, hln, leB, LeL_refl, okNs, okN]
  omega
 rintro ⟨d, x, i2, bd2⟩ hlp hbd
 simp only [] at hlp
 clear hbd q1 hl1 hr1 hd1 h
 have hlx := len_c x
 have htx := take_c x
 have hdx : (x.c.map V.t).drop 6 = [] := List.drop_of_length_le (by simp [hlx])
 cases hlp with
 | bad =>
  have qa := (w_rtk0 (b := b) (L := L) (i := i') (bd := true) (s := tx) (by rw [pk_bad]; exact htn.symm)).on hb hok (Nat.le_refl _) (hXx x')
  rw [hzc] at qa
  ((try simp at hop); (try simp -implicitDefEqProofs); repeat' first | (with_reducible apply callK_pure <;> first | (simp only [eras, era, eras_map]; first | with_reducible exact hop | simpa using hop) | (simp -implicitDefEqProofs)))
  refine callKf qa ?_
  (try simp -implicitDefEqProofs [hln, hc0, ht0, hc1, ht1, hlx, htx, hdx])
  all_goals exact ⟨hend _, LeNs.refl _⟩
 | stop _ _ h1 h2 =>
  have qa := (w_rtk0 (b := b) (L := L) (i := i') (bd := false) (s := tx) ((hoT _).1 h2)).on hb hok (Nat.le_refl _) (hXx x')
  rw [hzc] at qa
  ((try simp at hop); (try simp -implicitDefEqProofs); repeat' first | (with_reducible apply callK_pure <;> first | (simp only [eras, era, eras_map]; first | with_reducible exact hop | simpa using hop) | (simp -implicitDefEqProofs)))
  refine callKf qa ?_
  (try simp -implicitDefEqProofs [hln, hc0, ht0, hc1, ht1, hlx, htx, hdx])
  all_goals exact ⟨hend _, LeNs.refl _⟩
 | per d _ _ o _ _ _ hk6 hp hn h => exact absurd hk6 (by decide)
 | op d _ _ o y i3 bd3 _ _ _ h1 h2 h3 h =>
  obtain ⟨g1, rfl⟩ := (hoT _).2 _ h2
  have qa := (w_rtk1 (b := b) hil (i := i2) (bd := false) (s := tx) g1 htn).on hb hok (Nat.le_refl _) (hXx x)
  have qb := PaF.on h3 hb hok (Nat.le_refl _) (hXx x)
  rw [hzc] at qa qb
  have h2k := w_rtwo 12 x y
  have hly := len_c y
  have hty := take_c y
  have hlz := len_c (two 12 x y)
  have htz := take_c (two 12 x y)
  have hdz : ((two 12 x y).c.map V.t).drop 6 = [] := List.drop_of_length_le (by simp [hlz])
  have hzl := fun n m => leB_xc (two 12 x y) n m
  have key : ∃ z' : BX, Lq b L 2 z'.d z'.x z'.i z'.bd x' i' bd' ∧ z'.d < d + 1 ∧ z'.d = d ∧ z'.x = two 12 x y ∧ z'.i = i3 ∧ z'.bd = bd3 := ⟨⟨d, two 12 x y, i3, bd3⟩, h, Nat.lt_succ_self d, rfl, rfl, rfl, rfl⟩
  ((try simp at hop); (try simp -implicitDefEqProofs); repeat' first | (with_reducible apply callK_pure <;> first | (simp only [eras, era, eras_map]; first | with_reducible exact hop | simpa using hop) | (simp -implicitDefEqProofs)))
  refine callKf qa ?_
  (try simp -implicitDefEqProofs [hln, hc1, ht1, hlx, htx, hdx])
  all_goals (repeat' with_reducible apply And.intro)
  all_goals
   refine callKf qb ?_
   ((try simp at h2k); (try simp -implicitDefEqProofs [hln, hc1, ht1, hlx, htx, hdx, hly, hty, hlz, htz, hdz]); repeat' first | (with_reducible apply callK_pure <;> first | (simp only [eras, era, eras_map]; first | with_reducible exact h2k | simpa using h2k) | (simp -implicitDefEqProofs [hln, hc1, ht1, hlx, htx, hdx, hly, hty, hlz, htz, hdz])))
   refine ⟨⟨d, two 12 x y, i3, bd3⟩, h, Nat.lt_succ_self d, ?_⟩
   exact ⟨⟨(hle _ _ _ _ _ _ _ (by omega) (Nat.le_refl _)).2 ⟨leB_zc _ _, leB_xc _ _ _, trivial⟩, LeNs.refl _⟩, by omega⟩
def kG (L : List Tok) (X : BX) : Nat := kfF 2 7 (pk L X.i X.bd)
def nG (L : List Tok) (X : BX) : Nat := if 0 < kG L X then X.i + 1 else X.i
theorem ex_l5 (hL : TokL L) {i : Nat} {bd : Bool} {y1 : Xp} {i1 : Nat} {b1 : Bool} (hx : ExA b L 6 i bd y1 i1 b1) {d : Nat} {x' : Xp} {i' : Nat} {bd' : Bool} (h : Lq b L 5 d y1 i1 b1 x' i' bd') : ExA b L 5 i bd x' i' bd' := by
 intro B K hb hok
 have E := env hb hok
 have hil := hL.len
 have hX : ∀ n m, B.length + [zc].length ≤ n → K.length ≤ m → LeBs n m [zc] [zc] := fun n m _ _ => ⟨leB_zc n m, trivial⟩
 have hXx : ∀ (z : Xp), ∀ n m, B.length + [zc, .cells (z.c.map V.t)].length ≤ n → K.length ≤ m → LeBs n m [zc, .cells (z.c.map V.t)] [zc, .cells (z.c.map V.t)] := fun z n m _ _ => ⟨leB_zc n m, leB_xc _ n m, trivial⟩
 have q1 := PaF.on hx hb hok (Nat.le_refl _) hX
 have hln := E.ln
 have hc0 := E.c0
 have ht0 := E.t0
 have hc1 := E.c1
 have ht1 := E.t1
 have hle := E.le
 have hend : ∀ l, LeBs B.length K.length (B.set b (rX L i' bd') ++ l) (B.set b (rX L i' bd')) := fun l => E.fia L i' bd' l
 have hl1 := len_c y1
 have hr1 := take_c y1
 have hd1 : (y1.c.map V.t).drop 6 = [] := List.drop_of_length_le (by simp [hl1])
 have hzc : zc = .cells [vI 0, vI 0, vI 0, vI 0, vS [], .snil] := rfl
 rw [hzc] at q1
 have qk : ∀ X : BX, FnS Tryz.prog 147 [.ptr b 0, vI 7, vI 8] ⟨B.set b (rX L X.i X.bd) ++ [.cells [vI 0, vI 0, vI 0, vI 0, vS [], .snil], .cells (X.x.c.map V.t)], K⟩ (vI (kG L X : Nat)) ⟨B.set b (rX L (nG L X) X.bd) ++ [.cells [vI 0, vI 0, vI 0, vI 0, vS [], .snil], .cells (X.x.c.map V.t)], K⟩ := fun X => (w_rkind (b := b) hil (i := X.i) (bd := X.bd) (lo := 7) (hi := 8) (by omega) (by omega) (by intro k _ _; omega) (by omega)).on hb hok (Nat.le_refl _) (hXx X.x)
 have qk0 := qk ⟨d, y1, i1, b1⟩
 simp only [] at qk0
 (refine FnS.of_codeW mix Tryz.call119 kw_119 (by simp) (fun hB => ?_); (try simp at hB); (try simp -implicitDefEqProofs [qw_119]))
 (try simp -implicitDefEqProofs [hln])
 refine callKf q1 ?_
 (try simp -implicitDefEqProofs [hln, hc1, ht1, hl1, hr1, hd1])
 refine callKf qk0 ?_
 (try simp -implicitDefEqProofs)
 refine loop_rule (X := BX) (fun X => Lq b L 5 X.d X.x X.i X.bd x' i' bd') (fun X => [(0, .ptr b 0), (4, .ptr B.length 0), (9, .ptr (B.length + 1) 0), (10, vI (kG L X : Nat))]) (fun X => ⟨B.set b (rX L (nG L X) X.bd) ++ [.cells [vI 0, vI 0, vI 0, vI 0, vS [], .snil], .cells (X.x.c.map V.t)], K⟩) (fun X => X.d) ⟨d, y1, i1, b1⟩ h ?hs ?_
 case hs =>
  simp [LeNs.refl, hb, hle, hln, leB, LeL_refl, okNs, okN]
  omega
 rintro ⟨d, x, i2, bd2⟩ hlp hbd
 simp only [] at hlp
 clear hbd q1 hl1 hr1 hd1 h qk0
 have hlx := len_c x
 have htx := take_c x
 have hdx : (x.c.map V.t).drop 6 = [] := List.drop_of_length_le (by simp [hlx])
 cases hlp with
 | bad =>
  have g0 : kG L ⟨0, x', i', true⟩ = 0 := kf_nil (by intro j _ _; omega)
  have g1 : nG L ⟨0, x', i', true⟩ = i' := by unfold nG; rw [g0, if_neg (by omega)]
  (try simp -implicitDefEqProofs [g0, g1, hln, hc0, ht0, hc1, ht1, hlx, htx, hdx])
  all_goals exact ⟨hend _, LeNs.refl _⟩
 | stop _ _ h1 h2 =>
  have g0 : kG L ⟨0, x', i', false⟩ = 0 := (opT_5 _).1 h2
  have g1 : nG L ⟨0, x', i', false⟩ = i' := by unfold nG; rw [g0, if_neg (by omega)]
  (try simp -implicitDefEqProofs [g0, g1, hln, hc0, ht0, hc1, ht1, hlx, htx, hdx])
  all_goals exact ⟨hend _, LeNs.refl _⟩
 | per d _ _ o _ _ _ hk6 hp hn h => exact absurd hk6 (by decide)
 | op d _ _ o y i3 bd3 _ _ _ h1 h2 h3 h =>
  obtain ⟨g1, g2⟩ := (opT_5 _).2 _ h2
  have ge : kG L ⟨d + 1, x, i2, false⟩ = kfF 2 7 (hdT (L.drop i2)) := rfl
  have gn : nG L ⟨d + 1, x, i2, false⟩ = i2 + 1 := by unfold nG; rw [ge, if_pos g2]
  generalize kfF 2 7 (hdT (L.drop i2)) = kk at *
  subst g1
  have g2' : (0 : Int) < kk := by omega
  have qb := PaF.on h3 hb hok (Nat.le_refl _) (hXx x)
  rw [hzc] at qb
  have h2k := w_rtwo kk x y
  have hly := len_c y
  have hty := take_c y
  have hlz := len_c (two kk x y)
  have htz := take_c (two kk x y)
  have hdz : ((two kk x y).c.map V.t).drop 6 = [] := List.drop_of_length_le (by simp [hlz])
  have qk1 := qk ⟨d, two kk x y, i3, bd3⟩
  simp only [] at qk1
  (try simp -implicitDefEqProofs [ge, gn, g2, g2', hln, hc1, ht1, hlx, htx, hdx])
  all_goals (repeat' with_reducible apply And.intro)
  all_goals
   refine callKf qb ?_
   ((try simp at h2k); (try simp -implicitDefEqProofs [hln, hc1, ht1, hlx, htx, hdx, hly, hty, hlz, htz, hdz]); repeat' first | (with_reducible apply callK_pure <;> first | (simp only [eras, era, eras_map]; first | with_reducible exact h2k | simpa using h2k) | (simp -implicitDefEqProofs [hln, hc1, ht1, hlx, htx, hdx, hly, hty, hlz, htz, hdz])))
   refine callKf qk1 ?_
   (try simp -implicitDefEqProofs [hln])
   refine ⟨⟨d, two kk x y, i3, bd3⟩, h, Nat.lt_succ_self d, ?_⟩
   exact ⟨⟨(hle _ _ _ _ _ _ _ (by omega) (Nat.le_refl _)).2 ⟨leB_zc _ _, leB_xc _ _ _, trivial⟩, LeNs.refl _⟩, by omega, rfl⟩
theorem ex_l6 (hL : TokL L) {i : Nat} {bd : Bool} {y1 : Xp} {i1 : Nat} {b1 : Bool} (hx : ExA b L 7 i bd y1 i1 b1) {d : Nat} {x' : Xp} {i' : Nat} {bd' : Bool} (h : Lq b L 6 d y1 i1 b1 x' i' bd') : ExA b L 6 i bd x' i' bd' := by
 intro B K hb hok
 have E := env hb hok
 have hil := hL.len
 have hX : ∀ n m, B.length + [zc].length ≤ n → K.length ≤ m → LeBs n m [zc] [zc] := fun n m _ _ => ⟨leB_zc n m, trivial⟩
 have hXx : ∀ (z : Xp), ∀ n m, B.length + [zc, .cells (z.c.map V.t)].length ≤ n → K.length ≤ m → LeBs n m [zc, .cells (z.c.map V.t)] [zc, .cells (z.c.map V.t)] := fun z n m _ _ => ⟨leB_zc n m, leB_xc _ n m, trivial⟩
 have q1 := PaF.on hx hb hok (Nat.le_refl _) hX
 have hln := E.ln
 have hc0 := E.c0
 have ht0 := E.t0
 have hc1 := E.c1
 have ht1 := E.t1
 have hle := E.le
 have hend : ∀ l, LeBs B.length K.length (B.set b (rX L i' bd') ++ l) (B.set b (rX L i' bd')) := fun l => E.fia L i' bd' l
 have hl1 := len_c y1
 have hr1 := take_c y1
 have hd1 : (y1.c.map V.t).drop 6 = [] := List.drop_of_length_le (by simp [hl1])
 have hzc : zc = .cells [vI 0, vI 0, vI 0, vI 0, vS [], .snil] := rfl
 rw [hzc] at q1
 (refine FnS.of_codeW mix Tryz.call119 kw_119 (by simp) (fun hB => ?_); (try simp at hB); (try simp -implicitDefEqProofs [qw_119]))
 (try simp -implicitDefEqProofs [hln])
 refine callKf q1 ?_
 (try simp -implicitDefEqProofs [hln, hc1, ht1, hl1, hr1, hd1])
 refine loop_rule (X := BX) (fun X => Lq b L 6 X.d X.x X.i X.bd x' i' bd') (fun X => [(0, .ptr b 0), (4, .ptr B.length 0), (11, .ptr (B.length + 1) 0)]) (fun X => ⟨B.set b (rX L X.i X.bd) ++ [.cells [vI 0, vI 0, vI 0, vI 0, vS [], .snil], .cells (X.x.c.map V.t)], K⟩) (fun X => X.d) ⟨d, y1, i1, b1⟩ h ?hs ?_
 case hs =>
  simp [LeNs.refl, hb, hle, hln, leB, LeL_refl, okNs, okN]
  omega
 rintro ⟨d, x, i2, bd2⟩ hlp hbd
 simp only [] at hlp
 clear hbd q1 hl1 hr1 hd1 h
 have hlx := len_c x
 have htx := take_c x
 have hdx : (x.c.map V.t).drop 6 = [] := List.drop_of_length_le (by simp [hlx])
 have hper : sPer = [112, 101, 114] := rfl
 cases hlp with
 | bad =>
  have qa := (w_is0 (b := b) (L := L) (i := i') (bd := true) (s := [42]) (by rw [pk_bad]; decide)).on hb hok (Nat.le_refl _) (hXx x')
  have qb := (w_is0 (b := b) (L := L) (i := i') (bd := true) (s := [112, 101, 114]) (by rw [pk_bad]; decide)).on hb hok (Nat.le_refl _) (hXx x')
  rw [hzc] at qa qb
  (try simp -implicitDefEqProofs)
  refine callKf qa ?_
  (try simp -implicitDefEqProofs)
  refine callKf qb ?_
  (try simp -implicitDefEqProofs [hln, hc0, ht0, hc1, ht1, hlx, htx, hdx])
  all_goals exact ⟨hend _, LeNs.refl _⟩
 | stop _ _ h1 h2 =>
  have qa := (w_is0 (b := b) (L := L) (i := i') (bd := false) (s := [42]) ((opT_6 _).1 h2)).on hb hok (Nat.le_refl _) (hXx x')
  have qb := (w_is0 (b := b) (L := L) (i := i') (bd := false) (s := [112, 101, 114]) (fun q => h1 ⟨rfl, q⟩)).on hb hok (Nat.le_refl _) (hXx x')
  rw [hzc] at qa qb
  (try simp -implicitDefEqProofs)
  refine callKf qa ?_
  (try simp -implicitDefEqProofs)
  refine callKf qb ?_
  (try simp -implicitDefEqProofs [hln, hc0, ht0, hc1, ht1, hlx, htx, hdx])
  all_goals exact ⟨hend _, LeNs.refl _⟩
 | per d _ _ o _ _ _ hk6 hp hn h =>
  have hlt := drop_hd (L := L) (i := i2) (by rw [hp]; decide)
  have hpk : pk L i2 false = [112, 101, 114] := hp
  have qa := (w_is0 (b := b) (L := L) (i := i2) (bd := false) (s := [42]) (by rw [hpk]; decide)).on hb hok (Nat.le_refl _) (hXx x)
  have qb := (w_is1 (b := b) (L := L) (i := i2) (bd := false) hpk (by decide)).on hb hok (Nat.le_refl _) (hXx x)
  have qt := (w_rtk0 (b := b) (L := L) (i := i2) (bd := false) (s := [42]) (by rw [hpk]; decide)).on hb hok (Nat.le_refl _) (hXx x)
  have qn := (w_rnumber (b := b) hL (i := i2 + 1) (bd := false) 1 1000000000000).on hb hok (Nat.le_refl _) (hXx (one 20 x))
  rw [hn] at qn
  rw [hzc] at qa qb qt qn
  have h1k := w_rone 20 x
  have hlz := len_c (one 20 x)
  have htz := take_c (one 20 x)
  have hdz : ((one 20 x).c.map V.t).drop 6 = [] := List.drop_of_length_le (by simp [hlz])
  have e3 : IntKind.i64.wrap ((i2 : Int) + 1) = (i2 : Int) + 1 := wrap64 (by omega) (by omega)
  have hga := E.ga
  have hsb := E.sb
  have hrx : ∀ i bd, rX L i bd = .cells [Tok.l L, vI i, vB bd] := fun _ _ => rfl
  have hgx : ∀ l, (B.set b (rX L i2 false) ++ l)[b]? = some (.cells [Tok.l L, vI i2, vB false]) := fun l => by rw [hga, hrx]
  have hsx : ∀ l, (B.set b (rX L i2 false) ++ l).set b (.cells [Tok.l L, vI ((i2 : Int) + 1), vB false]) = B.set b (rX L (i2 + 1) false) ++ l := fun l => by rw [hsb, hrx]; push_cast; rfl
  have hgz : ∀ l, (B.set b (rX L (i2 + 1) false) ++ l)[b]? = some (.cells [Tok.l L, vI ((i2 : Int) + 1), vB false]) := fun l => by rw [hga, hrx]; push_cast; rfl
  have hp2 : ∀ v, ((one 20 x).c.map V.t).take 1 ++ vI v :: ((one 20 x).c.map V.t).drop 2 = (perX v x).c.map V.t := fun v => by rw [c_one, c_per]; rfl
  (try simp -implicitDefEqProofs)
  refine callKf qa ?_
  (try simp -implicitDefEqProofs)
  refine callKf qb ?_
  (try simp -implicitDefEqProofs)
  refine callKf qt ?_
  ((try simp at h1k); (try simp -implicitDefEqProofs [hln, hgx, hsx, e3, hc1, ht1, hlx, htx, hdx, hlz, htz, hdz]); repeat' first | (with_reducible apply callK_pure <;> first | (simp only [eras, era, eras_map]; first | with_reducible exact h1k | simpa using h1k) | (simp -implicitDefEqProofs [hln, hgx, hsx, e3, hc1, ht1, hlx, htx, hdx, hlz, htz, hdz])))
  refine callKf qn ?_
  (try simp -implicitDefEqProofs [hln, hc1, ht1, hlz, htz, hdz])
  rw [hp2]
  cases o with
  | none => exact ⟨⟨d, perX 0 x, i2 + 1, true⟩, h, Nat.lt_succ_self d, ⟨(hle _ _ _ _ _ _ _ (by omega) (Nat.le_refl _)).2 ⟨leB_zc _ _, leB_xc _ _ _, trivial⟩, LeNs.refl _⟩, by omega⟩
  | some v => exact ⟨⟨d, perX v x, i2 + 1 + 1, false⟩, h, Nat.lt_succ_self d, ⟨(hle _ _ _ _ _ _ _ (by omega) (Nat.le_refl _)).2 ⟨leB_zc _ _, leB_xc _ _ _, trivial⟩, LeNs.refl _⟩, by omega⟩
 | op d _ _ o y i3 bd3 _ _ _ h1 h2 h3 h =>
  obtain ⟨g1, rfl⟩ := (opT_6 _).2 _ h2
  have hpk : pk L i2 false = [42] := g1
  have qa := (w_is1 (b := b) (L := L) (i := i2) (bd := false) hpk (by decide)).on hb hok (Nat.le_refl _) (hXx x)
  have qt := (w_rtk1 (b := b) hil (i := i2) (bd := false) hpk (by decide)).on hb hok (Nat.le_refl _) (hXx x)
  have qb := PaF.on h3 hb hok (Nat.le_refl _) (hXx x)
  rw [hzc] at qa qt qb
  have h2k := w_rtwo 9 x y
  have hly := len_c y
  have hty := take_c y
  have hlz := len_c (two 9 x y)
  have htz := take_c (two 9 x y)
  have hdz : ((two 9 x y).c.map V.t).drop 6 = [] := List.drop_of_length_le (by simp [hlz])
  (try simp -implicitDefEqProofs)
  refine callKf qa ?_
  (try simp -implicitDefEqProofs)
  refine callKf qt ?_
  (try simp -implicitDefEqProofs [hln, hc1, ht1, hlx, htx, hdx])
  all_goals (repeat' with_reducible apply And.intro)
  all_goals
   refine callKf qb ?_
   ((try simp at h2k); (try simp -implicitDefEqProofs [hln, hc1, ht1, hlx, htx, hdx, hly, hty, hlz, htz, hdz]); repeat' first | (with_reducible apply callK_pure <;> first | (simp only [eras, era, eras_map]; first | with_reducible exact h2k | simpa using h2k) | (simp -implicitDefEqProofs [hln, hc1, ht1, hlx, htx, hdx, hly, hty, hlz, htz, hdz])))
   refine ⟨⟨d, two 9 x y, i3, bd3⟩, h, Nat.lt_succ_self d, ?_⟩
   exact ⟨⟨(hle _ _ _ _ _ _ _ (by omega) (Nat.le_refl _)).2 ⟨leB_zc _ _, leB_xc _ _ _, trivial⟩, LeNs.refl _⟩, by omega⟩
end
end Go.Proofs.YtpggidmbnjfmaaaGreatDoor
end

/- Chapter 32: the reference's expressions as a contract. -/
section
set_option linter.unusedSimpArgs false
set_option linter.unusedVariables false
set_option maxHeartbeats 4000000
set_option maxRecDepth 8000
namespace Go.Proofs.YtpggidmbnjfmaaaGreatDoor
open E

section
variable {b : Nat} {L : List Tok}
theorem prBad (hL : TokL L) (i : Nat) : PrA b L i true r0 i true :=
 rpr_name hL (i := i) (bd := true) (by rw [pk_bad]; decide) (kf_nil (by intro j _ _; omega)) (kf_nil (by intro j _ _; omega)) (kf_nil (by intro j _ _; omega)) (.inl rfl)
theorem exBad (hL : TokL L) (i : Nat) : ExA b L 1 i true r0 i true := by
 have h7 : ExA b L 7 i true r0 i true := ex_prm (.inl rfl) (fun _ => by rw [pk_bad]; decide) (prBad hL i)
 have h6 := ex_l6 hL h7 (.bad _ _)
 have h5 := ex_l5 hL h6 (.bad _ _)
 have h4 : ExA b L 4 i true r0 i true := ex_4 hL h5 (kf_nil (by intro j _ _; omega))
 have h3 : ExA b L 3 i true r0 i true := ex_3 (by rw [pk_bad]; decide) h4
 have h2 := ex_l2 hL h3 (.bad _ _)
 exact ex_l1 hL h2 (.bad _ _)
theorem par_01 (n : Nat) (ts : List Tok) : par n (.lev 0) ts = par n (.lev 1) ts := by
 cases n with
 | zero => rfl
 | succ n => rw [par, par, if_pos (by omega), if_pos (by omega)]
theorem Dd.ex (hL : TokL L) {β : Type} {n : Nat} (hlev : ExC b L n) {i : Nat} {bd : Bool} {E : Xp → List Tok → Option (Rd β)} {res : Rd β} (h : Dd L i bd (fun r => bndO (par n (.lev 0) r) fun a r => E a r) res) : ∃ y i' b', ExA b L 1 i bd y i' b' ∧ i ≤ i' ∧ Dd L i' b' (E y) res := by
 obtain ⟨hi, h | h⟩ := h
 ·obtain ⟨rfl, h⟩ := h
  replace h : (bndO (par n (.lev 0) (L.drop i)) fun a r => E a r) = some res := h
  rw [par_01] at h
  cases hq : par n (.lev 1) (L.drop i) with
  | none => rw [hq] at h; cases h
  | some q =>
   rw [hq] at h
   obtain ⟨y, i2, bd2, r1, r2, r3, r4⟩ := (hlev 1 i q (by omega) (by omega) hq hi).any
   refine ⟨y, i2, bd2, r3, r1, r2, ?_⟩
   rcases r4 with ⟨rfl, rfl⟩ | ⟨rfl, rfl⟩
   ·exact .inl ⟨rfl, h⟩
   ·exact .inr ⟨rfl, (Option.some.inj h).symm⟩
 ·obtain ⟨rfl, h⟩ := h
  exact ⟨r0, i, true, exBad hL i, Nat.le_refl _, hi, .inr ⟨rfl, h⟩⟩
theorem opT_4 (s : List UInt8) : (opT 4 s = none → kfF 6 14 s = 0) ∧ ∀ o, opT 4 s = some o → (kfF 6 14 s : Int) = o ∧ 0 < kfF 6 14 s := by
 have e14 : opN (14 : Nat) = [60] := rfl
 have e15 : opN (15 : Nat) = [60, 61] := rfl
 have e16 : opN (16 : Nat) = [61] := rfl
 have e17 : opN (17 : Nat) = [33, 61] := rfl
 have e18 : opN (18 : Nat) = [62, 61] := rfl
 have e19 : opN (19 : Nat) = [62] := rfl
 unfold opT
 rw [kfF, e14, kfF, e15, kfF, e16, kfF, e17, kfF, e18, kfF, e19, kfF]
 by_cases h1 : s = [60]
 ·subst h1; simp
 by_cases h2 : s = [60, 61]
 ·subst h2; simp
 by_cases h3 : s = [61]
 ·subst h3; simp
 by_cases h4 : s = [33, 61]
 ·subst h4; simp
 by_cases h5 : s = [62, 61]
 ·subst h5; simp
 by_cases h6 : s = [62]
 ·subst h6; simp
 ·simp [h1, h2, h3, h4, h5, h6, show ¬ [60] = s from fun q => h1 q.symm, show ¬ [60, 61] = s from fun q => h2 q.symm, show ¬ [61] = s from fun q => h3 q.symm, show ¬ [33, 61] = s from fun q => h4 q.symm, show ¬ [62, 61] = s from fun q => h5 q.symm, show ¬ [62] = s from fun q => h6 q.symm]
theorem pmC (hL : TokL L) (n : Nat) (ih : ∀ m, m < n → ExC b L m) : PmC b L n := by
 intro i res h hi
 obtain _ | n := n
 ·cases h
 have ihn := ih n (Nat.lt_succ_self n)
 refine RdR.of ?_
 rw [par] at h
 split at h
 ·rename_i c
  cases h
  have hp : pk L i false = [] := by rw [pk_hd, c]; rfl
  have hn : nmO L i false = none := by unfold nmO; rw [if_neg (by decide), c]
  have := rpr_name (b := b) hL (i := i) (bd := false) (by rw [hp]; decide) (by rw [hp]; exact kf_nil (by intro j _ _; omega)) (by rw [hp]; exact kf_nil (by intro j _ _; omega)) (by rw [hp]; exact kf_nil (by intro j _ _; omega)) (.inr (by rw [c]; decide))
  rw [hn] at this
  exact ⟨_, i, true, Nat.le_refl _, hi, this, .inr ⟨rfl, by rw [c]⟩⟩
 rename_i c0
 have hlt : i < L.length := by
  rcases Nat.lt_or_ge i L.length with q | q
  ·exact q
  ·exact absurd (List.drop_eq_nil_of_le q) c0
 have ht : (L.drop i).tail = L.drop (i + 1) := List.tail_drop
 simp only [bnd_O, ht] at h
 split at h
 ·rename_i c
  have d0 : Dd L (i + 1) false (fun r => bndO (par n (.lev 0) r) fun x r => bndO (some (wantT [41] r)) fun _ r => some (.ok x r)) res := ⟨by omega, .inl ⟨rfl, h⟩⟩
  obtain ⟨y, i2, b2, p1, p2, d1⟩ := d0.ex hL ihn
  obtain ⟨i3, b3, q1, q2, d2⟩ := d1.want (by decide)
  exact ⟨y, i3, b3, by omega, d2.fin.1, rpr_lpar hL c p1 q1, d2.fin.2⟩
 rename_i n40
 split at h
 ·rename_i c
  have d0 : ∀ k, (k = if hdT (L.drop i) = sMax then 11 else 10) → Dd L (i + 1) false (fun r => bndO (some (wantT [40] r)) fun _ r => bndO (par n (.lev 0) r) fun x r => bndO (some (wantT [44] r)) fun _ r => bndO (par n (.lev 0) r) fun y r => bndO (some (wantT [41] r)) fun _ r => some (.ok (two k x y) r)) res := fun k hk => ⟨by omega, .inl ⟨rfl, by rw [hk]; exact h⟩⟩
  have hk : ∃ k : Nat, (k = 10 ∨ k = 11) ∧ (k : Int) = (if hdT (L.drop i) = sMax then 11 else 10) ∧ hdT (L.drop i) = opN k := by
   by_cases hm : hdT (L.drop i) = sMax
   ·exact ⟨11, .inr rfl, by rw [if_pos hm]; rfl, hm⟩
   ·exact ⟨10, .inl rfl, by rw [if_neg hm]; rfl, c.resolve_right hm⟩
  obtain ⟨k, k1, k2, k3⟩ := hk
  obtain ⟨i1, b1, o1, o2, d1⟩ := (d0 k k2).want (by decide)
  obtain ⟨x, i2, b2, p1, p2, d2⟩ := d1.ex hL ihn
  obtain ⟨i3, b3, q1, q2, d3⟩ := d2.want (by decide)
  obtain ⟨y, i4, b4, r1, r2, d4⟩ := d3.ex hL ihn
  obtain ⟨i5, b5, s1, s2, d5⟩ := d4.want (by decide)
  exact ⟨two k x y, i5, b5, by omega, d5.fin.1, rpr_f2 hL k1 k3 o1 p1 q1 r1 s1, d5.fin.2⟩
 rename_i nm
 split at h
 ·rename_i c
  have d0 : ∀ k, (k = if hdT (L.drop i) = sShare then 5 else 4) → Dd L (i + 1) false (fun r => bndO (some (wantT [40] r)) fun _ r => bndO (par n (.lev 0) r) fun x r => bndO (some (wantT [41] r)) fun _ r => some (.ok (one k x) r)) res := fun k hk => ⟨by omega, .inl ⟨rfl, by rw [hk]; exact h⟩⟩
  have hk : ∃ k : Nat, (k = 4 ∨ k = 5) ∧ (k : Int) = (if hdT (L.drop i) = sShare then 5 else 4) ∧ hdT (L.drop i) = opN k := by
   by_cases hm : hdT (L.drop i) = sShare
   ·exact ⟨5, .inr rfl, by rw [if_pos hm]; rfl, hm⟩
   ·exact ⟨4, .inl rfl, by rw [if_neg hm]; rfl, c.resolve_right hm⟩
  obtain ⟨k, k1, k2, k3⟩ := hk
  obtain ⟨i1, b1, o1, o2, d1⟩ := (d0 k k2).want (by decide)
  obtain ⟨y, i2, b2, p1, p2, d2⟩ := d1.ex hL ihn
  obtain ⟨i3, b3, q1, q2, d3⟩ := d2.want (by decide)
  exact ⟨one k y, i3, b3, by omega, d3.fin.1, rpr_f1 hL k1 k3 o1 p1 q1, d3.fin.2⟩
 rename_i na
 split at h
 ·rename_i c
  have d0 : ∀ k, (k = if hdT (L.drop i) = sPart then 22 else 21) → Dd L (i + 1) false (fun r => bndO (some (wantT [40] r)) fun _ r => bndO (some (numT 1 99999 r)) fun f r => bndO (some (wantT [46, 46] r)) fun _ r => bndO (some (numT 1 99999 r)) fun t r => bndO (some (wantT [41] r)) fun _ r => some (.ok (Xp.mk k 0 f t [] []) r)) res := fun k hk => ⟨by omega, .inl ⟨rfl, by rw [hk]; exact h⟩⟩
  have hk : ∃ k : Nat, (k = 21 ∨ k = 22) ∧ (k : Int) = (if hdT (L.drop i) = sPart then 22 else 21) ∧ hdT (L.drop i) = opN k := by
   by_cases hm : hdT (L.drop i) = sPart
   ·exact ⟨22, .inr rfl, by rw [if_pos hm]; rfl, hm⟩
   ·exact ⟨21, .inl rfl, by rw [if_neg hm]; rfl, c.resolve_right hm⟩
  obtain ⟨k, k1, k2, k3⟩ := hk
  obtain ⟨i1, b1, o1, o2, d1⟩ := (d0 k k2).want (by decide)
  obtain ⟨f, i2, b2, p1, p2, d2⟩ := d1.num
  obtain ⟨i3, b3, q1, q2, d3⟩ := d2.want (by decide)
  obtain ⟨t, i4, b4, r1, r2, d4⟩ := d3.num
  obtain ⟨i5, b5, s1, s2, d5⟩ := d4.want (by decide)
  exact ⟨_, i5, b5, by omega, d5.fin.1, rpr_bal hL k1 k3 o1 p1 q1 r1 s1, d5.fin.2⟩
 rename_i nb
 have k1 : kfF 2 10 (pk L i false) = 0 := kf2 (fun q => nm (.inl q)) (fun q => nm (.inr q))
 have k2 : kfF 2 4 (pk L i false) = 0 := kf2 (fun q => na (.inl q)) (fun q => na (.inr q))
 have k3 : kfF 2 21 (pk L i false) = 0 := kf2 (fun q => nb (.inl q)) (fun q => nb (.inr q))
 split at h
 ·rename_i c
  have d0 : Dd L i false (fun r => bndO (some (numT 0 1000000000000 r)) fun v r => some (.ok (Xp.mk 1 v 0 0 [] []) r)) res := ⟨hi, .inl ⟨rfl, h⟩⟩
  obtain ⟨v, i2, b2, p1, p2, d1⟩ := d0.num
  have hw := rpr_num (b := b) hL hlt n40 k1 k2 k3 c
  rw [p1.1, p1.2.1, p1.2.2] at hw
  exact ⟨_, i2, b2, p2, d1.fin.1, hw, d1.fin.2⟩
 ·rename_i c
  have d0 : Dd L i false (fun r => bndO (some (nameT r)) fun v r => some (.ok (Xp.mk 2 0 0 0 v []) r)) res := ⟨hi, .inl ⟨rfl, h⟩⟩
  obtain ⟨v, i2, b2, p1, p2, d1⟩ := d0.name
  have hw := rpr_name (b := b) hL (i := i) (bd := false) n40 k1 k2 k3 (.inr c)
  rw [p1.1, p1.2.1, p1.2.2] at hw
  exact ⟨_, i2, b2, p2, d1.fin.1, hw, d1.fin.2⟩
theorem w_ex (hL : TokL L) : ∀ n, ExC b L n := by
 intro n
 induction n using Nat.strongRecOn with
 | ind n ih =>
 intro k i res hk1 hk8 h hi
 obtain _ | n := n
 ·cases h
 have hpr := pmC (b := b) hL n (fun m hm => ih m (by omega))
 have ihn := ih n (Nat.lt_succ_self n)
 refine RdR.of ?_
 have lp : ∀ k, (k = 1 ∨ k = 2 ∨ k = 5 ∨ k = 6) → (bndO (par n (.lev (k + 1)) (L.drop i)) fun x r => par n (.lp k x) r) = some res →
   (∀ {y1 : Xp} {i1 : Nat} {b1 : Bool}, ExA b L (k + 1) i false y1 i1 b1 → ∀ {d : Nat} {x' : Xp} {i' : Nat} {bd' : Bool}, Lq b L k d y1 i1 b1 x' i' bd' → ExA b L k i false x' i' bd') →
   ∃ y i' bd, i ≤ i' ∧ i' ≤ L.length ∧ ExA b L k i false y i' bd ∧ Out L i' bd y res := by
  intro k hk h hw
  cases hq : par n (.lev (k + 1)) (L.drop i) with
  | none => rw [hq] at h; cases h
  | some q =>
   rw [hq] at h
   obtain ⟨y, i1, bd1, r1, r2, r3, r4⟩ := (ihn (k + 1) i q (by omega) (by omega) hq hi).any
   rcases r4 with ⟨rfl, rfl⟩ | ⟨rfl, rfl⟩
   ·obtain ⟨d, x', i', bd', q1, q2, q3, q4⟩ := lq_ex hk n (fun m hm => ih m (by omega)) y i1 res h r2
    exact ⟨x', i', bd', by omega, q3, hw r3 q1, q4⟩
   ·cases h
    exact ⟨y, i1, true, r1, r2, hw r3 (.bad _ _), .inr ⟨rfl, rfl⟩⟩
 rw [par] at h
 rcases (by omega : k = 1 ∨ k = 2 ∨ k = 3 ∨ k = 4 ∨ k = 5 ∨ k = 6 ∨ k = 7 ∨ k = 8) with rfl | rfl | rfl | rfl | rfl | rfl | rfl | rfl
 ·rw [if_pos (by omega)] at h
  exact lp 1 (by simp) h (fun h1 _ _ _ _ h2 => ex_l1 hL h1 h2)
 ·rw [if_neg (by omega), if_pos (by simp)] at h
  exact lp 2 (by simp) h (fun h1 _ _ _ _ h2 => ex_l2 hL h1 h2)
 ·rw [if_neg (by omega), if_neg (by omega), if_pos rfl] at h
  split at h
  ·rename_i c
   have hlt := drop_hd (L := L) (i := i) (by rw [c]; decide)
   rw [show (L.drop i).tail = L.drop (i + 1) by rw [List.tail_drop]] at h
   cases hq : par n (.lev 3) (L.drop (i + 1)) with
   | none => rw [hq] at h; cases h
   | some q =>
    rw [hq] at h
    obtain ⟨y, i1, bd1, r1, r2, r3, r4⟩ := (ihn 3 (i + 1) q (by omega) (by omega) hq (by omega)).any
    have hw := ex_one (b := b) hL (.inr ⟨rfl, rfl, rfl⟩) (i := i) (bd := false) c r3
    rcases r4 with ⟨rfl, rfl⟩ | ⟨rfl, rfl⟩
    ·cases h; exact ⟨_, i1, false, by omega, r2, hw, .inl ⟨rfl, rfl⟩⟩
    ·cases h; exact ⟨_, i1, true, by omega, r2, hw, .inr ⟨rfl, rfl⟩⟩
  ·rename_i c
   obtain ⟨y, i1, bd1, r1, r2, r3, r4⟩ := (ihn 4 i res (by omega) (by omega) h hi).any
   exact ⟨y, i1, bd1, r1, r2, ex_3 (i := i) (bd := false) c r3, r4⟩
 ·rw [if_neg (by omega), if_neg (by omega), if_neg (by omega), if_pos rfl] at h
  cases hq : par n (.lev 5) (L.drop i) with
  | none => rw [hq] at h; cases h
  | some q =>
   rw [hq] at h
   obtain ⟨x, i1, bd1, r1, r2, r3, r4⟩ := (ihn 5 i q (by omega) (by omega) hq hi).any
   rcases r4 with ⟨rfl, rfl⟩ | ⟨rfl, rfl⟩
   ·replace h : (match opT 4 (hdT (L.drop i1)) with
     | some o => bndO (par n (.lev 5) (L.drop i1).tail) fun y r' => some (.ok (two o x y) r')
     | none => some (.ok x (L.drop i1))) = some res := h
    cases ho : opT 4 (hdT (L.drop i1)) with
    | none =>
     rw [ho] at h
     cases h
     exact ⟨x, i1, false, r1, r2, ex_4 hL r3 ((opT_4 _).1 ho), .inl ⟨rfl, rfl⟩⟩
    | some o =>
     rw [ho] at h
     obtain ⟨g1, g2⟩ := (opT_4 _).2 _ ho
     have hlt := drop_hd (L := L) (i := i1) (fun q => by rw [q] at ho; exact opT_nil ho)
     replace h : (bndO (par n (.lev 5) (L.drop i1).tail) fun y r' => some (.ok (two o x y) r')) = some res := h
     rw [show (L.drop i1).tail = L.drop (i1 + 1) by rw [List.tail_drop]] at h
     cases hq2 : par n (.lev 5) (L.drop (i1 + 1)) with
     | none => rw [hq2] at h; cases h
     | some q2 =>
      rw [hq2] at h
      obtain ⟨y, i2, bd2, s1, s2, s3, s4⟩ := (ihn 5 (i1 + 1) q2 (by omega) (by omega) hq2 (by omega)).any
      have hw := ex_4o hL r3 (k := kfF 6 14 (pk L i1 false)) rfl g2 s3
      rw [show ((kfF 6 14 (pk L i1 false) : Nat) : Int) = o from g1] at hw
      rcases s4 with ⟨rfl, rfl⟩ | ⟨rfl, rfl⟩
      ·cases h; exact ⟨_, i2, false, by omega, s2, hw, .inl ⟨rfl, rfl⟩⟩
      ·cases h; exact ⟨_, i2, true, by omega, s2, hw, .inr ⟨rfl, rfl⟩⟩
   ·cases h
    exact ⟨x, i1, true, r1, r2, ex_4 hL r3 (kf_nil (by intro j _ _; omega)), .inr ⟨rfl, rfl⟩⟩
 ·rw [if_neg (by omega), if_pos (by simp)] at h
  exact lp 5 (by simp) h (fun h1 _ _ _ _ h2 => ex_l5 hL h1 h2)
 ·rw [if_neg (by omega), if_pos (by simp)] at h
  exact lp 6 (by simp) h (fun h1 _ _ _ _ h2 => ex_l6 hL h1 h2)
 ·rw [if_neg (by omega), if_neg (by omega), if_neg (by omega), if_neg (by omega)] at h
  split at h
  ·rename_i c
   have c := c.2
   have hlt := drop_hd (L := L) (i := i) (by rw [c]; decide)
   rw [show (L.drop i).tail = L.drop (i + 1) by rw [List.tail_drop]] at h
   cases hq : par n (.lev 7) (L.drop (i + 1)) with
   | none => rw [hq] at h; cases h
   | some q =>
    rw [hq] at h
    obtain ⟨y, i1, bd1, r1, r2, r3, r4⟩ := (ihn 7 (i + 1) q (by omega) (by omega) hq (by omega)).any
    have hw := ex_one (b := b) hL (.inl ⟨rfl, rfl, rfl⟩) (i := i) (bd := false) c r3
    rcases r4 with ⟨rfl, rfl⟩ | ⟨rfl, rfl⟩
    ·cases h; exact ⟨_, i1, false, by omega, r2, hw, .inl ⟨rfl, rfl⟩⟩
    ·cases h; exact ⟨_, i1, true, by omega, r2, hw, .inr ⟨rfl, rfl⟩⟩
  ·rename_i c
   obtain ⟨y, i1, bd1, r1, r2, r3, r4⟩ := (hpr i res h hi).any
   exact ⟨y, i1, bd1, r1, r2, ex_prm (.inl rfl) (i := i) (bd := false) (fun _ q => c ⟨rfl, q⟩) r3, r4⟩
 ·rw [if_neg (by omega), if_neg (by omega), if_neg (by omega), if_neg (by omega), if_neg (by omega)] at h
  obtain ⟨y, i1, bd1, r1, r2, r3, r4⟩ := (hpr i res h hi).any
  exact ⟨y, i1, bd1, r1, r2, ex_prm (.inr rfl) (fun q => absurd q (by omega)) r3, r4⟩
end
end Go.Proofs.YtpggidmbnjfmaaaGreatDoor
end
