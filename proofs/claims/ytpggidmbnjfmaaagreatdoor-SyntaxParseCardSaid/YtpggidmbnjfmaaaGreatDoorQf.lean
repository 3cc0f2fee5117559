/- Chapter 32: statements and rules of the reference's parser. Printed by gen_xqf.py. -/
import Derived.Test.YtpggidmbnjfmaaaGreatDoorQb
import Derived.Test.YtpggidmbnjfmaaaGreatDoorPsf
import Derived.Test.YtpggidmbnjfmaaaGreatDoorSyf
import Derived.Test.YtpggidmbnjfmaaaGreatDoorPpm
import Derived.Test.YtpggidmbnjfmaaaGreatDoorPaw
import Derived.Test.YtpggidmbnjfmaaaGreatDoorPsq
import Derived.Test.YtpggidmbnjfmaaaGreatDoorPrg
section
set_option linter.unusedSimpArgs false
set_option linter.unusedVariables false
set_option maxHeartbeats 4000000
set_option maxRecDepth 8000
namespace Go.Proofs.YtpggidmbnjfmaaaGreatDoor
open E

section
variable {b : Nat} {L : List Tok}
def StA (b : Nat) (L : List Tok) (i : Nat) (s : Stm) (i2 : Nat) (b2 : Bool) : Prop := PaF 73 [.ptr b 0] b L i false s.v i2 b2
theorem rst_let (hL : TokL L) {i : Nat} (hT : pk L i false = sLet) {nm : List UInt8} {i2 i3 : Nat} {b2 b3 : Bool} (hn : (nmO L (i + 1) false).getD [] = nm ∧ (if (nmO L (i + 1) false).isSome then i + 1 + 1 else i + 1) = i2 ∧ (if (nmO L (i + 1) false).isSome then false else true) = b2) (h3 : needF L [[61]] i2 b2 = (i3, b3)) {y : Xp} {i4 i5 : Nat} {b4 b5 : Bool} (hy : ExA b L 1 i3 b3 y i4 b4) (h5 : needF L [[59]] i4 b4 = (i5, b5)) : StA b L i ⟨1, 0, nm, y⟩ i5 b5 := by
 intro B K hb hok
 have E := env hb hok
 have hil := hL.len
 have hX : ∀ (k a : Int) (nm : List UInt8), ∀ n m, B.length + [zs, .cells [vI k, vI a, vS nm, vI 0, vI 0, vI 0, vI 0, vS [], .snil]].length ≤ n → K.length ≤ m → LeBs n m [zs, .cells [vI k, vI a, vS nm, vI 0, vI 0, vI 0, vI 0, vS [], .snil]] [zs, .cells [vI k, vI a, vS nm, vI 0, vI 0, vI 0, vI 0, vS [], .snil]] := fun k a nm n m _ _ => ⟨leB_zs n m, leB_ns k a nm n m, trivial⟩
 have hXe : ∀ (k a : Int) (nm : List UInt8), ∀ n m, B.length + [zs, .cells (vI k :: vI a :: vS nm :: y.c.map V.t)].length ≤ n → K.length ≤ m → LeBs n m [zs, .cells (vI k :: vI a :: vS nm :: y.c.map V.t)] [zs, .cells (vI k :: vI a :: vS nm :: y.c.map V.t)] := fun k a nm n m _ _ => ⟨leB_zs n m, leB_sx k a nm y n m, trivial⟩
 have hln := E.ln
 have hc0 := E.c0
 have ht0 := E.t0
 have hc1 := E.c1
 have ht1 := E.t1
 have hend : ∀ l, LeBs B.length K.length (B.set b (rX L i5 b5) ++ l) (B.set b (rX L i5 b5)) := fun l => E.fia L i5 b5 l
 have hly := len_c y
 have hty := take_c y
 have hdy : (y.c.map V.t).drop 6 = [] := List.drop_of_length_le (by simp [hly])
 have hzs : zs = .cells [vI 0, vI 0, vS [], vI 0, vI 0, vI 0, vI 0, vS [], .snil] := rfl
 have q1 := (w_rtk1 (b := b) hil hT (by decide)).on hb hok (Nat.le_refl _) (hX 0 0 [])
 have q2 := (w_rname (b := b) hL (i := i + 1) (bd := false)).on hb hok (Nat.le_refl _) (hX 0 0 [])
 rw [hn.1, hn.2.1, hn.2.2] at q2
 have q3 := (w_rwant (b := b) hil (i := i2) (bd := b2) (s := [61]) (by decide)).on hb hok (Nat.le_refl _) (hX 1 0 nm)
 rw [h3] at q3
 simp only [] at q3
 rw [hzs] at q1 q2 q3
 unfold sLet at q1
 have qe := PaF.on hy hb hok (Nat.le_refl _) (hX 1 0 nm)
 have qw := (w_rwant (b := b) hil (i := i4) (bd := b4) (s := [59]) (by decide)).on hb hok (Nat.le_refl _) (hXe 1 0 nm)
 rw [h5] at qw
 simp only [] at qw
 rw [hzs] at qe qw
 (refine FnS.of_code mix Tryz.call73 k_73 (by simp) (fun hB => ?_); (try simp at hB); (try simp -implicitDefEqProofs [qc_73]))
 (try simp -implicitDefEqProofs [hln])
 refine callKf q1 ?_
 (try simp -implicitDefEqProofs [hln])
 refine callKf q2 ?_
 (try simp -implicitDefEqProofs [hln, hc1, ht1])
 refine callKf q3 ?_
 (try simp -implicitDefEqProofs [hln])
 refine callKf qe ?_
 (try simp -implicitDefEqProofs [hln, hc1, ht1, hly, hty, hdy])
 refine callKf qw ?_
 (try simp -implicitDefEqProofs [hln, hc0, ht0, hc1, ht1, hly, hty, hdy, Stm.c])
 all_goals exact ⟨hend _, LeNs.refl _⟩
theorem rst_req (hL : TokL L) {i : Nat} (h0 : pk L i false ≠ sLet) (hT : pk L i false = sReq) {i3 : Nat} {b3 : Bool} (h3 : i3 = i + 1 ∧ b3 = false) {y : Xp} {i4 i5 : Nat} {b4 b5 : Bool} (hy : ExA b L 1 i3 b3 y i4 b4) (h5 : needF L [[59]] i4 b4 = (i5, b5)) : StA b L i ⟨2, 0, [], y⟩ i5 b5 := by
 intro B K hb hok
 have E := env hb hok
 have hil := hL.len
 have hX : ∀ (k a : Int) (nm : List UInt8), ∀ n m, B.length + [zs, .cells [vI k, vI a, vS nm, vI 0, vI 0, vI 0, vI 0, vS [], .snil]].length ≤ n → K.length ≤ m → LeBs n m [zs, .cells [vI k, vI a, vS nm, vI 0, vI 0, vI 0, vI 0, vS [], .snil]] [zs, .cells [vI k, vI a, vS nm, vI 0, vI 0, vI 0, vI 0, vS [], .snil]] := fun k a nm n m _ _ => ⟨leB_zs n m, leB_ns k a nm n m, trivial⟩
 have hXe : ∀ (k a : Int) (nm : List UInt8), ∀ n m, B.length + [zs, .cells (vI k :: vI a :: vS nm :: y.c.map V.t)].length ≤ n → K.length ≤ m → LeBs n m [zs, .cells (vI k :: vI a :: vS nm :: y.c.map V.t)] [zs, .cells (vI k :: vI a :: vS nm :: y.c.map V.t)] := fun k a nm n m _ _ => ⟨leB_zs n m, leB_sx k a nm y n m, trivial⟩
 have hln := E.ln
 have hc0 := E.c0
 have ht0 := E.t0
 have hc1 := E.c1
 have ht1 := E.t1
 have hend : ∀ l, LeBs B.length K.length (B.set b (rX L i5 b5) ++ l) (B.set b (rX L i5 b5)) := fun l => E.fia L i5 b5 l
 have hly := len_c y
 have hty := take_c y
 have hdy : (y.c.map V.t).drop 6 = [] := List.drop_of_length_le (by simp [hly])
 have hzs : zs = .cells [vI 0, vI 0, vS [], vI 0, vI 0, vI 0, vI 0, vS [], .snil] := rfl
 obtain ⟨rfl, rfl⟩ := h3
 have q1 := (w_rtk0 (b := b) h0).on hb hok (Nat.le_refl _) (hX 0 0 [])
 have q2 := (w_rtk1 (b := b) hil hT (by decide)).on hb hok (Nat.le_refl _) (hX 0 0 [])
 rw [hzs] at q1 q2
 unfold sLet at q1
 unfold sReq at q2
 have qe := PaF.on hy hb hok (Nat.le_refl _) (hX 2 0 [])
 have qw := (w_rwant (b := b) hil (i := i4) (bd := b4) (s := [59]) (by decide)).on hb hok (Nat.le_refl _) (hXe 2 0 [])
 rw [h5] at qw
 simp only [] at qw
 rw [hzs] at qe qw
 (refine FnS.of_code mix Tryz.call73 k_73 (by simp) (fun hB => ?_); (try simp at hB); (try simp -implicitDefEqProofs [qc_73]))
 (try simp -implicitDefEqProofs [hln])
 refine callKf q1 ?_
 (try simp -implicitDefEqProofs [hln])
 refine callKf q2 ?_
 (try simp -implicitDefEqProofs [hln, hc1, ht1])
 refine callKf qe ?_
 (try simp -implicitDefEqProofs [hln, hc1, ht1, hly, hty, hdy])
 refine callKf qw ?_
 (try simp -implicitDefEqProofs [hln, hc0, ht0, hc1, ht1, hly, hty, hdy, Stm.c])
 all_goals exact ⟨hend _, LeNs.refl _⟩
theorem rst_post (hL : TokL L) {i : Nat} (h0 : pk L i false ≠ sLet) (h1 : pk L i false ≠ sReq) {a : Int} {i2 i3 : Nat} {b2 b3 : Bool} (h2 : needF L [sPost] i false = (i2, b2)) (ha : (nuO 1 99999 L i2 b2).getD 0 = a ∧ (if (nuO 1 99999 L i2 b2).isSome then i2 + 1 else i2) = i3 ∧ (if (nuO 1 99999 L i2 b2).isSome then b2 else true) = b3) {y : Xp} {i4 i5 : Nat} {b4 b5 : Bool} (hy : ExA b L 1 i3 b3 y i4 b4) (h5 : needF L [[59]] i4 b4 = (i5, b5)) : StA b L i ⟨3, a, [], y⟩ i5 b5 := by
 intro B K hb hok
 have E := env hb hok
 have hil := hL.len
 have hX : ∀ (k a : Int) (nm : List UInt8), ∀ n m, B.length + [zs, .cells [vI k, vI a, vS nm, vI 0, vI 0, vI 0, vI 0, vS [], .snil]].length ≤ n → K.length ≤ m → LeBs n m [zs, .cells [vI k, vI a, vS nm, vI 0, vI 0, vI 0, vI 0, vS [], .snil]] [zs, .cells [vI k, vI a, vS nm, vI 0, vI 0, vI 0, vI 0, vS [], .snil]] := fun k a nm n m _ _ => ⟨leB_zs n m, leB_ns k a nm n m, trivial⟩
 have hXe : ∀ (k a : Int) (nm : List UInt8), ∀ n m, B.length + [zs, .cells (vI k :: vI a :: vS nm :: y.c.map V.t)].length ≤ n → K.length ≤ m → LeBs n m [zs, .cells (vI k :: vI a :: vS nm :: y.c.map V.t)] [zs, .cells (vI k :: vI a :: vS nm :: y.c.map V.t)] := fun k a nm n m _ _ => ⟨leB_zs n m, leB_sx k a nm y n m, trivial⟩
 have hln := E.ln
 have hc0 := E.c0
 have ht0 := E.t0
 have hc1 := E.c1
 have ht1 := E.t1
 have hend : ∀ l, LeBs B.length K.length (B.set b (rX L i5 b5) ++ l) (B.set b (rX L i5 b5)) := fun l => E.fia L i5 b5 l
 have hly := len_c y
 have hty := take_c y
 have hdy : (y.c.map V.t).drop 6 = [] := List.drop_of_length_le (by simp [hly])
 have hzs : zs = .cells [vI 0, vI 0, vS [], vI 0, vI 0, vI 0, vI 0, vS [], .snil] := rfl
 have q1 := (w_rtk0 (b := b) h0).on hb hok (Nat.le_refl _) (hX 0 0 [])
 have q2 := (w_rtk0 (b := b) h1).on hb hok (Nat.le_refl _) (hX 0 0 [])
 have q3 := (w_rwant (b := b) hil (i := i) (bd := false) (s := sPost) (by decide)).on hb hok (Nat.le_refl _) (hX 0 0 [])
 rw [h2] at q3
 simp only [] at q3
 have q4 := (w_rnumber (b := b) hL (i := i2) (bd := b2) 1 99999).on hb hok (Nat.le_refl _) (hX 0 0 [])
 rw [ha.1, ha.2.1, ha.2.2] at q4
 rw [hzs] at q1 q2 q3 q4
 unfold sLet at q1
 unfold sReq at q2
 unfold sPost at q3
 have qe := PaF.on hy hb hok (Nat.le_refl _) (hX 3 a [])
 have qw := (w_rwant (b := b) hil (i := i4) (bd := b4) (s := [59]) (by decide)).on hb hok (Nat.le_refl _) (hXe 3 a [])
 rw [h5] at qw
 simp only [] at qw
 rw [hzs] at qe qw
 (refine FnS.of_code mix Tryz.call73 k_73 (by simp) (fun hB => ?_); (try simp at hB); (try simp -implicitDefEqProofs [qc_73]))
 (try simp -implicitDefEqProofs [hln])
 refine callKf q1 ?_
 (try simp -implicitDefEqProofs [hln])
 refine callKf q2 ?_
 (try simp -implicitDefEqProofs [hln])
 refine callKf q3 ?_
 (try simp -implicitDefEqProofs [hln])
 refine callKf q4 ?_
 (try simp -implicitDefEqProofs [hln, hc1, ht1])
 refine callKf qe ?_
 (try simp -implicitDefEqProofs [hln, hc1, ht1, hly, hty, hdy])
 refine callKf qw ?_
 (try simp -implicitDefEqProofs [hln, hc0, ht0, hc1, ht1, hly, hty, hdy, Stm.c])
 all_goals exact ⟨hend _, LeNs.refl _⟩
theorem rst_ex (hL : TokL L) {n i : Nat} {res : Rd Stm} (h : stmO n (L.drop i) = some res) (hi : i ≤ L.length) : ∃ s i' bd, i ≤ i' ∧ i' ≤ L.length ∧ StA b L i s i' bd ∧ Out L i' bd s res := by
 have hlev := w_ex (b := b) hL n
 unfold stmO at h
 simp only [List.tail_drop] at h
 split at h
 ·rename_i c
  have hlt := drop_hd (L := L) (i := i) (by rw [c]; decide)
  have d0 : Dd L (i + 1) false (fun r => bndO (some (nameT r)) fun s r => bndO (some (wantT [61] r)) fun _ r => bndO (par n (.lev 0) r) fun x r => bndO (some (wantT [59] r)) fun _ r => some (.ok (⟨1, 0, s, x⟩ : Stm) r)) res := ⟨by omega, .inl ⟨rfl, h⟩⟩
  obtain ⟨nm, i2, b2, p1, p2, d1⟩ := d0.name
  obtain ⟨i3, b3, q1, q2, d2⟩ := d1.want (by decide)
  obtain ⟨y, i4, b4, r1, r2, d3⟩ := d2.ex hL hlev
  obtain ⟨i5, b5, s1, s2, d4⟩ := d3.want (by decide)
  exact ⟨_, i5, b5, by omega, d4.fin.1, rst_let hL c p1 q1 r1 s1, d4.fin.2⟩
 rename_i c0
 split at h
 ·rename_i c
  have hlt := drop_hd (L := L) (i := i) (by rw [c]; decide)
  have d0 : Dd L (i + 1) false (fun r => bndO (par n (.lev 0) r) fun x r => bndO (some (wantT [59] r)) fun _ r => some (.ok (⟨2, 0, [], x⟩ : Stm) r)) res := ⟨by omega, .inl ⟨rfl, h⟩⟩
  obtain ⟨y, i4, b4, r1, r2, d3⟩ := d0.ex hL hlev
  obtain ⟨i5, b5, s1, s2, d4⟩ := d3.want (by decide)
  exact ⟨_, i5, b5, by omega, d4.fin.1, rst_req hL c0 c ⟨rfl, rfl⟩ r1 s1, d4.fin.2⟩
 rename_i c1
 have d0 : Dd L i false (fun r => bndO (some (wantT sPost r)) fun _ r => bndO (some (numT 1 99999 r)) fun a r => bndO (par n (.lev 0) r) fun x r => bndO (some (wantT [59] r)) fun _ r => some (.ok (⟨3, a, [], x⟩ : Stm) r)) res := by
  refine ⟨hi, .inl ⟨rfl, ?_⟩⟩
  split at h
  ·rename_i c
   show bndO (some (wantT sPost (L.drop i))) _ = _
   unfold wantT
   rw [if_pos c, List.tail_drop]
   exact h
  ·rename_i c
   show bndO (some (wantT sPost (L.drop i))) _ = _
   unfold wantT
   rw [if_neg c]
   exact h
 obtain ⟨i2, b2, p1, p2, d1⟩ := d0.want (by decide)
 obtain ⟨a, i3, b3, q1, q2, d2⟩ := d1.num
 obtain ⟨y, i4, b4, r1, r2, d3⟩ := d2.ex hL hlev
 obtain ⟨i5, b5, s1, s2, d4⟩ := d3.want (by decide)
 exact ⟨_, i5, b5, by omega, d4.fin.1, rst_post hL c0 c1 p1 q1 r1 s1, d4.fin.2⟩
inductive Sq (b : Nat) (L : List Tok) : Nat → List Stm → Nat → Bool → List Stm → Nat → Bool → Prop where
 | bad (ss : List Stm) (i : Nat) : Sq b L 0 ss i true ss i true
 | stop (ss : List Stm) (i : Nat) (h : hdT (L.drop i) = sTo) : Sq b L 0 ss i false ss i false
 | step (d : Nat) (ss : List Stm) (i : Nat) (s : Stm) (i2 : Nat) (bd2 : Bool) (ss' : List Stm) (i' : Nat) (bd' : Bool) (h1 : hdT (L.drop i) ≠ sTo) (h2 : StA b L i s i2 bd2)
   (h : Sq b L d (ss ++ [s]) i2 bd2 ss' i' bd') : Sq b L (d + 1) ss i false ss' i' bd'
theorem sq_ex (hL : TokL L) {n : Nat} : ∀ (m : Nat) (ss : List Stm) (i : Nat) (res : Rd (List Stm)), stmsO n m ss (L.drop i) = some res → i ≤ L.length →
  ∃ d ss' i' bd', Sq b L d ss i false ss' i' bd' ∧ d ≤ m ∧ i ≤ i' ∧ i' ≤ L.length ∧ Out L i' bd' ss' res
 | 0, ss, i, res, h, hi => by cases h
 | m + 1, ss, i, res, h, hi => by
  rw [stmsO] at h
  split at h
  ·rename_i c
   cases h
   exact ⟨0, ss, i, false, .stop ss i c, by omega, Nat.le_refl _, hi, .inl ⟨rfl, rfl⟩⟩
  rename_i c
  cases hq : stmO n (L.drop i) with
  | none => rw [hq] at h; cases h
  | some q =>
   rw [hq] at h
   obtain ⟨s, i2, bd2, r1, r2, r3, r4⟩ := rst_ex (b := b) hL hq hi
   rcases r4 with ⟨rfl, rfl⟩ | ⟨rfl, rfl⟩
   ·obtain ⟨d, ss', i', bd', q1, q0, q2, q3, q4⟩ := sq_ex hL m _ i2 res h r2
    exact ⟨d + 1, ss', i', bd', .step d ss i s i2 false ss' i' bd' c r3 q1, by omega, by omega, q3, q4⟩
   ·cases h
    exact ⟨1, _, i2, true, .step 0 ss i s i2 true _ _ _ c r3 (.bad _ _), by omega, r1, r2, .inr ⟨rfl, rfl⟩⟩
theorem Dd.sq (hL : TokL L) {β : Type} {n : Nat} {i : Nat} {bd : Bool} {E : List Stm → List Tok → Option (Rd β)} {res : Rd β} (h : Dd L i bd (fun r => bndO (stmsO n n [] r) fun ss r => E ss r) res) :
  ∃ d ss i' b', Sq b L d [] i bd ss i' b' ∧ d ≤ n ∧ i ≤ i' ∧ Dd L i' b' (E ss) res := by
 obtain ⟨hi, h | h⟩ := h
 ·obtain ⟨rfl, h⟩ := h
  replace h : (bndO (stmsO n n [] (L.drop i)) fun ss r => E ss r) = some res := h
  cases hq : stmsO n n [] (L.drop i) with
  | none => rw [hq] at h; cases h
  | some q =>
   rw [hq] at h
   obtain ⟨d, ss, i', bd', q1, q0, q2, q3, q4⟩ := sq_ex (b := b) hL n [] i q hq hi
   refine ⟨d, ss, i', bd', q1, q0, q2, q3, ?_⟩
   rcases q4 with ⟨rfl, rfl⟩ | ⟨rfl, rfl⟩
   ·exact .inl ⟨rfl, h⟩
   ·exact .inr ⟨rfl, (Option.some.inj h).symm⟩
 ·obtain ⟨rfl, h⟩ := h
  exact ⟨0, [], i, true, .bad _ _, Nat.zero_le _, Nat.le_refl _, hi, .inr ⟨rfl, h⟩⟩
end
end Go.Proofs.YtpggidmbnjfmaaaGreatDoor
end

/- Chapter 32: rules and programs of the reference's parser; its Parse. Printed by gen_xqg.py. -/
section
set_option linter.unusedSimpArgs false
set_option linter.unusedVariables false
set_option maxHeartbeats 4000000
set_option maxRecDepth 8000
namespace Go.Proofs.YtpggidmbnjfmaaaGreatDoor
open E

section
variable {b : Nat} {L : List Tok}
def RlA (b : Nat) (L : List Tok) (i : Nat) (r : Rul) (i2 : Nat) (b2 : Bool) : Prop := PaF 31 [.ptr b 0] b L i false r.v i2 b2
theorem rrl_walk (hL : TokL L) {i i1 i2 i3 i5 i6 i7 i8 i9 i10 : Nat} {b1 b2 b3 b5 b6 b7 b8 b9 b10 : Bool} {nm : List UInt8} {pr : Bool} {d : Nat} {ss : List Stm} {to : Int}
  (h1 : needF L [sRule] i false = (i1, b1))
  (h2 : (nmO L i1 b1).getD [] = nm ∧ (if (nmO L i1 b1).isSome then i1 + 1 else i1) = i2 ∧ (if (nmO L i1 b1).isSome then b1 else true) = b2)
  (h3 : needF L [sEach] i2 b2 = (i3, b3))
  (h4 : (if pk L i3 b3 = sPair then pr = true ∧ needF L [[123]] (i3 + 1) b3 = (i5, b5) else pr = false ∧ needF L [sEnt, [123]] i3 b3 = (i5, b5)))
  (h5 : Sq b L d [] i5 b5 ss i6 b6) (hd : d ≤ 1000000000)
  (h6 : needF L [sTo] i6 b6 = (i7, b7))
  (h7 : (nuO 1 99999 L i7 b7).getD 0 = to ∧ (if (nuO 1 99999 L i7 b7).isSome then i7 + 1 else i7) = i8 ∧ (if (nuO 1 99999 L i7 b7).isSome then b7 else true) = b8)
  (h8 : needF L [[59]] i8 b8 = (i9, b9)) (h9 : needF L [[125]] i9 b9 = (i10, b10)) : RlA b L i ⟨nm, pr, ss, to⟩ i10 b10 := by
 intro B K hb hok
 have E := env hb hok
 have hil := hL.len
 have lz : ∀ (nm : List UInt8) (pr : Bool) (to : Int) (n m : Nat), leB n m (.cells [vS nm, vB pr, .snil, vI to]) (.cells [vS nm, vB pr, .snil, vI to]) := fun _ _ _ _ _ => ⟨LeL_refl _, rfl⟩
 have hX : ∀ n m, B.length + [Bx.cells [vS [], vB false, .snil, vI 0]].length ≤ n → K.length ≤ m → LeBs n m [.cells [vS [], vB false, .snil, vI 0]] [.cells [vS [], vB false, .snil, vI 0]] := fun n m _ _ => ⟨lz _ _ _ n m, trivial⟩
 have hX2 : ∀ (nm : List UInt8) (pr : Bool) (to : Int), ∀ n m, B.length + [Bx.cells [vS [], vB false, .snil, vI 0], .cells [vS nm, vB pr, .snil, vI to]].length ≤ n → K.length ≤ m → LeBs n m [.cells [vS [], vB false, .snil, vI 0], .cells [vS nm, vB pr, .snil, vI to]] [.cells [vS [], vB false, .snil, vI 0], .cells [vS nm, vB pr, .snil, vI to]] := fun nm pr to n m _ _ => ⟨lz _ _ _ n m, lz _ _ _ n m, trivial⟩
 have lown : ∀ (nm : List UInt8) (pr : Bool) (to : Int) (x : List Stm) (n m : Nat), K.length + 1 ≤ m → leB n m (.cells [vS nm, vB pr, .own K.length 71 9 (x.map Stm.c), vI to]) (.cells [vS nm, vB pr, .own K.length 71 9 (x.map Stm.c), vI to]) := fun nm pr to x n m hm => ⟨LeL_refl _, by simp [okNs, okN]; omega⟩
 have hX3 : ∀ (nm : List UInt8) (pr : Bool) (to : Int) (x : List Stm) (q : Nat), ∀ n m, B.length + [Bx.cells [vS [], vB false, .snil, vI 0], .cells [vS nm, vB pr, .own K.length 71 9 (x.map Stm.c), vI to]].length ≤ n → (K ++ [q]).length ≤ m → LeBs n m [.cells [vS [], vB false, .snil, vI 0], .cells [vS nm, vB pr, .own K.length 71 9 (x.map Stm.c), vI to]] [.cells [vS [], vB false, .snil, vI 0], .cells [vS nm, vB pr, .own K.length 71 9 (x.map Stm.c), vI to]] := fun nm pr to x q n m _ hm => ⟨lz _ _ _ n m, lown nm pr to x n m (by simpa using hm), trivial⟩
 have hK3 : ∀ q : Nat, K.length ≤ (K ++ [q]).length := fun q => by simp
 have hln := E.ln
 have hga := E.ga
 have hc0 := E.c0
 have ht0 := E.t0
 have hc1 := E.c1
 have ht1 := E.t1
 have hle := E.le
 have hend : ∀ l, LeBs B.length K.length (B.set b (rX L i10 b10) ++ l) (B.set b (rX L i10 b10)) := fun l => E.fia L i10 b10 l
 have tg : ∀ (a : Nat), (K ++ [a])[K.length]? = some a := fun a => by simp
 have ts : ∀ (a c : Nat), (K ++ [a]).set K.length c = K ++ [c] := fun a c => by simp
 have lnK : ∀ l : List Nat, LeNs (K ++ l) K := fun l => by
  have : ∀ (M : List Nat), LeNs (M ++ l) M := fun M => by
   induction M with
   | nil => cases l <;> trivial
   | cons x M ih => exact ⟨rfl, ih⟩
  exact this K
 have hrx : ∀ i bd, rX L i bd = .cells [Tok.l L, vI i, vB bd] := fun _ _ => rfl
 have n1 := (w_rwant (b := b) hil (i := i) (bd := false) (s := sRule) (by decide)).on hb hok (Nat.le_refl _) hX
 rw [h1] at n1
 have n2 := (w_rname (b := b) hL (i := i1) (bd := b1)).on hb hok (Nat.le_refl _) hX
 rw [h2.1, h2.2.1, h2.2.2] at n2
 have n3 := (w_rwant (b := b) hil (i := i2) (bd := b2) (s := sEach) (by decide)).on hb hok (Nat.le_refl _) (hX2 nm false 0)
 rw [h3] at n3
 simp only [] at n1 n3
 unfold sRule at n1
 unfold sEach at n3
 (refine FnS.of_codeW mix Tryz.call31 kw_31 (by simp) (fun hB => ?_); (try simp at hB); (try simp -implicitDefEqProofs [qw_31]))
 (try simp -implicitDefEqProofs [hln])
 refine callKf n1 ?_
 (try simp -implicitDefEqProofs [hln])
 refine callKf n2 ?_
 (try simp -implicitDefEqProofs [hln, hc1, ht1])
 refine callKf n3 ?_
 (try simp -implicitDefEqProofs [hln])
 by_cases hp : pk L i3 b3 = sPair
 ·rw [if_pos hp] at h4
  obtain ⟨rfl, h4⟩ := h4
  have nt := (w_rtk1 (b := b) hil hp (by decide)).on hb hok (Nat.le_refl _) (hX2 nm false 0)
  have n4 := (w_rwant (b := b) hil (i := i3 + 1) (bd := b3) (s := [123]) (by decide)).on hb hok (Nat.le_refl _) (hX2 nm true 0)
  rw [h4] at n4
  simp only [] at n4
  unfold sPair at nt
  refine callKf nt ?_
  (try simp -implicitDefEqProofs [hln, hc1, ht1])
  refine callKf n4 ?_
  (try simp -implicitDefEqProofs [hln])
  refine loop_grow [(.cell (B.length + 1) 2, 71, 9)] (X := SX) (fun X => Sq b L X.d X.ss X.i X.bd ss i6 b6 ∧ X.ss.length + X.d ≤ 1000000000) (fun X => [(0, .ptr b 0), (2, .ptr B.length 0), (3, .ptr (B.length + 1) 0)])
   (fun X => ⟨B.set b (rX L X.i X.bd) ++ [.cells [vS [], vB false, .snil, vI 0], .cells [vS nm, vB true, .own K.length 71 9 (X.ss.map Stm.c), vI 0]], K ++ [X.ss.length]⟩) (fun X => X.d) ⟨d, [], i5, b5⟩ ⟨h5, by simpa using hd⟩ ?hs ?_
  case hs =>
   simp [hc1, ht1, hle, hln, leB, LeL_refl, LeNs.refl, okNs, okN]
   omega
  clear h5 n1 n2 n3 n4 nt
  rintro ⟨d2, s2, j, bd⟩ ⟨hsl, hdl⟩ hbd
  simp only [] at hsl hdl
  clear hbd
  have hgx : ∀ l, (B.set b (rX L j bd) ++ l)[b]? = some (.cells [Tok.l L, vI j, vB bd]) := fun l => by rw [hga, hrx]
  cases hsl with
  | bad =>
   (try simp -implicitDefEqProofs [hgx])
   have m7 := (w_rwant (b := b) hil (i := i6) (bd := true) (s := sTo) (by decide)).on hb hok (hK3 ss.length) (hX3 nm true 0 ss ss.length)
   rw [h6] at m7
   have m8 := (w_rnumber (b := b) hL (i := i7) (bd := b7) 1 99999).on hb hok (hK3 ss.length) (hX3 nm true 0 ss ss.length)
   rw [h7.1, h7.2.1, h7.2.2] at m8
   have m9 := (w_rwant (b := b) hil (i := i8) (bd := b8) (s := [59]) (by decide)).on hb hok (hK3 ss.length) (hX3 nm true to ss ss.length)
   rw [h8] at m9
   have m10 := (w_rwant (b := b) hil (i := i9) (bd := b9) (s := [125]) (by decide)).on hb hok (hK3 ss.length) (hX3 nm true to ss ss.length)
   rw [h9] at m10
   simp only [] at m7 m9 m10
   unfold sTo at m7
   refine callKf m7 ?_
   (try simp -implicitDefEqProofs [hln])
   refine callKf m8 ?_
   (try simp -implicitDefEqProofs [hln, hc1, ht1])
   refine callKf m9 ?_
   (try simp -implicitDefEqProofs [hln])
   refine callKf m10 ?_
   (try simp -implicitDefEqProofs [hln, hc0, ht0, hc1, ht1, Rul.c])
   all_goals exact ⟨hend _, lnK _⟩
  | stop _ _ hstop =>
   have mi := (w_is1 (b := b) (L := L) (i := i6) (bd := false) hstop (by decide)).on hb hok (hK3 ss.length) (hX3 nm true 0 ss ss.length)
   unfold sTo at mi
   (try simp -implicitDefEqProofs [hgx])
   refine callKf mi ?_
   (try simp -implicitDefEqProofs [hln])
   have m7 := (w_rwant (b := b) hil (i := i6) (bd := false) (s := sTo) (by decide)).on hb hok (hK3 ss.length) (hX3 nm true 0 ss ss.length)
   rw [h6] at m7
   have m8 := (w_rnumber (b := b) hL (i := i7) (bd := b7) 1 99999).on hb hok (hK3 ss.length) (hX3 nm true 0 ss ss.length)
   rw [h7.1, h7.2.1, h7.2.2] at m8
   have m9 := (w_rwant (b := b) hil (i := i8) (bd := b8) (s := [59]) (by decide)).on hb hok (hK3 ss.length) (hX3 nm true to ss ss.length)
   rw [h8] at m9
   have m10 := (w_rwant (b := b) hil (i := i9) (bd := b9) (s := [125]) (by decide)).on hb hok (hK3 ss.length) (hX3 nm true to ss ss.length)
   rw [h9] at m10
   simp only [] at m7 m9 m10
   unfold sTo at m7
   refine callKf m7 ?_
   (try simp -implicitDefEqProofs [hln])
   refine callKf m8 ?_
   (try simp -implicitDefEqProofs [hln, hc1, ht1])
   refine callKf m9 ?_
   (try simp -implicitDefEqProofs [hln])
   refine callKf m10 ?_
   (try simp -implicitDefEqProofs [hln, hc0, ht0, hc1, ht1, Rul.c])
   all_goals exact ⟨hend _, lnK _⟩
  | step d3 _ _ s j2 bd2 _ _ _ g1 g2 g3 =>
   have mi := (w_is0 (b := b) (L := L) (i := j) (bd := false) g1).on hb hok (hK3 s2.length) (hX3 nm true 0 s2 s2.length)
   have ms := PaF.on g2 hb hok (hK3 s2.length) (hX3 nm true 0 s2 s2.length)
   unfold sTo at mi
   have hsl := len_sc s
   have htk := take_sc s
   (try simp -implicitDefEqProofs [hgx])
   refine callKf mi ?_
   (try simp -implicitDefEqProofs [hln, hc1, ht1])
   all_goals (repeat' with_reducible apply And.intro)
   all_goals
    refine callKf ms ?_
    (try simp -implicitDefEqProofs [hln, hc1, ht1, tg, ts, hsl, htk])
    refine ⟨⟨by unfold maxLen; omega, by omega⟩, ⟨d3, s2 ++ [s], j2, bd2⟩, ⟨g3, by simp only [List.length_append, List.length_singleton]; omega⟩, Nat.lt_succ_self d3, ⟨(hle _ _ _ _ _ _ _ (by omega) (by omega)).2 ⟨lz _ _ _ _ _, ?_, trivial⟩, ?_⟩, by omega⟩
    ·have := lown nm true 0 (s2 ++ [s]) (B.length + 2) (K.length + 1) (Nat.le_refl _)
     rw [List.map_append] at this
     first | (simp; done) | simpa using this
    ·simp only [List.length_append, List.length_singleton]; exact LeNs.refl _
 ·rw [if_neg hp] at h4
  obtain ⟨rfl, h4⟩ := h4
  rw [needF_cons] at h4
  generalize hE : needF L [sEnt] i3 b3 = st4 at *
  obtain ⟨i4, b4⟩ := st4
  have nt := (w_rtk0 (b := b) hp).on hb hok (Nat.le_refl _) (hX2 nm false 0)
  have n0 := (w_rwant (b := b) hil (i := i3) (bd := b3) (s := sEnt) (by decide)).on hb hok (Nat.le_refl _) (hX2 nm false 0)
  rw [hE] at n0
  have n4 := (w_rwant (b := b) hil (i := i4) (bd := b4) (s := [123]) (by decide)).on hb hok (Nat.le_refl _) (hX2 nm false 0)
  simp only [] at h4 n0
  rw [h4] at n4
  simp only [] at n4
  unfold sPair at nt
  unfold sEnt at n0
  refine callKf nt ?_
  (try simp -implicitDefEqProofs [hln])
  refine callKf n0 ?_
  (try simp -implicitDefEqProofs [hln])
  refine callKf n4 ?_
  (try simp -implicitDefEqProofs [hln])
  refine loop_grow [(.cell (B.length + 1) 2, 71, 9)] (X := SX) (fun X => Sq b L X.d X.ss X.i X.bd ss i6 b6 ∧ X.ss.length + X.d ≤ 1000000000) (fun X => [(0, .ptr b 0), (2, .ptr B.length 0), (3, .ptr (B.length + 1) 0)])
   (fun X => ⟨B.set b (rX L X.i X.bd) ++ [.cells [vS [], vB false, .snil, vI 0], .cells [vS nm, vB false, .own K.length 71 9 (X.ss.map Stm.c), vI 0]], K ++ [X.ss.length]⟩) (fun X => X.d) ⟨d, [], i5, b5⟩ ⟨h5, by simpa using hd⟩ ?hs ?_
  case hs =>
   simp [hc1, ht1, hle, hln, leB, LeL_refl, LeNs.refl, okNs, okN]
   omega
  clear h5 n1 n2 n3 n4 nt
  rintro ⟨d2, s2, j, bd⟩ ⟨hsl, hdl⟩ hbd
  simp only [] at hsl hdl
  clear hbd
  have hgx : ∀ l, (B.set b (rX L j bd) ++ l)[b]? = some (.cells [Tok.l L, vI j, vB bd]) := fun l => by rw [hga, hrx]
  cases hsl with
  | bad =>
   (try simp -implicitDefEqProofs [hgx])
   have m7 := (w_rwant (b := b) hil (i := i6) (bd := true) (s := sTo) (by decide)).on hb hok (hK3 ss.length) (hX3 nm false 0 ss ss.length)
   rw [h6] at m7
   have m8 := (w_rnumber (b := b) hL (i := i7) (bd := b7) 1 99999).on hb hok (hK3 ss.length) (hX3 nm false 0 ss ss.length)
   rw [h7.1, h7.2.1, h7.2.2] at m8
   have m9 := (w_rwant (b := b) hil (i := i8) (bd := b8) (s := [59]) (by decide)).on hb hok (hK3 ss.length) (hX3 nm false to ss ss.length)
   rw [h8] at m9
   have m10 := (w_rwant (b := b) hil (i := i9) (bd := b9) (s := [125]) (by decide)).on hb hok (hK3 ss.length) (hX3 nm false to ss ss.length)
   rw [h9] at m10
   simp only [] at m7 m9 m10
   unfold sTo at m7
   refine callKf m7 ?_
   (try simp -implicitDefEqProofs [hln])
   refine callKf m8 ?_
   (try simp -implicitDefEqProofs [hln, hc1, ht1])
   refine callKf m9 ?_
   (try simp -implicitDefEqProofs [hln])
   refine callKf m10 ?_
   (try simp -implicitDefEqProofs [hln, hc0, ht0, hc1, ht1, Rul.c])
   all_goals exact ⟨hend _, lnK _⟩
  | stop _ _ hstop =>
   have mi := (w_is1 (b := b) (L := L) (i := i6) (bd := false) hstop (by decide)).on hb hok (hK3 ss.length) (hX3 nm false 0 ss ss.length)
   unfold sTo at mi
   (try simp -implicitDefEqProofs [hgx])
   refine callKf mi ?_
   (try simp -implicitDefEqProofs [hln])
   have m7 := (w_rwant (b := b) hil (i := i6) (bd := false) (s := sTo) (by decide)).on hb hok (hK3 ss.length) (hX3 nm false 0 ss ss.length)
   rw [h6] at m7
   have m8 := (w_rnumber (b := b) hL (i := i7) (bd := b7) 1 99999).on hb hok (hK3 ss.length) (hX3 nm false 0 ss ss.length)
   rw [h7.1, h7.2.1, h7.2.2] at m8
   have m9 := (w_rwant (b := b) hil (i := i8) (bd := b8) (s := [59]) (by decide)).on hb hok (hK3 ss.length) (hX3 nm false to ss ss.length)
   rw [h8] at m9
   have m10 := (w_rwant (b := b) hil (i := i9) (bd := b9) (s := [125]) (by decide)).on hb hok (hK3 ss.length) (hX3 nm false to ss ss.length)
   rw [h9] at m10
   simp only [] at m7 m9 m10
   unfold sTo at m7
   refine callKf m7 ?_
   (try simp -implicitDefEqProofs [hln])
   refine callKf m8 ?_
   (try simp -implicitDefEqProofs [hln, hc1, ht1])
   refine callKf m9 ?_
   (try simp -implicitDefEqProofs [hln])
   refine callKf m10 ?_
   (try simp -implicitDefEqProofs [hln, hc0, ht0, hc1, ht1, Rul.c])
   all_goals exact ⟨hend _, lnK _⟩
  | step d3 _ _ s j2 bd2 _ _ _ g1 g2 g3 =>
   have mi := (w_is0 (b := b) (L := L) (i := j) (bd := false) g1).on hb hok (hK3 s2.length) (hX3 nm false 0 s2 s2.length)
   have ms := PaF.on g2 hb hok (hK3 s2.length) (hX3 nm false 0 s2 s2.length)
   unfold sTo at mi
   have hsl := len_sc s
   have htk := take_sc s
   (try simp -implicitDefEqProofs [hgx])
   refine callKf mi ?_
   (try simp -implicitDefEqProofs [hln, hc1, ht1])
   all_goals (repeat' with_reducible apply And.intro)
   all_goals
    refine callKf ms ?_
    (try simp -implicitDefEqProofs [hln, hc1, ht1, tg, ts, hsl, htk])
    refine ⟨⟨by unfold maxLen; omega, by omega⟩, ⟨d3, s2 ++ [s], j2, bd2⟩, ⟨g3, by simp only [List.length_append, List.length_singleton]; omega⟩, Nat.lt_succ_self d3, ⟨(hle _ _ _ _ _ _ _ (by omega) (by omega)).2 ⟨lz _ _ _ _ _, ?_, trivial⟩, ?_⟩, by omega⟩
    ·have := lown nm false 0 (s2 ++ [s]) (B.length + 2) (K.length + 1) (Nat.le_refl _)
     rw [List.map_append] at this
     first | (simp; done) | simpa using this
    ·simp only [List.length_append, List.length_singleton]; exact LeNs.refl _
theorem rrl_ex (hL : TokL L) {n i : Nat} (hn : n ≤ 1000000000) {res : Rd Rul} (h : rulO n (L.drop i) = some res) (hi : i ≤ L.length) : ∃ r i' bd, i ≤ i' ∧ i' ≤ L.length ∧ RlA b L i r i' bd ∧ Out L i' bd r res := by
 unfold rulO rulF at h
 simp only [bndO_assoc] at h
 have d0 : Dd L i false (fun r => bndO (some (wantT sRule r)) fun _ r => bndO (some (nameT r)) fun nm r => bndO (some (wantT sEach r)) fun _ r => bndO (pairO r) fun pr r => bndO (some (wantT [123] r)) fun _ r => bndO (stmsO n n [] r) fun ss r => bndO (some (wantT sTo r)) fun _ r => bndO (some (numT 1 99999 r)) fun a r => bndO (some (wantT [59] r)) fun _ r => bndO (some (wantT [125] r)) fun _ r => some (.ok (⟨nm, pr, ss, a⟩ : Rul) r)) res := ⟨hi, .inl ⟨rfl, h⟩⟩
 obtain ⟨i1, b1, h1, o1, d1⟩ := d0.want (by decide)
 obtain ⟨nm, i2, b2, h2, o2, d2⟩ := d1.name
 obtain ⟨i3, b3, h3, o3, d3⟩ := d2.want (by decide)
 obtain ⟨pr, i5, b5, h4, o4, d4⟩ := d3.pair
 obtain ⟨d, ss, i6, b6, h5, hd, o5, d5⟩ := d4.sq (b := b) hL
 obtain ⟨i7, b7, h6, o6, d6⟩ := d5.want (by decide)
 obtain ⟨to, i8, b8, h7, o7, d7⟩ := d6.num
 obtain ⟨i9, b9, h8, o8, d8⟩ := d7.want (by decide)
 obtain ⟨i10, b10, h9, o9, d9⟩ := d8.want (by decide)
 exact ⟨_, i10, b10, by omega, d9.fin.1, rrl_walk hL h1 h2 h3 h4 h5 (by omega) h6 h7 h8 h9, d9.fin.2⟩
inductive Rq (b : Nat) (L : List Tok) : Nat → List Rul → Nat → Bool → List Rul → Nat → Bool → Prop where
 | bad (ss : List Rul) (i : Nat) : Rq b L 0 ss i true ss i true
 | stop (ss : List Rul) (i : Nat) (h : L.length ≤ i) : Rq b L 0 ss i false ss i false
 | step (d : Nat) (ss : List Rul) (i : Nat) (s : Rul) (i2 : Nat) (bd2 : Bool) (ss' : List Rul) (i' : Nat) (bd' : Bool) (h1 : i < L.length) (h2 : RlA b L i s i2 bd2)
   (h : Rq b L d (ss ++ [s]) i2 bd2 ss' i' bd') : Rq b L (d + 1) ss i false ss' i' bd'
theorem rq_ex (hL : TokL L) {n : Nat} (hn : n ≤ 1000000000) : ∀ (m : Nat) (ss : List Rul) (i : Nat) (res : Rd (List Rul)), prgO n m ss (L.drop i) = some res → i ≤ L.length →
  ∃ d ss' i' bd', Rq b L d ss i false ss' i' bd' ∧ d ≤ m ∧ i' ≤ L.length ∧ Out L i' bd' ss' res
 | 0, ss, i, res, h, hi => by cases h
 | m + 1, ss, i, res, h, hi => by
  rw [prgO] at h
  split at h
  ·rename_i c
   cases h
   have : L.length ≤ i := by
    rcases Nat.lt_or_ge i L.length with q | q
    ·rw [drop_at q] at c; cases c
    ·exact q
   exact ⟨0, ss, i, false, .stop ss i this, by omega, hi, .inl ⟨rfl, rfl⟩⟩
  rename_i c
  have hlt : i < L.length := by
   rcases Nat.lt_or_ge i L.length with q | q
   ·exact q
   ·exact absurd (List.drop_eq_nil_of_le q) c
  cases hq : rulO n (L.drop i) with
  | none => rw [hq] at h; cases h
  | some q =>
   rw [hq] at h
   obtain ⟨s, i2, bd2, r1, r2, r3, r4⟩ := rrl_ex (b := b) hL hn hq hi
   rcases r4 with ⟨rfl, rfl⟩ | ⟨rfl, rfl⟩
   ·obtain ⟨d, ss', i', bd', q1, q0, q3, q4⟩ := rq_ex hL hn m _ i2 res h r2
    exact ⟨d + 1, ss', i', bd', .step d ss i s i2 false ss' i' bd' hlt r3 q1, by omega, q3, q4⟩
   ·cases h
    exact ⟨1, _, i2, true, .step 0 ss i s i2 true _ _ _ hlt r3 (.bad _ _), by omega, r2, .inr ⟨rfl, rfl⟩⟩
end
end Go.Proofs.YtpggidmbnjfmaaaGreatDoor
end

/- Chapter 32: the names of a program that is read are texts of tokens. -/
section
set_option linter.unusedSimpArgs false
set_option linter.unusedVariables false
set_option maxHeartbeats 1000000
namespace Go.Proofs.YtpggidmbnjfmaaaGreatDoor
open E

def Nm (ts : List Tok) : Prop := ∀ t ∈ ts, t.text.length ≤ maxLen
theorem Nm.tail {ts : List Tok} (h : Nm ts) : Nm ts.tail := fun t ht => h t (List.mem_of_mem_tail ht)
theorem num_nm {a b v : Int} {ts r : List Tok} (h : (some (numT a b ts) : Option (Rd Int)) = some (.ok v r)) (hN : Nm ts) : Nm r := by
 have h := Option.some.inj h
 cases ts with
 | nil => cases h
 | cons t ts =>
  rw [numT] at h
  split at h
  ·cases h; exact hN.tail
  ·cases h
theorem name_nm {v : List UInt8} {ts r : List Tok} (h : (some (nameT ts) : Option (Rd (List UInt8))) = some (.ok v r)) (hN : Nm ts) : v.length ≤ maxLen ∧ Nm r := by
 have h := Option.some.inj h
 cases ts with
 | nil => cases h
 | cons t ts =>
  rw [nameT] at h
  split at h
  ·cases h; exact ⟨hN t (by simp), hN.tail⟩
  ·cases h
theorem want_nm {s : List UInt8} {ts r : List Tok} {u : Unit} (h : (some (wantT s ts) : Option (Rd Unit)) = some (.ok u r)) (hs : s ≠ []) (hN : Nm ts) : Nm r := by
 rw [(want_ok h hs).1]; exact hN.tail
theorem ok_one {k : Int} {a : Xp} (h : a.ok) : (one k a).ok := by unfold one; rw [Xp.ok]; exact ⟨by simp, h, trivial⟩
theorem ok_two {k : Int} {a b : Xp} (h : a.ok) (h' : b.ok) : (two k a b).ok := by unfold two; rw [Xp.ok]; exact ⟨by simp, h, h', trivial⟩
theorem ok_per {v : Int} {a : Xp} (h : a.ok) : (perX v a).ok := by unfold perX; rw [Xp.ok]; exact ⟨by simp, h, trivial⟩
theorem ok_leaf {k v f t : Int} {n : List UInt8} (h : n.length ≤ maxLen) : (Xp.mk k v f t n []).ok := by rw [Xp.ok]; exact ⟨h, trivial⟩
def JO : Job → Prop
 | .lp _ x0 => x0.ok
 | _ => True
theorem par_nm : ∀ (n : Nat) (j : Job) (ts : List Tok) (x : Xp) (r : List Tok), par n j ts = some (.ok x r) → Nm ts → JO j → x.ok ∧ Nm r
 | 0, j, ts, x, r, h, hN, hJ => by cases h
 | n + 1, .lev k, ts, x, r, h, hN, hJ => by
  rw [par] at h
  split at h
  ·obtain ⟨y, q, h1, h2⟩ := bndO_ok h
   obtain ⟨a1, a2⟩ := par_nm n _ _ _ _ h1 hN trivial
   exact par_nm n _ _ _ _ h2 a2 a1
  split at h
  ·obtain ⟨y, q, h1, h2⟩ := bndO_ok h
   obtain ⟨a1, a2⟩ := par_nm n _ _ _ _ h1 hN trivial
   exact par_nm n _ _ _ _ h2 a2 a1
  split at h
  ·split at h
   ·obtain ⟨y, q, h1, h2⟩ := bndO_ok h
    cases h2
    obtain ⟨a1, a2⟩ := par_nm n _ _ _ _ h1 hN.tail trivial
    exact ⟨ok_one a1, a2⟩
   ·exact par_nm n _ _ _ _ h hN trivial
  split at h
  ·obtain ⟨y, q, h1, h2⟩ := bndO_ok h
   obtain ⟨a1, a2⟩ := par_nm n _ _ _ _ h1 hN trivial
   cases ho : opT 4 (hdT q) with
   | none =>
    rw [ho] at h2
    cases h2
    exact ⟨a1, a2⟩
   | some o =>
    rw [ho] at h2
    obtain ⟨z, q2, h3, h4⟩ := bndO_ok h2
    cases h4
    obtain ⟨b1, b2⟩ := par_nm n _ _ _ _ h3 a2.tail trivial
    exact ⟨ok_two a1 b1, b2⟩
  split at h
  ·obtain ⟨y, q, h1, h2⟩ := bndO_ok h
   cases h2
   obtain ⟨a1, a2⟩ := par_nm n _ _ _ _ h1 hN.tail trivial
   exact ⟨ok_one a1, a2⟩
  ·exact par_nm n _ _ _ _ h hN trivial
 | n + 1, .lp k x0, ts, x, r, h, hN, hJ => by
  rw [par] at h
  split at h
  ·cases hn : numT 1 1000000000000 ts.tail with
   | er r => rw [hn] at h; cases h
   | ok v q =>
    rw [hn] at h
    have hq := num_nm (congrArg some hn) hN.tail
    exact par_nm n _ _ _ _ h hq (ok_per (v := v) hJ)
  ·cases ho : opT k (hdT ts) with
   | none =>
    rw [ho] at h
    cases h
    exact ⟨hJ, hN⟩
   | some o =>
    rw [ho] at h
    obtain ⟨y, q, h1, h2⟩ := bndO_ok h
    obtain ⟨a1, a2⟩ := par_nm n _ _ _ _ h1 hN.tail trivial
    exact par_nm n _ _ _ _ h2 a2 (ok_two (k := o) hJ a1)
 | n + 1, .prm, ts, x, r, h, hN, hJ => by
  rw [par] at h
  split at h
  ·cases h
  simp only [bnd_O] at h
  split at h
  ·obtain ⟨y, q, h1, h2⟩ := bndO_ok h
   obtain ⟨u, q2, h3, h4⟩ := bndO_ok h2
   cases h4
   obtain ⟨a1, a2⟩ := par_nm n _ _ _ _ h1 hN.tail trivial
   exact ⟨a1, want_nm h3 (by simp) a2⟩
  split at h
  ·obtain ⟨u0, q0, h1, h2⟩ := bndO_ok h
   obtain ⟨a, q1, h3, h4⟩ := bndO_ok h2
   obtain ⟨u1, q2, h5, h6⟩ := bndO_ok h4
   obtain ⟨b, q3, h7, h8⟩ := bndO_ok h6
   obtain ⟨u2, q4, h9, h10⟩ := bndO_ok h8
   cases h10
   obtain ⟨a1, a2⟩ := par_nm n _ _ _ _ h3 (want_nm h1 (by simp) hN.tail) trivial
   obtain ⟨b1, b2⟩ := par_nm n _ _ _ _ h7 (want_nm h5 (by simp) a2) trivial
   exact ⟨ok_two a1 b1, want_nm h9 (by simp) b2⟩
  split at h
  ·obtain ⟨u0, q0, h1, h2⟩ := bndO_ok h
   obtain ⟨a, q1, h3, h4⟩ := bndO_ok h2
   obtain ⟨u2, q4, h9, h10⟩ := bndO_ok h4
   cases h10
   obtain ⟨a1, a2⟩ := par_nm n _ _ _ _ h3 (want_nm h1 (by simp) hN.tail) trivial
   exact ⟨ok_one a1, want_nm h9 (by simp) a2⟩
  split at h
  ·obtain ⟨u0, q0, h1, h2⟩ := bndO_ok h
   obtain ⟨f, q1, h3, h4⟩ := bndO_ok h2
   obtain ⟨u1, q2, h5, h6⟩ := bndO_ok h4
   obtain ⟨t, q3, h7, h8⟩ := bndO_ok h6
   obtain ⟨u2, q4, h9, h10⟩ := bndO_ok h8
   cases h10
   exact ⟨ok_leaf (by simp), want_nm h9 (by simp) (num_nm h7 (want_nm h5 (by simp) (num_nm h3 (want_nm h1 (by simp) hN.tail))))⟩
  split at h
  ·obtain ⟨v, q, h1, h2⟩ := bndO_ok h
   cases h2
   exact ⟨ok_leaf (by simp), num_nm h1 hN⟩
  ·obtain ⟨v, q, h1, h2⟩ := bndO_ok h
   cases h2
   obtain ⟨a1, a2⟩ := name_nm h1 hN
   exact ⟨ok_leaf a1, a2⟩
theorem stm_nm {n : Nat} {ts r : List Tok} {s : Stm} (h : stmO n ts = some (.ok s r)) (hN : Nm ts) : s.ok ∧ Nm r := by
 unfold stmO at h
 split at h
 ·obtain ⟨nm, q1, h1, h2⟩ := bndO_ok h
  obtain ⟨u, q2, h3, h4⟩ := bndO_ok h2
  obtain ⟨x, q3, h5, h6⟩ := bndO_ok h4
  obtain ⟨u2, q4, h7, h8⟩ := bndO_ok h6
  cases h8
  obtain ⟨a1, a2⟩ := name_nm h1 hN.tail
  obtain ⟨b1, b2⟩ := par_nm n _ _ _ _ h5 (want_nm h3 (by simp) a2) trivial
  exact ⟨⟨a1, b1⟩, want_nm h7 (by simp) b2⟩
 split at h
 ·obtain ⟨x, q3, h5, h6⟩ := bndO_ok h
  obtain ⟨u2, q4, h7, h8⟩ := bndO_ok h6
  cases h8
  obtain ⟨b1, b2⟩ := par_nm n _ _ _ _ h5 hN.tail trivial
  exact ⟨⟨by simp, b1⟩, want_nm h7 (by simp) b2⟩
 split at h
 ·obtain ⟨a, q1, h1, h2⟩ := bndO_ok h
  obtain ⟨x, q3, h5, h6⟩ := bndO_ok h2
  obtain ⟨u2, q4, h7, h8⟩ := bndO_ok h6
  cases h8
  obtain ⟨b1, b2⟩ := par_nm n _ _ _ _ h5 (num_nm h1 hN.tail) trivial
  exact ⟨⟨by simp, b1⟩, want_nm h7 (by simp) b2⟩
 ·cases h
theorem stms_nm {n : Nat} : ∀ {m : Nat} {acc : List Stm} {ts r : List Tok} {ss : List Stm}, stmsO n m acc ts = some (.ok ss r) → Nm ts → (∀ s ∈ acc, s.ok) → (∀ s ∈ ss, s.ok) ∧ Nm r
 | 0, acc, ts, r, ss, h, hN, hA => by cases h
 | m + 1, acc, ts, r, ss, h, hN, hA => by
  rw [stmsO] at h
  split at h
  ·cases h; exact ⟨hA, hN⟩
  ·obtain ⟨s, q, h1, h2⟩ := bndO_ok h
   obtain ⟨a1, a2⟩ := stm_nm h1 hN
   exact stms_nm h2 a2 fun x hx => (List.mem_append.1 hx).elim (hA x) fun hx => by rw [List.mem_singleton.1 hx]; exact a1
theorem rul_nm {n : Nat} {ts r : List Tok} {x : Rul} (h : rulO n ts = some (.ok x r)) (hN : Nm ts) : x.ok ∧ Nm r := by
 unfold rulO rulF at h
 simp only [bndO_assoc] at h
 obtain ⟨_, q1, h1, h⟩ := bndO_ok h
 obtain ⟨nm, q2, h2, h⟩ := bndO_ok h
 obtain ⟨_, q3, h3, h⟩ := bndO_ok h
 obtain ⟨pr, q4, h4, h⟩ := bndO_ok h
 obtain ⟨_, q5, h5, h⟩ := bndO_ok h
 obtain ⟨ss, q6, h6, h⟩ := bndO_ok h
 obtain ⟨_, q7, h7, h⟩ := bndO_ok h
 obtain ⟨to, q8, h8, h⟩ := bndO_ok h
 obtain ⟨_, q9, h9, h⟩ := bndO_ok h
 obtain ⟨y, q10, h10, h⟩ := bndO_ok h
 cases h10
 obtain ⟨_, q11, h11, h⟩ := bndO_ok h
 cases h
 obtain ⟨a1, a2⟩ := name_nm h2 (want_nm h1 (by decide) hN)
 have a3 := want_nm h3 (by decide) a2
 have a4 : Nm q4 := by
  unfold pairO at h4
  split at h4
  ·cases h4; exact a3.tail
  ·obtain ⟨_, q, g1, g2⟩ := bndO_ok h4
   cases g2
   exact want_nm g1 (by decide) a3
 obtain ⟨b1, b2⟩ := stms_nm h6 (want_nm h5 (by simp) a4) (fun s hs => by cases hs)
 exact ⟨⟨a1, b1⟩, want_nm h11 (by simp) (want_nm h9 (by simp) (num_nm h8 (want_nm h7 (by decide) b2)))⟩
theorem prg_nm {n : Nat} : ∀ {m : Nat} {acc : List Rul} {ts r : List Tok} {p : List Rul}, prgO n m acc ts = some (.ok p r) → Nm ts → (∀ x ∈ acc, x.ok) → ∀ x ∈ p, x.ok
 | 0, acc, ts, r, p, h, hN, hA => by cases h
 | m + 1, acc, ts, r, p, h, hN, hA => by
  rw [prgO] at h
  split at h
  ·cases h; exact hA
  ·obtain ⟨s, q, h1, h2⟩ := bndO_ok h
   obtain ⟨a1, a2⟩ := rul_nm h1 hN
   exact prg_nm h2 a2 fun x hx => (List.mem_append.1 hx).elim (hA x) fun hx => by rw [List.mem_singleton.1 hx]; exact a1
end Go.Proofs.YtpggidmbnjfmaaaGreatDoor
end

/- Chapter 32: the reference's Parse. -/
section
set_option linter.unusedSimpArgs false
set_option linter.unusedVariables false
set_option maxHeartbeats 4000000
set_option maxRecDepth 8000
namespace Go.Proofs.YtpggidmbnjfmaaaGreatDoor
open E

theorem w_rParse (s : List UInt8) : Pure Tryz.prog 14 [vS s] (.tup [Rul.l (parseR s).1, vI (parseR s).2.1, vI (parseR s).2.2]) := by
 have htk := w_rTokens s
 unfold parseR
 by_cases h0 : (tokensR s).2.2 = 0
 case neg =>
  rw [if_neg h0]
  generalize tokensR s = q at *
  have h1 : (q.2.2 == 0) = false := by simpa using h0
  have h2 : (q.2.2 != 0) = true := by simpa using h0
  (refine Pure.of_code mix Tryz.call14 k_14 (by simp) (fun hB => ?_); (try simp at hB); (try simp -implicitDefEqProofs [qc_14]))
  ((try simp at htk); (try simp -implicitDefEqProofs [h0, h1, h2]); repeat' first | (with_reducible apply callK_pure <;> first | (simp only [eras, era, eras_map]; first | with_reducible exact htk | simpa using htk) | (simp -implicitDefEqProofs [h0, h1, h2])))
  all_goals exact .inl (.inr (.inr ⟨_, rfl, rfl⟩))
 rw [if_pos h0]
 obtain ⟨hL, h8⟩ := tokL_of h0
 rw [h0] at htk
 generalize (tokensR s).1 = L at *
 generalize (tokensR s).2.1 = pl at *
 have hsp := prgT_spec L
 have hmn := fun p r h => prgT_min (ts := L) (p := p) (r := r) h
 have hnm := fun p r h => prg_nm (n := fuelP L) (m := fuelP L) (acc := []) (ts := L) (p := p) (r := r) h (fun t ht => by have := hL.tx t ht; unfold maxLen; omega) (fun x hx => by cases hx)
 obtain ⟨RES, hRES⟩ : ∃ RES, RES = parsT s.length L := ⟨_, rfl⟩
 rw [← hRES]
 unfold parsT at hRES
 generalize prgT L = res at *
 have hfu : fuelP L ≤ 1000000000 := by unfold fuelP; omega
 obtain ⟨d, ss, i', bd', q1, q2, q3, q4⟩ := rq_ex (b := 0) hL hfu (fuelP L) [] 0 res (by simpa using hsp) (Nat.zero_le _)
 have hok : ∀ K : List Nat, Ps.Ok [rX L 0 false] K := fun K n m _ _ => ⟨leB_rX _ _ _ n m, trivial⟩
 have e8 : ∀ x : Bx, ([rX L 0 false] : List Bx).set 0 x = [x] := fun x => rfl
 have hgo : ∀ i bd, rX L i bd = .cells [Tok.l L, vI i, vB bd] := fun _ _ => rfl
 have sem : (res = .ok ss (L.drop i') ∧ bd' = false) ∨ (res = .er (L.drop i') ∧ bd' = true) := by
  rcases q4 with ⟨a, c⟩ | ⟨a, c⟩
  ·exact .inl ⟨c, a⟩
  ·exact .inr ⟨c, a⟩
 clear q4
 (refine Pure.of_code mix Tryz.call14 k_14 (by simp) (fun hB => ?_); (try simp at hB); (try simp -implicitDefEqProofs [qc_14]))
 ((try simp at htk); (try simp -implicitDefEqProofs); repeat' first | (with_reducible apply callK_pure <;> first | (simp only [eras, era, eras_map]; first | with_reducible exact htk | simpa using htk) | (simp -implicitDefEqProofs)))
 refine loop_grow [(.slot 9, 66, 4)] (X := RX) (fun X => Rq 0 L X.d X.ss X.i X.bd ss i' bd' ∧ X.ss.length + X.d ≤ 1000000000) (fun X => [(0, vS s), (5, Tok.l L), (8, .ptr 0 0), (9, .own 0 66 4 (X.ss.map Rul.c))])
  (fun X => ⟨[rX L X.i X.bd], [X.ss.length]⟩) (fun X => X.d) ⟨d, [], 0, false⟩ ⟨q1, by simp; omega⟩ ?hs ?_
 case hs =>
  simp [hgo]
 clear q1
 rintro ⟨d2, s2, j, bd⟩ ⟨hq, hdl⟩ hbd
 simp only [] at hq hdl
 clear hbd
 cases hq with
 | bad =>
  rcases sem with ⟨rfl, h⟩ | ⟨rfl, _⟩
  ·cases h
  rcases Nat.lt_or_ge i' L.length with q | q
  ·have hx : L[i']? = some L[i'] := by simp [q]
   have hcc : ∀ a c d, Tok.c ⟨a, c, d⟩ = [.int .i64 a, .str c, .int .i64 d] := fun _ _ _ => rfl
   simp only [] at hRES
   rw [drop_at q] at hRES
   have hpl : placeT s.length (L[i'] :: L.drop (i' + 1)) = L[i'].frm := rfl
   rw [hpl] at hRES
   subst hRES
   generalize hti : L[i'] = t at *
   obtain ⟨tk, tx, tf⟩ := t
   (try simp -implicitDefEqProofs [hgo, q, hti, hcc])
   all_goals exact .inl (.inr (.inr ⟨_, rfl, rfl⟩))
  ·have q' : ¬ i' < L.length := by omega
   simp only [] at hRES
   rw [List.drop_eq_nil_of_le q] at hRES
   have hpl : placeT s.length [] = (s.length : Int) := rfl
   rw [hpl] at hRES
   subst hRES
   (try simp -implicitDefEqProofs [hgo, q'])
   all_goals exact .inl (.inr (.inr ⟨_, rfl, rfl⟩))
 | stop _ _ hlen =>
  rcases sem with ⟨rfl, _⟩ | ⟨_, h⟩
  case inr => cases h
  have q' : ¬ i' < L.length := by omega
  obtain ⟨m1, m2, m3⟩ := hmn ss _ rfl
  have hv := w_ValidR ss (hnm ss _ hsp) (fun r hr t ht => by have := (m3 r hr).1 t ht; omega)
  simp only [] at hRES
  cases hb : prgB ss
  ·rw [hb] at hv
   rw [if_neg (by rw [hb]; decide)] at hRES
   subst hRES
   ((try simp at hv); (try simp -implicitDefEqProofs [hgo, q']); repeat' first | (with_reducible apply callK_pure <;> first | (simp only [eras, era, eras_map]; first | with_reducible exact hv | simpa using hv) | (simp -implicitDefEqProofs [hgo, q'])))
   all_goals exact .inl (.inr (.inr ⟨_, rfl, rfl⟩))
  ·rw [hb] at hv
   rw [if_pos hb] at hRES
   subst hRES
   ((try simp at hv); (try simp -implicitDefEqProofs [hgo, q']); repeat' first | (with_reducible apply callK_pure <;> first | (simp only [eras, era, eras_map]; first | with_reducible exact hv | simpa using hv) | (simp -implicitDefEqProofs [hgo, q'])))
   all_goals exact .inl (.inr (.inr ⟨_, rfl, rfl⟩))
 | step d3 _ _ r j2 bd2 _ _ _ g1 g2 g3 =>
  have hr := g2 [rX L 0 false] [s2.length] (by simp) (hok _)
  rw [e8, e8, hgo] at hr
  have hsl := len_rc r
  have htk := take_rc r
  (try simp -implicitDefEqProofs [hgo, g1])
  refine callKf hr ?_
  (try simp -implicitDefEqProofs [hgo, hsl, htk])
  exact ⟨⟨by unfold maxLen; omega, by omega⟩, ⟨d3, s2 ++ [r], j2, bd2⟩, ⟨g3, by simp only [List.length_append, List.length_singleton]; omega⟩, Nat.lt_succ_self d3, ⟨⟨rfl, rfl⟩, by simp⟩, by rw [List.map_append]; exact leA.refl _⟩
end Go.Proofs.YtpggidmbnjfmaaaGreatDoor
end

/- Chapter 32: the law SyntaxParse. -/
section
set_option linter.unusedSimpArgs false
set_option linter.unusedVariables false
set_option maxHeartbeats 4000000
set_option maxRecDepth 8000
namespace Go.Proofs.YtpggidmbnjfmaaaGreatDoor
open E

theorem parse_few (s : List UInt8) : (parseR s).1.length ≤ 1000 ∧ (∀ r ∈ (parseR s).1, r.stmts.length ≤ 1000) ∧ ∀ r ∈ (parseR s).1, ∀ t ∈ r.stmts, t.ex.cnt ≤ 10000 := by
 unfold parseR
 by_cases h0 : (tokensR s).2.2 = 0
 ·rw [if_pos h0]
  obtain ⟨h1, h2⟩ := tokens_lex h0
  have hll := (lex_len h2).1
  generalize (tokensR s).1 = l at *
  unfold parsT
  cases hq : prgT l with
  | er r => simp
  | ok p r =>
   obtain ⟨_, _, h4⟩ := prgT_min hq
   simp only []
   split
   ·rename_i hb
    unfold prgB rulB at hb
    simp only [Bool.and_eq_true, List.all_eq_true, decide_eq_true_eq] at hb
    exact ⟨by simp only []; omega, fun r hr => by have := (hb.1 r hr).1.1.2; omega, fun r hr t ht => by have := (h4 r hr).1 t ht; omega⟩
   ·simp
 ·rw [if_neg h0]; simp
theorem l_parse (s : List UInt8) : Pure Tryz.prog 4 [vS s] (vB true) := by
 have ha := w_awake32
 by_cases hl : 9000 < s.length
 ·have h1 : decide ((9000 : Int) < s.length) = true := by simp; omega
  (refine Pure.of_code mix Tryz.call4 k_4 (by simp) (fun hB => ?_); (try simp at hB); (try simp -implicitDefEqProofs [qc_4]))
  ((try simp at ha); (try simp -implicitDefEqProofs [h1]); repeat' first | ((with_reducible first | apply gdK_em | apply cdK_em | apply pickK_em) <;> (intro hc; have hc' := hc; (try simp at hc'); simp -implicitDefEqProofs [hc, hc', h1])) | (with_reducible apply callK_pure <;> first | (simp only [eras, era, eras_map]; first | with_reducible exact ha | simpa using ha) | (simp -implicitDefEqProofs [h1])))
 have h1 : decide ((9000 : Int) < s.length) = false := by simp; omega
 have p1 := w_Parse s
 have p2 := w_rParse s
 obtain ⟨f1, f2, f3⟩ := parse_few s
 generalize parseR s = A at *
 obtain ⟨p, i, e⟩ := A
 simp only [] at p1 p2 f1 f2 f3
 have p3 := w_prog32 p f1 f2 (fun r hr t ht => by have := f3 r hr t ht; omega)
 have p4 := w_Same p p
 rw [eqv_self] at p4
 (refine Pure.of_code mix Tryz.call4 k_4 (by simp) (fun hB => ?_); (try simp at hB); (try simp -implicitDefEqProofs [qc_4]))
 ((try simp at ha); (try simp at p1); (try simp at p2); (try simp at p3); (try simp at p4); (try simp -implicitDefEqProofs [h1]); repeat' first | ((with_reducible first | apply gdK_em | apply cdK_em | apply pickK_em) <;> (intro hc; have hc' := hc; (try simp at hc'); simp -implicitDefEqProofs [hc, hc', h1])) | (with_reducible apply callK_pure <;> first | (simp only [eras, era, eras_map]; first | with_reducible exact ha | with_reducible exact p1 | with_reducible exact p2 | with_reducible exact p3 | with_reducible exact p4 | simpa using ha | simpa using p1 | simpa using p2 | simpa using p3 | simpa using p4) | (simp -implicitDefEqProofs [h1])))
end Go.Proofs.YtpggidmbnjfmaaaGreatDoor
end
