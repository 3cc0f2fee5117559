/- Chapter 32: the parser's statements. Printed by gen_stm.py. -/
import Derived.Test.YtpggidmbnjfmaaaGreatDoorPsd
set_option linter.unusedSimpArgs false
set_option linter.unusedVariables false
set_option maxHeartbeats 4000000
set_option maxRecDepth 8000
namespace Go.Proofs.YtpggidmbnjfmaaaGreatDoor
open E

def LvV (f : Nat) (vs : List V) (b : Nat) (L : List Tok) (e : Int) (i : Nat) (v : V) (i2 : Nat) (bd2 : Bool) : Prop :=
 ∀ B K, B[b]? = some (pX L e i false) → Ps.Ok B K → FnS Tryz.prog f vs ⟨B, K⟩ v ⟨B.set b (pX L e i2 bd2), K⟩
def zs : Bx := .cells [vI 0, vI 0, vS [], vI 0, vI 0, vI 0, vI 0, vS [], .snil]
theorem leB_zs (n m : Nat) : leB n m zs zs := ⟨LeL_refl _, rfl⟩
theorem leB_ns (k a : Int) (nm : List UInt8) (n m : Nat) : leB n m (.cells [vI k, vI a, vS nm, vI 0, vI 0, vI 0, vI 0, vS [], .snil]) (.cells [vI k, vI a, vS nm, vI 0, vI 0, vI 0, vI 0, vS [], .snil]) := ⟨LeL_refl _, rfl⟩
theorem leB_sx (k a : Int) (nm : List UInt8) (x : Xp) (n m : Nat) : leB n m (.cells (vI k :: vI a :: vS nm :: x.c.map V.t)) (.cells (vI k :: vI a :: vS nm :: x.c.map V.t)) := ⟨LeL_refl _, okNs_allS (fun v hv => by
 rcases List.mem_cons.1 hv with rfl | hv
 ·rfl
 rcases List.mem_cons.1 hv with rfl | hv
 ·rfl
 rcases List.mem_cons.1 hv with rfl | hv
 ·rfl
 obtain ⟨t, _, rfl⟩ := List.mem_map.1 hv; rfl)⟩
section
variable {b : Nat} {L : List Tok} {e : Int}
theorem stm_let (hL : TokL L) {i : Nat} (hT : hdT (L.drop i) = sLet) {nm : List UInt8} {y : Xp} {i2 i3 i4 i5 : Nat} {b2 b3 b4 b5 : Bool} (hn : (nmO L (i + 1) false).getD [] = nm ∧ (if (nmO L (i + 1) false).isSome then i + 1 + 1 else i + 1) = i2 ∧ (if (nmO L (i + 1) false).isSome then false else true) = b2) (h3 : needF L [[61]] i2 b2 = (i3, b3)) (hy : LvA b L e 0 i3 b3 y i4 b4) (h5 : needF L [[59]] i4 b4 = (i5, b5)) : LvV 110 [.ptr b 0] b L e i (Stm.v ⟨1, 0, nm, y⟩) i5 b5 := by
 intro B K hbx hok
 have hil := hL.len
 have hb : b < B.length := (List.getElem?_eq_some_iff.1 hbx).1
 have gb := gBx hbx
 have s4 := gS4 hb
 have hz2 : ∀ n m, LeBs n m [zs, zs] [zs, zs] := fun n m => ⟨leB_zs n m, leB_zs n m, trivial⟩
 have hl3 := gHl B b L e
 have hb3 := gHb hb L e
 have gb3 := gB3 hb L e
 have s3 := gS3 hb L e
 have ok3 := gOk hok b L e
 have c0 := gC0 B b L e
 have c1 := gC1 B b L e
 have c2 := gC2 B b L e
 have t0 := gT0 B b L e
 have t1 := gT1 B b L e
 have hdr := gDr hok b L e
 have gb' := gb
 unfold pX at gb'
 have hly := len_c y
 have hty := take_c y
 have hdy : (y.c.map V.t).drop 6 = [] := List.drop_of_length_le (by simp [hly])
 have ht := w_take1 b L hil e i false sLet hT (by decide) (B ++ [zs, zs]) K (gb _) (hok.more _ hz2)
 rw [s4] at ht
 unfold zs at ht
 unfold sLet at ht
 have hname := w_pname b L hL e (i + 1) false (B.set b (pX L e (i + 1) false) ++ [zs, zs]) K (gb3 _ _ _) ((ok3 _ _).more _ (fun n m => ⟨leB_zs n m, leB_zs n m, trivial⟩))
 rw [s3] at hname
 unfold zs at hname
 rw [hn.1, hn.2.1, hn.2.2] at hname
 have hn3 := w_need b L hil e i2 b2 [[61]] (by simp; try decide) (by simp) (B.set b (pX L e i2 b2) ++ [zs, .cells [vI 1, vI 0, vS nm, vI 0, vI 0, vI 0, vI 0, vS [], .snil]]) K (gb3 _ _ _) ((ok3 _ _).more _ (fun n m => ⟨leB_zs n m, leB_ns 1 0 nm n m, trivial⟩))
 rw [s3] at hn3
 unfold zs at hn3
 rw [h3] at hn3
 have hc := hy (B.set b (pX L e i3 b3) ++ [zs, .cells [vI 1, vI 0, vS nm, vI 0, vI 0, vI 0, vI 0, vS [], .snil]]) K (gb3 _ _ _) ((ok3 _ _).more _ (fun n m => ⟨leB_zs n m, leB_ns 1 0 nm n m, trivial⟩))
 rw [s3] at hc
 unfold zs at hc
 have hn5 := w_need b L hil e i4 b4 [[59]] (by simp; try decide) (by simp) (B.set b (pX L e i4 b4) ++ [zs, .cells (vI 1 :: vI 0 :: vS nm :: y.c.map V.t)]) K (gb3 _ _ _) ((ok3 _ _).more _ (fun n m => ⟨leB_zs n m, leB_sx 1 0 nm y n m, trivial⟩))
 rw [s3] at hn5
 unfold zs at hn5
 rw [h5] at hn5
 (refine FnS.of_code mix Tryz.call110 k_110 (by simp) (fun hB => ?_); (try simp at hB); (try simp -implicitDefEqProofs [qc_110]))
 (try simp -implicitDefEqProofs)
 refine callKf ht ?_
 (try simp -implicitDefEqProofs)
 refine callKf hname ?_
 (try simp -implicitDefEqProofs [c0, c1, t1, hl3])
 refine callKf hn3 ?_
 (try simp -implicitDefEqProofs)
 refine callKf hc ?_
 (try simp -implicitDefEqProofs [c1, t1, hly, hty, hdy, hl3])
 refine callKf hn5 ?_
 (try simp -implicitDefEqProofs [c0, c1, c2, t0, t1, hl3, hdr, LeNs.refl, hly, hty, hdy, Stm.c])
theorem stm_req (hL : TokL L) {i : Nat} (h0 : hdT (L.drop i) ≠ sLet) (hT : hdT (L.drop i) = sReq) {y : Xp} {i4 i5 : Nat} {b4 b5 : Bool} (hy : LvA b L e 0 (i + 1) false y i4 b4) (h5 : needF L [[59]] i4 b4 = (i5, b5)) : LvV 110 [.ptr b 0] b L e i (Stm.v ⟨2, 0, [], y⟩) i5 b5 := by
 intro B K hbx hok
 have hil := hL.len
 have hb : b < B.length := (List.getElem?_eq_some_iff.1 hbx).1
 have gb := gBx hbx
 have s4 := gS4 hb
 have hz2 : ∀ n m, LeBs n m [zs, zs] [zs, zs] := fun n m => ⟨leB_zs n m, leB_zs n m, trivial⟩
 have hl3 := gHl B b L e
 have hb3 := gHb hb L e
 have gb3 := gB3 hb L e
 have s3 := gS3 hb L e
 have ok3 := gOk hok b L e
 have c0 := gC0 B b L e
 have c1 := gC1 B b L e
 have c2 := gC2 B b L e
 have t0 := gT0 B b L e
 have t1 := gT1 B b L e
 have hdr := gDr hok b L e
 have gb' := gb
 unfold pX at gb'
 have hly := len_c y
 have hty := take_c y
 have hdy : (y.c.map V.t).drop 6 = [] := List.drop_of_length_le (by simp [hly])
 have ht0 := w_take0 b L e i false sLet h0 (B ++ [zs, zs]) K (gb _) (hok.more _ hz2)
 unfold zs at ht0
 unfold sLet at ht0
 have ht := w_take1 b L hil e i false sReq hT (by decide) (B ++ [zs, zs]) K (gb _) (hok.more _ hz2)
 rw [s4] at ht
 unfold zs at ht
 unfold sReq at ht
 have hc := hy (B.set b (pX L e (i + 1) false) ++ [zs, .cells [vI 2, vI 0, vS [], vI 0, vI 0, vI 0, vI 0, vS [], .snil]]) K (gb3 _ _ _) ((ok3 _ _).more _ (fun n m => ⟨leB_zs n m, leB_ns 2 0 [] n m, trivial⟩))
 rw [s3] at hc
 unfold zs at hc
 have hn5 := w_need b L hil e i4 b4 [[59]] (by simp; try decide) (by simp) (B.set b (pX L e i4 b4) ++ [zs, .cells (vI 2 :: vI 0 :: vS [] :: y.c.map V.t)]) K (gb3 _ _ _) ((ok3 _ _).more _ (fun n m => ⟨leB_zs n m, leB_sx 2 0 [] y n m, trivial⟩))
 rw [s3] at hn5
 unfold zs at hn5
 rw [h5] at hn5
 (refine FnS.of_code mix Tryz.call110 k_110 (by simp) (fun hB => ?_); (try simp at hB); (try simp -implicitDefEqProofs [qc_110]))
 (try simp -implicitDefEqProofs)
 refine callKf ht0 ?_
 (try simp -implicitDefEqProofs)
 refine callKf ht ?_
 (try simp -implicitDefEqProofs [c1, t1, hl3])
 refine callKf hc ?_
 (try simp -implicitDefEqProofs [c1, t1, hly, hty, hdy, hl3])
 refine callKf hn5 ?_
 (try simp -implicitDefEqProofs [c0, c1, c2, t0, t1, hl3, hdr, LeNs.refl, hly, hty, hdy, Stm.c])
theorem stm_post (hL : TokL L) {i : Nat} (h0 : hdT (L.drop i) ≠ sLet) (h1 : hdT (L.drop i) ≠ sReq) (hT : hdT (L.drop i) = sPost) {a : Int} {y : Xp} {i2 i4 i5 : Nat} {b2 b4 b5 : Bool} (ha : (nuO 1 99999 L (i + 1) false).getD 0 = a ∧ (if (nuO 1 99999 L (i + 1) false).isSome then i + 1 + 1 else i + 1) = i2 ∧ (if (nuO 1 99999 L (i + 1) false).isSome then false else true) = b2) (hy : LvA b L e 0 i2 b2 y i4 b4) (h5 : needF L [[59]] i4 b4 = (i5, b5)) : LvV 110 [.ptr b 0] b L e i (Stm.v ⟨3, a, [], y⟩) i5 b5 := by
 intro B K hbx hok
 have hil := hL.len
 have hb : b < B.length := (List.getElem?_eq_some_iff.1 hbx).1
 have gb := gBx hbx
 have s4 := gS4 hb
 have hz2 : ∀ n m, LeBs n m [zs, zs] [zs, zs] := fun n m => ⟨leB_zs n m, leB_zs n m, trivial⟩
 have hl3 := gHl B b L e
 have hb3 := gHb hb L e
 have gb3 := gB3 hb L e
 have s3 := gS3 hb L e
 have ok3 := gOk hok b L e
 have c0 := gC0 B b L e
 have c1 := gC1 B b L e
 have c2 := gC2 B b L e
 have t0 := gT0 B b L e
 have t1 := gT1 B b L e
 have hdr := gDr hok b L e
 have gb' := gb
 unfold pX at gb'
 have hly := len_c y
 have hty := take_c y
 have hdy : (y.c.map V.t).drop 6 = [] := List.drop_of_length_le (by simp [hly])
 have ht0 := w_take0 b L e i false sLet h0 (B ++ [zs, zs]) K (gb _) (hok.more _ hz2)
 unfold zs at ht0
 unfold sLet at ht0
 have ht1 := w_take0 b L e i false sReq h1 (B ++ [zs, zs]) K (gb _) (hok.more _ hz2)
 unfold zs at ht1
 unfold sReq at ht1
 have ht := w_take1 b L hil e i false sPost hT (by decide) (B ++ [zs, zs]) K (gb _) (hok.more _ hz2)
 rw [s4] at ht
 unfold zs at ht
 unfold sPost at ht
 have hacc := w_paccount b L hL e (i + 1) false (B.set b (pX L e (i + 1) false) ++ [zs, zs]) K (gb3 _ _ _) ((ok3 _ _).more _ (fun n m => ⟨leB_zs n m, leB_zs n m, trivial⟩))
 rw [s3] at hacc
 unfold zs at hacc
 rw [ha.1, ha.2.1, ha.2.2] at hacc
 have hc := hy (B.set b (pX L e i2 b2) ++ [zs, .cells [vI 3, vI a, vS [], vI 0, vI 0, vI 0, vI 0, vS [], .snil]]) K (gb3 _ _ _) ((ok3 _ _).more _ (fun n m => ⟨leB_zs n m, leB_ns 3 a [] n m, trivial⟩))
 rw [s3] at hc
 unfold zs at hc
 have hn5 := w_need b L hil e i4 b4 [[59]] (by simp; try decide) (by simp) (B.set b (pX L e i4 b4) ++ [zs, .cells (vI 3 :: vI a :: vS [] :: y.c.map V.t)]) K (gb3 _ _ _) ((ok3 _ _).more _ (fun n m => ⟨leB_zs n m, leB_sx 3 a [] y n m, trivial⟩))
 rw [s3] at hn5
 unfold zs at hn5
 rw [h5] at hn5
 (refine FnS.of_code mix Tryz.call110 k_110 (by simp) (fun hB => ?_); (try simp at hB); (try simp -implicitDefEqProofs [qc_110]))
 (try simp -implicitDefEqProofs)
 refine callKf ht0 ?_
 (try simp -implicitDefEqProofs)
 refine callKf ht1 ?_
 (try simp -implicitDefEqProofs)
 refine callKf ht ?_
 (try simp -implicitDefEqProofs)
 refine callKf hacc ?_
 (try simp -implicitDefEqProofs [c1, t1, hl3])
 refine callKf hc ?_
 (try simp -implicitDefEqProofs [c1, t1, hly, hty, hdy, hl3])
 refine callKf hn5 ?_
 (try simp -implicitDefEqProofs [c0, c1, c2, t0, t1, hl3, hdr, LeNs.refl, hly, hty, hdy, Stm.c])
theorem stm_none (hL : TokL L) {i : Nat} (h0 : hdT (L.drop i) ≠ sLet) (h1 : hdT (L.drop i) ≠ sReq) (h2 : hdT (L.drop i) ≠ sPost) : LvV 110 [.ptr b 0] b L e i (Stm.v ⟨0, 0, [], x0⟩) i true := by
 intro B K hbx hok
 have hil := hL.len
 have hb : b < B.length := (List.getElem?_eq_some_iff.1 hbx).1
 have gb := gBx hbx
 have s4 := gS4 hb
 have hz2 : ∀ n m, LeBs n m [zs, zs] [zs, zs] := fun n m => ⟨leB_zs n m, leB_zs n m, trivial⟩
 have hl3 := gHl B b L e
 have hb3 := gHb hb L e
 have gb3 := gB3 hb L e
 have s3 := gS3 hb L e
 have ok3 := gOk hok b L e
 have c0 := gC0 B b L e
 have c1 := gC1 B b L e
 have c2 := gC2 B b L e
 have t0 := gT0 B b L e
 have t1 := gT1 B b L e
 have hdr := gDr hok b L e
 have gb' := gb
 unfold pX at gb'
 have hlx0 := len_c x0
 have htx0 := take_c x0
 have hdx0 : (x0.c.map V.t).drop 6 = [] := List.drop_of_length_le (by simp [hlx0])
 have ht0 := w_take0 b L e i false sLet h0 (B ++ [zs, zs]) K (gb _) (hok.more _ hz2)
 unfold zs at ht0
 unfold sLet at ht0
 have ht1 := w_take0 b L e i false sReq h1 (B ++ [zs, zs]) K (gb _) (hok.more _ hz2)
 unfold zs at ht1
 unfold sReq at ht1
 have ht := w_take0 b L e i false sPost h2 (B ++ [zs, zs]) K (gb _) (hok.more _ hz2)
 unfold zs at ht
 unfold sPost at ht
 have hf := w_pfail b L e i false (B ++ [zs, zs]) K (gb _) (hok.more _ hz2)
 rw [s4] at hf
 unfold zs at hf
 have hc := lvA_bad b L e 0 i (B.set b (pX L e i true) ++ [zs, zs]) K (gb3 _ _ _) ((ok3 _ _).more _ (fun n m => ⟨leB_zs n m, leB_zs n m, trivial⟩))
 rw [s3] at hc
 unfold zs at hc
 have hn5 := w_need b L hil e i true [[59]] (by simp; try decide) (by simp) (B.set b (pX L e i true) ++ [zs, .cells (vI 0 :: vI 0 :: vS [] :: x0.c.map V.t)]) K (gb3 _ _ _) ((ok3 _ _).more _ (fun n m => ⟨leB_zs n m, leB_sx 0 0 [] x0 n m, trivial⟩))
 rw [s3] at hn5
 unfold zs at hn5
 rw [needF_bad] at hn5
 (refine FnS.of_code mix Tryz.call110 k_110 (by simp) (fun hB => ?_); (try simp at hB); (try simp -implicitDefEqProofs [qc_110]))
 (try simp -implicitDefEqProofs)
 refine callKf ht0 ?_
 (try simp -implicitDefEqProofs)
 refine callKf ht1 ?_
 (try simp -implicitDefEqProofs)
 refine callKf ht ?_
 (try simp -implicitDefEqProofs)
 refine callKf hf ?_
 (try simp -implicitDefEqProofs [c1, t1, hl3])
 refine callKf hc ?_
 (try simp -implicitDefEqProofs [c1, t1, hlx0, htx0, hdx0, hl3])
 refine callKf hn5 ?_
 (try simp -implicitDefEqProofs [c0, c1, c2, t0, t1, hl3, hdr, LeNs.refl, hlx0, htx0, hdx0, Stm.c])
theorem stm_ex (hL : TokL L) {n i : Nat} {res : Rd Stm} (h : stmO n (L.drop i) = some res) (hi : i ≤ L.length) : ∃ s i' bd, i ≤ i' ∧ i' ≤ L.length ∧ LvV 110 [.ptr b 0] b L e i (Stm.v s) i' bd ∧ ((bd = false ∧ res = .ok s (L.drop i')) ∨ (bd = true ∧ res = .er (L.drop i'))) := by
 have hlev := w_lev b L hL e n
 unfold stmO at h
 simp only [List.tail_drop] at h
 split at h
 ·rename_i c
  have hlt := drop_hd (L := L) (i := i) (by rw [c]; decide)
  have d0 : Dd L (i + 1) false (fun r => bndO (some (nameT r)) fun s r => bndO (some (wantT [61] r)) fun _ r => bndO (par n (.lev 0) r) fun x r => bndO (some (wantT [59] r)) fun _ r => some (.ok (⟨1, 0, s, x⟩ : Stm) r)) res := ⟨by omega, .inl ⟨rfl, h⟩⟩
  obtain ⟨nm, i2, b2, p1, p2, d1⟩ := d0.name
  obtain ⟨i3, b3, q1, q2, d2⟩ := d1.want (by decide)
  obtain ⟨y, i4, b4, r1, r2, d3⟩ := d2.lev hlev
  obtain ⟨i5, b5, s1, s2, d4⟩ := d3.want (by decide)
  exact ⟨_, i5, b5, by omega, d4.fin.1, stm_let hL c p1 q1 r1 s1, d4.fin.2⟩
 rename_i c0
 split at h
 ·rename_i c
  have hlt := drop_hd (L := L) (i := i) (by rw [c]; decide)
  have d0 : Dd L (i + 1) false (fun r => bndO (par n (.lev 0) r) fun x r => bndO (some (wantT [59] r)) fun _ r => some (.ok (⟨2, 0, [], x⟩ : Stm) r)) res := ⟨by omega, .inl ⟨rfl, h⟩⟩
  obtain ⟨y, i4, b4, r1, r2, d3⟩ := d0.lev hlev
  obtain ⟨i5, b5, s1, s2, d4⟩ := d3.want (by decide)
  exact ⟨_, i5, b5, by omega, d4.fin.1, stm_req hL c0 c r1 s1, d4.fin.2⟩
 rename_i c1
 split at h
 ·rename_i c
  have hlt := drop_hd (L := L) (i := i) (by rw [c]; decide)
  have d0 : Dd L (i + 1) false (fun r => bndO (some (numT 1 99999 r)) fun a r => bndO (par n (.lev 0) r) fun x r => bndO (some (wantT [59] r)) fun _ r => some (.ok (⟨3, a, [], x⟩ : Stm) r)) res := ⟨by omega, .inl ⟨rfl, h⟩⟩
  obtain ⟨a, i2, b2, p1, p2, d1⟩ := d0.num
  obtain ⟨y, i4, b4, r1, r2, d3⟩ := d1.lev hlev
  obtain ⟨i5, b5, s1, s2, d4⟩ := d3.want (by decide)
  exact ⟨_, i5, b5, by omega, d4.fin.1, stm_post hL c0 c1 c p1 r1 s1, d4.fin.2⟩
 ·rename_i c
  exact ⟨_, i, true, Nat.le_refl _, hi, stm_none hL c0 c1 c, .inr ⟨rfl, (Option.some.inj h).symm⟩⟩
end
end Go.Proofs.YtpggidmbnjfmaaaGreatDoor
