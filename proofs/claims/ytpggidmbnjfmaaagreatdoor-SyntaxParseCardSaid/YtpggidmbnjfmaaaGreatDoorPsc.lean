/- Chapter 32: the parser's primary. Printed by gen_prm.py. -/
import Derived.Test.YtpggidmbnjfmaaaGreatDoorPsb
set_option linter.unusedSimpArgs false
set_option linter.unusedVariables false
set_option maxHeartbeats 4000000
set_option maxRecDepth 8000
namespace Go.Proofs.YtpggidmbnjfmaaaGreatDoor
open E

def LvA (b : Nat) (L : List Tok) (e : Int) (k i : Nat) (bd : Bool) (y : Xp) (i2 : Nat) (bd2 : Bool) : Prop :=
 ∀ B K, B[b]? = some (pX L e i bd) → Ps.Ok B K → FnS Tryz.prog 139 [.ptr b 0, vI k] ⟨B, K⟩ y.v ⟨B.set b (pX L e i2 bd2), K⟩
theorem lvA_bad (b : Nat) (L : List Tok) (e : Int) (k i : Nat) : LvA b L e k i true x0 i true := fun B K hbx hok => by
 have := w_levBad b L e k i B K hbx hok
 rw [set_same hbx]; exact this
theorem needF1 {L : List Tok} {s : List UInt8} (i : Nat) : needF L [s] i false = if hdT (L.drop i) = s then (i + 1, false) else (i, true) := by
 rw [needF, if_neg (by decide), pk_hd]
 split <;> rfl
theorem leB_nd (k v f t : Int) (nm : List UInt8) (n m : Nat) : leB n m (.cells [vI k, vI v, vI f, vI t, vS nm, .snil]) (.cells [vI k, vI v, vI f, vI t, vS nm, .snil]) := ⟨LeL_refl _, rfl⟩
section
variable {b : Nat} {L : List Tok} {e : Int}
theorem wpr_end (hL : TokL L) {i : Nat} (hi : i ≤ L.length) (h : L.drop i = []) : LvS 160 [.ptr b 0] b L e i x0 i true := by
 intro B K hbx hok
 have hil := hL.len
 have hb : b < B.length := (List.getElem?_eq_some_iff.1 hbx).1
 have gb := gBx hbx
 have s4 := gS4 hb
 have hzc : ∀ n m, LeBs n m [zc] [zc] := fun n m => ⟨leB_zc n m, trivial⟩
 have hl3 := gHl B b L e
 have hb3 := gHb hb L e
 have gb3 := gB3 hb L e
 have s3 := gS3 hb L e
 have ok3 := gOk hok b L e
 have c0 := gC0 B b L e
 have c1 := gC1 B b L e
 have c2 := gC2 B b L e
 have t0 := gT0 B b L e
 have t1 := gT1 B b L e
 have hdr := gDr hok b L e
 have hpk := w_peek b L e i false (B ++ [zc]) K (gb _) (hok.more _ hzc)
 rw [pk_hd] at hpk
 have gb' := gb
 unfold pX at gb'
 have e3 : IntKind.i64.wrap ((i : Int) + 1) = (i : Int) + 1 := wrap64 (by omega) (by omega)
 have hat : ∀ l, (B ++ l).set b (.cells [Tok.l L, vI e, vI ((i : Int) + 1), vB false]) = B.set b (pX L e (i + 1) false) ++ l := fun l => by
  rw [s4]; unfold pX; push_cast; rfl
 unfold zc at hpk
 have hf := w_pfail b L e i false (B ++ [zc]) K (gb _) (hok.more _ hzc)
 rw [s4] at hf
 rw [h] at hpk
 simp only [hdT] at hpk
 unfold zc at hf
 have hcx : x0.c = [.int .i64 0, .int .i64 0, .int .i64 0, .int .i64 0, .str [], .sl []] := Xp.c_mk _ _ _ _ _ _
 (refine FnS.of_code mix Tryz.call160 k_160 (by simp) (fun hB => ?_); (try simp at hB); (try simp -implicitDefEqProofs [qc_160]))
 (try simp -implicitDefEqProofs)
 refine callKf hpk ?_
 (try simp -implicitDefEqProofs)
 refine callKf hf ?_
 (try simp -implicitDefEqProofs [c0, c1, c2, t0, t1, hl3, hdr, LeNs.refl, hcx])
theorem wpr_lpar (hL : TokL L) {i : Nat} (hi : i ≤ L.length) (h : hdT (L.drop i) = [40]) {y : Xp} {i2 i3 : Nat} {b2 b3 : Bool} (hy : LvA b L e 0 (i + 1) false y i2 b2) (h3 : needF L [[41]] i2 b2 = (i3, b3)) : LvS 160 [.ptr b 0] b L e i y i3 b3 := by
 intro B K hbx hok
 have hil := hL.len
 have hb : b < B.length := (List.getElem?_eq_some_iff.1 hbx).1
 have gb := gBx hbx
 have s4 := gS4 hb
 have hzc : ∀ n m, LeBs n m [zc] [zc] := fun n m => ⟨leB_zc n m, trivial⟩
 have hl3 := gHl B b L e
 have hb3 := gHb hb L e
 have gb3 := gB3 hb L e
 have s3 := gS3 hb L e
 have ok3 := gOk hok b L e
 have c0 := gC0 B b L e
 have c1 := gC1 B b L e
 have c2 := gC2 B b L e
 have t0 := gT0 B b L e
 have t1 := gT1 B b L e
 have hdr := gDr hok b L e
 have hpk := w_peek b L e i false (B ++ [zc]) K (gb _) (hok.more _ hzc)
 rw [pk_hd] at hpk
 have gb' := gb
 unfold pX at gb'
 have e3 : IntKind.i64.wrap ((i : Int) + 1) = (i : Int) + 1 := wrap64 (by omega) (by omega)
 have hat : ∀ l, (B ++ l).set b (.cells [Tok.l L, vI e, vI ((i : Int) + 1), vB false]) = B.set b (pX L e (i + 1) false) ++ l := fun l => by
  rw [s4]; unfold pX; push_cast; rfl
 unfold zc at hpk
 rw [h] at hpk
 have hly := len_c y
 have hty := take_c y
 have hdy : (y.c.map V.t).drop 6 = [] := List.drop_of_length_le (by simp [hly])
 have hc := hy (B.set b (pX L e (i + 1) false) ++ [zc]) K (gb3 _ _ _) ((ok3 _ _).more _ (fun n m => ⟨leB_zc n m, trivial⟩))
 rw [s3] at hc
 unfold zc at hc
 have hn := w_need b L hil e i2 b2 [[41]] (by simp; try decide) (by simp) (B.set b (pX L e i2 b2) ++ [zc, .cells (y.c.map V.t)]) K (gb3 _ _ _) ((ok3 _ _).more _ (fun n m => ⟨leB_zc n m, leB_xc y n m, trivial⟩))
 rw [s3] at hn
 unfold zc at hn
 rw [h3] at hn
 (refine FnS.of_code mix Tryz.call160 k_160 (by simp) (fun hB => ?_); (try simp at hB); (try simp -implicitDefEqProofs [qc_160]))
 (try simp -implicitDefEqProofs)
 refine callKf hpk ?_
 (try simp -implicitDefEqProofs [gb', e3, hat])
 refine callKf hc ?_
 (try simp -implicitDefEqProofs [c1, hly, hty, hl3])
 refine callKf hn ?_
 (try simp -implicitDefEqProofs [c0, c1, c2, t0, t1, hl3, hdr, LeNs.refl, hly, hty, hdy])
theorem wpr_abs (hL : TokL L) {i : Nat} (hi : i ≤ L.length) (h : hdT (L.drop i) = sAbs) {y : Xp} {i1 i2 i3 : Nat} {b1 b2 b3 : Bool} (h1 : needF L [[40]] (i + 1) false = (i1, b1)) (hy : LvA b L e 0 i1 b1 y i2 b2) (h3 : needF L [[41]] i2 b2 = (i3, b3)) : LvS 160 [.ptr b 0] b L e i (one 4 y) i3 b3 := by
 intro B K hbx hok
 have hil := hL.len
 have hb : b < B.length := (List.getElem?_eq_some_iff.1 hbx).1
 have gb := gBx hbx
 have s4 := gS4 hb
 have hzc : ∀ n m, LeBs n m [zc] [zc] := fun n m => ⟨leB_zc n m, trivial⟩
 have hl3 := gHl B b L e
 have hb3 := gHb hb L e
 have gb3 := gB3 hb L e
 have s3 := gS3 hb L e
 have ok3 := gOk hok b L e
 have c0 := gC0 B b L e
 have c1 := gC1 B b L e
 have c2 := gC2 B b L e
 have t0 := gT0 B b L e
 have t1 := gT1 B b L e
 have hdr := gDr hok b L e
 have hpk := w_peek b L e i false (B ++ [zc]) K (gb _) (hok.more _ hzc)
 rw [pk_hd] at hpk
 have gb' := gb
 unfold pX at gb'
 have e3 : IntKind.i64.wrap ((i : Int) + 1) = (i : Int) + 1 := wrap64 (by omega) (by omega)
 have hat : ∀ l, (B ++ l).set b (.cells [Tok.l L, vI e, vI ((i : Int) + 1), vB false]) = B.set b (pX L e (i + 1) false) ++ l := fun l => by
  rw [s4]; unfold pX; push_cast; rfl
 unfold zc at hpk
 rw [h] at hpk
 unfold sAbs at hpk
 have hly := len_c y
 have hty := take_c y
 have hdy : (y.c.map V.t).drop 6 = [] := List.drop_of_length_le (by simp [hly])
 have hcy := c_one 4 y
 have hn1 := w_need b L hil e (i + 1) false [[40]] (by simp; try decide) (by simp) (B.set b (pX L e (i + 1) false) ++ [zc]) K (gb3 _ _ _) ((ok3 _ _).more _ (fun n m => ⟨leB_zc n m, trivial⟩))
 rw [s3] at hn1
 unfold zc at hn1
 rw [h1] at hn1
 have hc := hy (B.set b (pX L e i1 b1) ++ [zc]) K (gb3 _ _ _) ((ok3 _ _).more _ (fun n m => ⟨leB_zc n m, trivial⟩))
 rw [s3] at hc
 unfold zc at hc
 have hn := w_need b L hil e i2 b2 [[41]] (by simp; try decide) (by simp) (B.set b (pX L e i2 b2) ++ [zc, .cells (y.c.map V.t)]) K (gb3 _ _ _) ((ok3 _ _).more _ (fun n m => ⟨leB_zc n m, leB_xc y n m, trivial⟩))
 rw [s3] at hn
 unfold zc at hn
 rw [h3] at hn
 (refine FnS.of_code mix Tryz.call160 k_160 (by simp) (fun hB => ?_); (try simp at hB); (try simp -implicitDefEqProofs [qc_160]))
 (try simp -implicitDefEqProofs)
 refine callKf hpk ?_
 (try simp -implicitDefEqProofs [gb', e3, hat])
 refine callKf hn1 ?_
 (try simp -implicitDefEqProofs [c0, c1, hl3])
 refine callKf hc ?_
 (try simp -implicitDefEqProofs [c1, hly, hty, hl3])
 refine callKf hn ?_
 (try simp -implicitDefEqProofs [c0, c1, c2, t0, t1, hl3, hdr, LeNs.refl, hly, hty, hdy, hcy])
theorem wpr_share (hL : TokL L) {i : Nat} (hi : i ≤ L.length) (h : hdT (L.drop i) = sShare) {y : Xp} {i1 i2 i3 : Nat} {b1 b2 b3 : Bool} (h1 : needF L [[40]] (i + 1) false = (i1, b1)) (hy : LvA b L e 0 i1 b1 y i2 b2) (h3 : needF L [[41]] i2 b2 = (i3, b3)) : LvS 160 [.ptr b 0] b L e i (one 5 y) i3 b3 := by
 intro B K hbx hok
 have hil := hL.len
 have hb : b < B.length := (List.getElem?_eq_some_iff.1 hbx).1
 have gb := gBx hbx
 have s4 := gS4 hb
 have hzc : ∀ n m, LeBs n m [zc] [zc] := fun n m => ⟨leB_zc n m, trivial⟩
 have hl3 := gHl B b L e
 have hb3 := gHb hb L e
 have gb3 := gB3 hb L e
 have s3 := gS3 hb L e
 have ok3 := gOk hok b L e
 have c0 := gC0 B b L e
 have c1 := gC1 B b L e
 have c2 := gC2 B b L e
 have t0 := gT0 B b L e
 have t1 := gT1 B b L e
 have hdr := gDr hok b L e
 have hpk := w_peek b L e i false (B ++ [zc]) K (gb _) (hok.more _ hzc)
 rw [pk_hd] at hpk
 have gb' := gb
 unfold pX at gb'
 have e3 : IntKind.i64.wrap ((i : Int) + 1) = (i : Int) + 1 := wrap64 (by omega) (by omega)
 have hat : ∀ l, (B ++ l).set b (.cells [Tok.l L, vI e, vI ((i : Int) + 1), vB false]) = B.set b (pX L e (i + 1) false) ++ l := fun l => by
  rw [s4]; unfold pX; push_cast; rfl
 unfold zc at hpk
 rw [h] at hpk
 unfold sShare at hpk
 have hly := len_c y
 have hty := take_c y
 have hdy : (y.c.map V.t).drop 6 = [] := List.drop_of_length_le (by simp [hly])
 have hcy := c_one 5 y
 have hn1 := w_need b L hil e (i + 1) false [[40]] (by simp; try decide) (by simp) (B.set b (pX L e (i + 1) false) ++ [zc]) K (gb3 _ _ _) ((ok3 _ _).more _ (fun n m => ⟨leB_zc n m, trivial⟩))
 rw [s3] at hn1
 unfold zc at hn1
 rw [h1] at hn1
 have hc := hy (B.set b (pX L e i1 b1) ++ [zc]) K (gb3 _ _ _) ((ok3 _ _).more _ (fun n m => ⟨leB_zc n m, trivial⟩))
 rw [s3] at hc
 unfold zc at hc
 have hn := w_need b L hil e i2 b2 [[41]] (by simp; try decide) (by simp) (B.set b (pX L e i2 b2) ++ [zc, .cells (y.c.map V.t)]) K (gb3 _ _ _) ((ok3 _ _).more _ (fun n m => ⟨leB_zc n m, leB_xc y n m, trivial⟩))
 rw [s3] at hn
 unfold zc at hn
 rw [h3] at hn
 (refine FnS.of_code mix Tryz.call160 k_160 (by simp) (fun hB => ?_); (try simp at hB); (try simp -implicitDefEqProofs [qc_160]))
 (try simp -implicitDefEqProofs)
 refine callKf hpk ?_
 (try simp -implicitDefEqProofs [gb', e3, hat])
 refine callKf hn1 ?_
 (try simp -implicitDefEqProofs [c0, c1, hl3])
 refine callKf hc ?_
 (try simp -implicitDefEqProofs [c1, hly, hty, hl3])
 refine callKf hn ?_
 (try simp -implicitDefEqProofs [c0, c1, c2, t0, t1, hl3, hdr, LeNs.refl, hly, hty, hdy, hcy])
theorem wpr_min (hL : TokL L) {i : Nat} (hi : i ≤ L.length) (h : hdT (L.drop i) = sMin) {x y : Xp} {i1 i2 i3 i4 i5 : Nat} {b1 b2 b3 b4 b5 : Bool} (h1 : needF L [[40]] (i + 1) false = (i1, b1)) (hx : LvA b L e 0 i1 b1 x i2 b2) (h3 : needF L [[44]] i2 b2 = (i3, b3)) (hy : LvA b L e 0 i3 b3 y i4 b4) (h5 : needF L [[41]] i4 b4 = (i5, b5)) : LvS 160 [.ptr b 0] b L e i (two 10 x y) i5 b5 := by
 intro B K hbx hok
 have hil := hL.len
 have hb : b < B.length := (List.getElem?_eq_some_iff.1 hbx).1
 have gb := gBx hbx
 have s4 := gS4 hb
 have hzc : ∀ n m, LeBs n m [zc] [zc] := fun n m => ⟨leB_zc n m, trivial⟩
 have hl3 := gHl B b L e
 have hb3 := gHb hb L e
 have gb3 := gB3 hb L e
 have s3 := gS3 hb L e
 have ok3 := gOk hok b L e
 have c0 := gC0 B b L e
 have c1 := gC1 B b L e
 have c2 := gC2 B b L e
 have t0 := gT0 B b L e
 have t1 := gT1 B b L e
 have hdr := gDr hok b L e
 have hpk := w_peek b L e i false (B ++ [zc]) K (gb _) (hok.more _ hzc)
 rw [pk_hd] at hpk
 have gb' := gb
 unfold pX at gb'
 have e3 : IntKind.i64.wrap ((i : Int) + 1) = (i : Int) + 1 := wrap64 (by omega) (by omega)
 have hat : ∀ l, (B ++ l).set b (.cells [Tok.l L, vI e, vI ((i : Int) + 1), vB false]) = B.set b (pX L e (i + 1) false) ++ l := fun l => by
  rw [s4]; unfold pX; push_cast; rfl
 unfold zc at hpk
 rw [h] at hpk
 unfold sMin at hpk
 have hlx := len_c x
 have htx := take_c x
 have hdx : (x.c.map V.t).drop 6 = [] := List.drop_of_length_le (by simp [hlx])
 have hly := len_c y
 have hty := take_c y
 have hdy : (y.c.map V.t).drop 6 = [] := List.drop_of_length_le (by simp [hly])
 have hcy := c_two 10 x y
 have hn1 := w_need b L hil e (i + 1) false [[40]] (by simp; try decide) (by simp) (B.set b (pX L e (i + 1) false) ++ [zc]) K (gb3 _ _ _) ((ok3 _ _).more _ (fun n m => ⟨leB_zc n m, trivial⟩))
 rw [s3] at hn1
 unfold zc at hn1
 rw [h1] at hn1
 have hc := hx (B.set b (pX L e i1 b1) ++ [zc]) K (gb3 _ _ _) ((ok3 _ _).more _ (fun n m => ⟨leB_zc n m, trivial⟩))
 rw [s3] at hc
 unfold zc at hc
 have hn3 := w_need b L hil e i2 b2 [[44]] (by simp; try decide) (by simp) (B.set b (pX L e i2 b2) ++ [zc, .cells (x.c.map V.t)]) K (gb3 _ _ _) ((ok3 _ _).more _ (fun n m => ⟨leB_zc n m, leB_xc x n m, trivial⟩))
 rw [s3] at hn3
 unfold zc at hn3
 rw [h3] at hn3
 have hc4 := hy (B.set b (pX L e i3 b3) ++ [zc, .cells (x.c.map V.t)]) K (gb3 _ _ _) ((ok3 _ _).more _ (fun n m => ⟨leB_zc n m, leB_xc x n m, trivial⟩))
 rw [s3] at hc4
 unfold zc at hc4
 have hn5 := w_need b L hil e i4 b4 [[41]] (by simp; try decide) (by simp) (B.set b (pX L e i4 b4) ++ [zc, .cells (x.c.map V.t), .cells (y.c.map V.t)]) K (gb3 _ _ _) ((ok3 _ _).more _ (fun n m => ⟨leB_zc n m, leB_xc x n m, leB_xc y n m, trivial⟩))
 rw [s3] at hn5
 unfold zc at hn5
 rw [h5] at hn5
 (refine FnS.of_code mix Tryz.call160 k_160 (by simp) (fun hB => ?_); (try simp at hB); (try simp -implicitDefEqProofs [qc_160]))
 (try simp -implicitDefEqProofs)
 refine callKf hpk ?_
 (try simp -implicitDefEqProofs [gb', e3, hat])
 refine callKf hn1 ?_
 (try simp -implicitDefEqProofs [c0, c1, hl3])
 refine callKf hc ?_
 (try simp -implicitDefEqProofs [c1, hlx, htx, hl3])
 refine callKf hn3 ?_
 (try simp -implicitDefEqProofs [c1, c2, hl3])
 refine callKf hc4 ?_
 (try simp -implicitDefEqProofs [c1, c2, hlx, htx, hly, hty, hl3])
 refine callKf hn5 ?_
 (try simp -implicitDefEqProofs [c0, c1, c2, t0, t1, hl3, hdr, LeNs.refl, hlx, htx, hdx, hly, hty, hdy, hcy])
theorem wpr_max (hL : TokL L) {i : Nat} (hi : i ≤ L.length) (h : hdT (L.drop i) = sMax) {x y : Xp} {i1 i2 i3 i4 i5 : Nat} {b1 b2 b3 b4 b5 : Bool} (h1 : needF L [[40]] (i + 1) false = (i1, b1)) (hx : LvA b L e 0 i1 b1 x i2 b2) (h3 : needF L [[44]] i2 b2 = (i3, b3)) (hy : LvA b L e 0 i3 b3 y i4 b4) (h5 : needF L [[41]] i4 b4 = (i5, b5)) : LvS 160 [.ptr b 0] b L e i (two 11 x y) i5 b5 := by
 intro B K hbx hok
 have hil := hL.len
 have hb : b < B.length := (List.getElem?_eq_some_iff.1 hbx).1
 have gb := gBx hbx
 have s4 := gS4 hb
 have hzc : ∀ n m, LeBs n m [zc] [zc] := fun n m => ⟨leB_zc n m, trivial⟩
 have hl3 := gHl B b L e
 have hb3 := gHb hb L e
 have gb3 := gB3 hb L e
 have s3 := gS3 hb L e
 have ok3 := gOk hok b L e
 have c0 := gC0 B b L e
 have c1 := gC1 B b L e
 have c2 := gC2 B b L e
 have t0 := gT0 B b L e
 have t1 := gT1 B b L e
 have hdr := gDr hok b L e
 have hpk := w_peek b L e i false (B ++ [zc]) K (gb _) (hok.more _ hzc)
 rw [pk_hd] at hpk
 have gb' := gb
 unfold pX at gb'
 have e3 : IntKind.i64.wrap ((i : Int) + 1) = (i : Int) + 1 := wrap64 (by omega) (by omega)
 have hat : ∀ l, (B ++ l).set b (.cells [Tok.l L, vI e, vI ((i : Int) + 1), vB false]) = B.set b (pX L e (i + 1) false) ++ l := fun l => by
  rw [s4]; unfold pX; push_cast; rfl
 unfold zc at hpk
 rw [h] at hpk
 unfold sMax at hpk
 have hlx := len_c x
 have htx := take_c x
 have hdx : (x.c.map V.t).drop 6 = [] := List.drop_of_length_le (by simp [hlx])
 have hly := len_c y
 have hty := take_c y
 have hdy : (y.c.map V.t).drop 6 = [] := List.drop_of_length_le (by simp [hly])
 have hcy := c_two 11 x y
 have hn1 := w_need b L hil e (i + 1) false [[40]] (by simp; try decide) (by simp) (B.set b (pX L e (i + 1) false) ++ [zc]) K (gb3 _ _ _) ((ok3 _ _).more _ (fun n m => ⟨leB_zc n m, trivial⟩))
 rw [s3] at hn1
 unfold zc at hn1
 rw [h1] at hn1
 have hc := hx (B.set b (pX L e i1 b1) ++ [zc]) K (gb3 _ _ _) ((ok3 _ _).more _ (fun n m => ⟨leB_zc n m, trivial⟩))
 rw [s3] at hc
 unfold zc at hc
 have hn3 := w_need b L hil e i2 b2 [[44]] (by simp; try decide) (by simp) (B.set b (pX L e i2 b2) ++ [zc, .cells (x.c.map V.t)]) K (gb3 _ _ _) ((ok3 _ _).more _ (fun n m => ⟨leB_zc n m, leB_xc x n m, trivial⟩))
 rw [s3] at hn3
 unfold zc at hn3
 rw [h3] at hn3
 have hc4 := hy (B.set b (pX L e i3 b3) ++ [zc, .cells (x.c.map V.t)]) K (gb3 _ _ _) ((ok3 _ _).more _ (fun n m => ⟨leB_zc n m, leB_xc x n m, trivial⟩))
 rw [s3] at hc4
 unfold zc at hc4
 have hn5 := w_need b L hil e i4 b4 [[41]] (by simp; try decide) (by simp) (B.set b (pX L e i4 b4) ++ [zc, .cells (x.c.map V.t), .cells (y.c.map V.t)]) K (gb3 _ _ _) ((ok3 _ _).more _ (fun n m => ⟨leB_zc n m, leB_xc x n m, leB_xc y n m, trivial⟩))
 rw [s3] at hn5
 unfold zc at hn5
 rw [h5] at hn5
 (refine FnS.of_code mix Tryz.call160 k_160 (by simp) (fun hB => ?_); (try simp at hB); (try simp -implicitDefEqProofs [qc_160]))
 (try simp -implicitDefEqProofs)
 refine callKf hpk ?_
 (try simp -implicitDefEqProofs [gb', e3, hat])
 refine callKf hn1 ?_
 (try simp -implicitDefEqProofs [c0, c1, hl3])
 refine callKf hc ?_
 (try simp -implicitDefEqProofs [c1, hlx, htx, hl3])
 refine callKf hn3 ?_
 (try simp -implicitDefEqProofs [c1, c2, hl3])
 refine callKf hc4 ?_
 (try simp -implicitDefEqProofs [c1, c2, hlx, htx, hly, hty, hl3])
 refine callKf hn5 ?_
 (try simp -implicitDefEqProofs [c0, c1, c2, t0, t1, hl3, hdr, LeNs.refl, hlx, htx, hdx, hly, hty, hdy, hcy])
theorem wpr_bal (hL : TokL L) {i : Nat} (hi : i ≤ L.length) (h : hdT (L.drop i) = sBal) {f t : Int} {i1 i2 i3 i4 i5 : Nat} {b1 b2 b3 b4 b5 : Bool} (h1 : needF L [[40]] (i + 1) false = (i1, b1)) (hf : (nuO 1 99999 L i1 b1).getD 0 = f ∧ (if (nuO 1 99999 L i1 b1).isSome then i1 + 1 else i1) = i2 ∧ (if (nuO 1 99999 L i1 b1).isSome then b1 else true) = b2) (h3 : needF L [[46, 46]] i2 b2 = (i3, b3)) (ht : (nuO 1 99999 L i3 b3).getD 0 = t ∧ (if (nuO 1 99999 L i3 b3).isSome then i3 + 1 else i3) = i4 ∧ (if (nuO 1 99999 L i3 b3).isSome then b3 else true) = b4) (h5 : needF L [[41]] i4 b4 = (i5, b5)) : LvS 160 [.ptr b 0] b L e i (.mk 21 0 f t [] []) i5 b5 := by
 intro B K hbx hok
 have hil := hL.len
 have hb : b < B.length := (List.getElem?_eq_some_iff.1 hbx).1
 have gb := gBx hbx
 have s4 := gS4 hb
 have hzc : ∀ n m, LeBs n m [zc] [zc] := fun n m => ⟨leB_zc n m, trivial⟩
 have hl3 := gHl B b L e
 have hb3 := gHb hb L e
 have gb3 := gB3 hb L e
 have s3 := gS3 hb L e
 have ok3 := gOk hok b L e
 have c0 := gC0 B b L e
 have c1 := gC1 B b L e
 have c2 := gC2 B b L e
 have t0 := gT0 B b L e
 have t1 := gT1 B b L e
 have hdr := gDr hok b L e
 have hpk := w_peek b L e i false (B ++ [zc]) K (gb _) (hok.more _ hzc)
 rw [pk_hd] at hpk
 have gb' := gb
 unfold pX at gb'
 have e3 : IntKind.i64.wrap ((i : Int) + 1) = (i : Int) + 1 := wrap64 (by omega) (by omega)
 have hat : ∀ l, (B ++ l).set b (.cells [Tok.l L, vI e, vI ((i : Int) + 1), vB false]) = B.set b (pX L e (i + 1) false) ++ l := fun l => by
  rw [s4]; unfold pX; push_cast; rfl
 unfold zc at hpk
 rw [h] at hpk
 unfold sBal at hpk
 have hcy : (Xp.mk 21 0 f t [] []).c = [.int .i64 21, .int .i64 0, .int .i64 f, .int .i64 t, .str [], .sl []] := Xp.c_mk _ _ _ _ _ _
 have hn1 := w_need b L hil e (i + 1) false [[40]] (by simp; try decide) (by simp) (B.set b (pX L e (i + 1) false) ++ [zc, .cells [vI 21, vI 0, vI 0, vI 0, vS [], .snil]]) K (gb3 _ _ _) ((ok3 _ _).more _ (fun n m => ⟨leB_zc n m, leB_nd 21 0 0 0 [] n m, trivial⟩))
 rw [s3] at hn1
 unfold zc at hn1
 rw [h1] at hn1
 have ha1 := w_paccount b L hL e i1 b1 (B.set b (pX L e i1 b1) ++ [zc, .cells [vI 21, vI 0, vI 0, vI 0, vS [], .snil]]) K (gb3 _ _ _) ((ok3 _ _).more _ (fun n m => ⟨leB_zc n m, leB_nd 21 0 0 0 [] n m, trivial⟩))
 rw [s3] at ha1
 unfold zc at ha1
 rw [hf.1, hf.2.1, hf.2.2] at ha1
 have hn3 := w_need b L hil e i2 b2 [[46, 46]] (by simp; try decide) (by simp) (B.set b (pX L e i2 b2) ++ [zc, .cells [vI 21, vI 0, vI f, vI 0, vS [], .snil]]) K (gb3 _ _ _) ((ok3 _ _).more _ (fun n m => ⟨leB_zc n m, leB_nd 21 0 f 0 [] n m, trivial⟩))
 rw [s3] at hn3
 unfold zc at hn3
 rw [h3] at hn3
 have ha3 := w_paccount b L hL e i3 b3 (B.set b (pX L e i3 b3) ++ [zc, .cells [vI 21, vI 0, vI f, vI 0, vS [], .snil]]) K (gb3 _ _ _) ((ok3 _ _).more _ (fun n m => ⟨leB_zc n m, leB_nd 21 0 f 0 [] n m, trivial⟩))
 rw [s3] at ha3
 unfold zc at ha3
 rw [ht.1, ht.2.1, ht.2.2] at ha3
 have hn5 := w_need b L hil e i4 b4 [[41]] (by simp; try decide) (by simp) (B.set b (pX L e i4 b4) ++ [zc, .cells [vI 21, vI 0, vI f, vI t, vS [], .snil]]) K (gb3 _ _ _) ((ok3 _ _).more _ (fun n m => ⟨leB_zc n m, leB_nd 21 0 f t [] n m, trivial⟩))
 rw [s3] at hn5
 unfold zc at hn5
 rw [h5] at hn5
 have gc1 := gb3 i1 b1
 have gc3 := gb3 i3 b3
 conv at gc1 => intro l; rhs; unfold pX
 conv at gc3 => intro l; rhs; unfold pX
 (refine FnS.of_code mix Tryz.call160 k_160 (by simp) (fun hB => ?_); (try simp at hB); (try simp -implicitDefEqProofs [qc_160]))
 (try simp -implicitDefEqProofs)
 refine callKf hpk ?_
 (try simp -implicitDefEqProofs [gb', e3, hat, c1, t1, hl3])
 refine callKf hn1 ?_
 cases b1 with
 | true =>
  have hno : nuO 1 99999 L i1 true = none := rfl
  rw [hno] at hf
  obtain ⟨hf1, hf2, hf3⟩ := hf
  simp only [Option.isSome_none, Bool.false_eq_true, if_false, Option.getD_none] at hf1 hf2 hf3
  subst hf1; subst hf2; subst hf3
  (try simp -implicitDefEqProofs [gc1, c0, c1, hl3])
  refine callKf hn3 ?_
  cases b3 with
  | false => rw [needF_bad] at h3; cases h3
  | true =>
   have hno : nuO 1 99999 L i3 true = none := rfl
   rw [hno] at ht
   obtain ⟨ht1, ht2, ht3⟩ := ht
   simp only [Option.isSome_none, Bool.false_eq_true, if_false, Option.getD_none] at ht1 ht2 ht3
   subst ht1; subst ht2; subst ht3
   (try simp -implicitDefEqProofs [gc3, c0, c1, hl3])
   refine callKf hn5 ?_
   (try simp -implicitDefEqProofs [c0, c1, c2, t0, t1, hl3, hdr, LeNs.refl, hcy])
 | false =>
  (try simp -implicitDefEqProofs [gc1, c0, c1, hl3])
  refine callKf ha1 ?_
  (try simp -implicitDefEqProofs [c0, c1, t1, hl3])
  refine callKf hn3 ?_
  cases b3 with
  | true =>
   have hno : nuO 1 99999 L i3 true = none := rfl
   rw [hno] at ht
   obtain ⟨ht1, ht2, ht3⟩ := ht
   simp only [Option.isSome_none, Bool.false_eq_true, if_false, Option.getD_none] at ht1 ht2 ht3
   subst ht1; subst ht2; subst ht3
   (try simp -implicitDefEqProofs [gc3, c0, c1, hl3])
   refine callKf hn5 ?_
   (try simp -implicitDefEqProofs [c0, c1, c2, t0, t1, hl3, hdr, LeNs.refl, hcy])
  | false =>
   (try simp -implicitDefEqProofs [gc3, c0, c1, hl3])
   refine callKf ha3 ?_
   (try simp -implicitDefEqProofs [c0, c1, t1, hl3])
   refine callKf hn5 ?_
   (try simp -implicitDefEqProofs [c0, c1, c2, t0, t1, hl3, hdr, LeNs.refl, hcy])
theorem wpr_part (hL : TokL L) {i : Nat} (hi : i ≤ L.length) (h : hdT (L.drop i) = sPart) {f t : Int} {i1 i2 i3 i4 i5 : Nat} {b1 b2 b3 b4 b5 : Bool} (h1 : needF L [[40]] (i + 1) false = (i1, b1)) (hf : (nuO 1 99999 L i1 b1).getD 0 = f ∧ (if (nuO 1 99999 L i1 b1).isSome then i1 + 1 else i1) = i2 ∧ (if (nuO 1 99999 L i1 b1).isSome then b1 else true) = b2) (h3 : needF L [[46, 46]] i2 b2 = (i3, b3)) (ht : (nuO 1 99999 L i3 b3).getD 0 = t ∧ (if (nuO 1 99999 L i3 b3).isSome then i3 + 1 else i3) = i4 ∧ (if (nuO 1 99999 L i3 b3).isSome then b3 else true) = b4) (h5 : needF L [[41]] i4 b4 = (i5, b5)) : LvS 160 [.ptr b 0] b L e i (.mk 22 0 f t [] []) i5 b5 := by
 intro B K hbx hok
 have hil := hL.len
 have hb : b < B.length := (List.getElem?_eq_some_iff.1 hbx).1
 have gb := gBx hbx
 have s4 := gS4 hb
 have hzc : ∀ n m, LeBs n m [zc] [zc] := fun n m => ⟨leB_zc n m, trivial⟩
 have hl3 := gHl B b L e
 have hb3 := gHb hb L e
 have gb3 := gB3 hb L e
 have s3 := gS3 hb L e
 have ok3 := gOk hok b L e
 have c0 := gC0 B b L e
 have c1 := gC1 B b L e
 have c2 := gC2 B b L e
 have t0 := gT0 B b L e
 have t1 := gT1 B b L e
 have hdr := gDr hok b L e
 have hpk := w_peek b L e i false (B ++ [zc]) K (gb _) (hok.more _ hzc)
 rw [pk_hd] at hpk
 have gb' := gb
 unfold pX at gb'
 have e3 : IntKind.i64.wrap ((i : Int) + 1) = (i : Int) + 1 := wrap64 (by omega) (by omega)
 have hat : ∀ l, (B ++ l).set b (.cells [Tok.l L, vI e, vI ((i : Int) + 1), vB false]) = B.set b (pX L e (i + 1) false) ++ l := fun l => by
  rw [s4]; unfold pX; push_cast; rfl
 unfold zc at hpk
 rw [h] at hpk
 unfold sPart at hpk
 have hcy : (Xp.mk 22 0 f t [] []).c = [.int .i64 22, .int .i64 0, .int .i64 f, .int .i64 t, .str [], .sl []] := Xp.c_mk _ _ _ _ _ _
 have hn1 := w_need b L hil e (i + 1) false [[40]] (by simp; try decide) (by simp) (B.set b (pX L e (i + 1) false) ++ [zc, .cells [vI 22, vI 0, vI 0, vI 0, vS [], .snil]]) K (gb3 _ _ _) ((ok3 _ _).more _ (fun n m => ⟨leB_zc n m, leB_nd 22 0 0 0 [] n m, trivial⟩))
 rw [s3] at hn1
 unfold zc at hn1
 rw [h1] at hn1
 have ha1 := w_paccount b L hL e i1 b1 (B.set b (pX L e i1 b1) ++ [zc, .cells [vI 22, vI 0, vI 0, vI 0, vS [], .snil]]) K (gb3 _ _ _) ((ok3 _ _).more _ (fun n m => ⟨leB_zc n m, leB_nd 22 0 0 0 [] n m, trivial⟩))
 rw [s3] at ha1
 unfold zc at ha1
 rw [hf.1, hf.2.1, hf.2.2] at ha1
 have hn3 := w_need b L hil e i2 b2 [[46, 46]] (by simp; try decide) (by simp) (B.set b (pX L e i2 b2) ++ [zc, .cells [vI 22, vI 0, vI f, vI 0, vS [], .snil]]) K (gb3 _ _ _) ((ok3 _ _).more _ (fun n m => ⟨leB_zc n m, leB_nd 22 0 f 0 [] n m, trivial⟩))
 rw [s3] at hn3
 unfold zc at hn3
 rw [h3] at hn3
 have ha3 := w_paccount b L hL e i3 b3 (B.set b (pX L e i3 b3) ++ [zc, .cells [vI 22, vI 0, vI f, vI 0, vS [], .snil]]) K (gb3 _ _ _) ((ok3 _ _).more _ (fun n m => ⟨leB_zc n m, leB_nd 22 0 f 0 [] n m, trivial⟩))
 rw [s3] at ha3
 unfold zc at ha3
 rw [ht.1, ht.2.1, ht.2.2] at ha3
 have hn5 := w_need b L hil e i4 b4 [[41]] (by simp; try decide) (by simp) (B.set b (pX L e i4 b4) ++ [zc, .cells [vI 22, vI 0, vI f, vI t, vS [], .snil]]) K (gb3 _ _ _) ((ok3 _ _).more _ (fun n m => ⟨leB_zc n m, leB_nd 22 0 f t [] n m, trivial⟩))
 rw [s3] at hn5
 unfold zc at hn5
 rw [h5] at hn5
 have gc1 := gb3 i1 b1
 have gc3 := gb3 i3 b3
 conv at gc1 => intro l; rhs; unfold pX
 conv at gc3 => intro l; rhs; unfold pX
 (refine FnS.of_code mix Tryz.call160 k_160 (by simp) (fun hB => ?_); (try simp at hB); (try simp -implicitDefEqProofs [qc_160]))
 (try simp -implicitDefEqProofs)
 refine callKf hpk ?_
 (try simp -implicitDefEqProofs [gb', e3, hat, c1, t1, hl3])
 refine callKf hn1 ?_
 cases b1 with
 | true =>
  have hno : nuO 1 99999 L i1 true = none := rfl
  rw [hno] at hf
  obtain ⟨hf1, hf2, hf3⟩ := hf
  simp only [Option.isSome_none, Bool.false_eq_true, if_false, Option.getD_none] at hf1 hf2 hf3
  subst hf1; subst hf2; subst hf3
  (try simp -implicitDefEqProofs [gc1, c0, c1, hl3])
  refine callKf hn3 ?_
  cases b3 with
  | false => rw [needF_bad] at h3; cases h3
  | true =>
   have hno : nuO 1 99999 L i3 true = none := rfl
   rw [hno] at ht
   obtain ⟨ht1, ht2, ht3⟩ := ht
   simp only [Option.isSome_none, Bool.false_eq_true, if_false, Option.getD_none] at ht1 ht2 ht3
   subst ht1; subst ht2; subst ht3
   (try simp -implicitDefEqProofs [gc3, c0, c1, hl3])
   refine callKf hn5 ?_
   (try simp -implicitDefEqProofs [c0, c1, c2, t0, t1, hl3, hdr, LeNs.refl, hcy])
 | false =>
  (try simp -implicitDefEqProofs [gc1, c0, c1, hl3])
  refine callKf ha1 ?_
  (try simp -implicitDefEqProofs [c0, c1, t1, hl3])
  refine callKf hn3 ?_
  cases b3 with
  | true =>
   have hno : nuO 1 99999 L i3 true = none := rfl
   rw [hno] at ht
   obtain ⟨ht1, ht2, ht3⟩ := ht
   simp only [Option.isSome_none, Bool.false_eq_true, if_false, Option.getD_none] at ht1 ht2 ht3
   subst ht1; subst ht2; subst ht3
   (try simp -implicitDefEqProofs [gc3, c0, c1, hl3])
   refine callKf hn5 ?_
   (try simp -implicitDefEqProofs [c0, c1, c2, t0, t1, hl3, hdr, LeNs.refl, hcy])
  | false =>
   (try simp -implicitDefEqProofs [gc3, c0, c1, hl3])
   refine callKf ha3 ?_
   (try simp -implicitDefEqProofs [c0, c1, t1, hl3])
   refine callKf hn5 ?_
   (try simp -implicitDefEqProofs [c0, c1, c2, t0, t1, hl3, hdr, LeNs.refl, hcy])
theorem wpr_num (hL : TokL L) {i : Nat} (hi : i ≤ L.length) (hne : hdT (L.drop i) ≠ [] ∧ hdT (L.drop i) ≠ [40] ∧ hdT (L.drop i) ≠ sMin ∧ hdT (L.drop i) ≠ sMax ∧ hdT (L.drop i) ≠ sAbs ∧ hdT (L.drop i) ≠ sShare ∧ hdT (L.drop i) ≠ sBal ∧ hdT (L.drop i) ≠ sPart) {v : Int} {i2 : Nat} {b2 : Bool} (hk : kdT (L.drop i) = 2) (hv : (nuO 0 1000000000000 L i false).getD 0 = v ∧ (if (nuO 0 1000000000000 L i false).isSome then i + 1 else i) = i2 ∧ (if (nuO 0 1000000000000 L i false).isSome then false else true) = b2) : LvS 160 [.ptr b 0] b L e i (.mk 1 v 0 0 [] []) i2 b2 := by
 intro B K hbx hok
 have hil := hL.len
 have hb : b < B.length := (List.getElem?_eq_some_iff.1 hbx).1
 have gb := gBx hbx
 have s4 := gS4 hb
 have hzc : ∀ n m, LeBs n m [zc] [zc] := fun n m => ⟨leB_zc n m, trivial⟩
 have hl3 := gHl B b L e
 have hb3 := gHb hb L e
 have gb3 := gB3 hb L e
 have s3 := gS3 hb L e
 have ok3 := gOk hok b L e
 have c0 := gC0 B b L e
 have c1 := gC1 B b L e
 have c2 := gC2 B b L e
 have t0 := gT0 B b L e
 have t1 := gT1 B b L e
 have hdr := gDr hok b L e
 have hpk := w_peek b L e i false (B ++ [zc]) K (gb _) (hok.more _ hzc)
 rw [pk_hd] at hpk
 have gb' := gb
 unfold pX at gb'
 have e3 : IntKind.i64.wrap ((i : Int) + 1) = (i : Int) + 1 := wrap64 (by omega) (by omega)
 have hat : ∀ l, (B ++ l).set b (.cells [Tok.l L, vI e, vI ((i : Int) + 1), vB false]) = B.set b (pX L e (i + 1) false) ++ l := fun l => by
  rw [s4]; unfold pX; push_cast; rfl
 unfold zc at hpk
 have hn := w_pnumber b L hL e i false 0 1000000000000 (B ++ [zc]) K (gb _) (hok.more _ hzc)
 rw [hv.1, hv.2.1, hv.2.2, s4] at hn
 unfold zc at hn
 have hcy : (Xp.mk 1 v 0 0 [] []).c = [.int .i64 1, .int .i64 v, .int .i64 0, .int .i64 0, .str [], .sl []] := Xp.c_mk _ _ _ _ _ _
 have hlt := drop_hd hne.1
 have hx : L[i]? = some L[i] := by simp [hlt]
 have hkd : kdT (L.drop i) = L[i].kind := by rw [drop_at hlt]; rfl
 rw [hkd] at hk
 obtain ⟨n0, n1, n2, n3, n4, n5, n6, n7⟩ := hne
 unfold sMin at n2
 unfold sMax at n3
 unfold sAbs at n4
 unfold sShare at n5
 unfold sBal at n6
 unfold sPart at n7
 generalize hdT (L.drop i) = s at *
 have z0 : (s == []) = false := by simpa using n0
 have z1 : (s == [40]) = false := by simpa using n1
 have z2 : (s == [109, 105, 110]) = false := by simpa using n2
 have z3 : (s == [109, 97, 120]) = false := by simpa using n3
 have z4 : (s == [97, 98, 115]) = false := by simpa using n4
 have z5 : (s == [115, 104, 97, 114, 101]) = false := by simpa using n5
 have z6 : (s == [98, 97, 108, 97, 110, 99, 101]) = false := by simpa using n6
 have z7 : (s == [112, 97, 114, 116, 110, 101, 114]) = false := by simpa using n7
 (refine FnS.of_code mix Tryz.call160 k_160 (by simp) (fun hB => ?_); (try simp at hB); (try simp -implicitDefEqProofs [qc_160]))
 (try simp -implicitDefEqProofs)
 refine callKf hpk ?_
 (try simp -implicitDefEqProofs [gb', hlt, Tok.c, n0, n1, n2, n3, n4, n5, n6, n7, z0, z1, z2, z3, z4, z5, z6, z7, hk])
 refine callKf hn ?_
 (try simp -implicitDefEqProofs [c0, c1, c2, t0, t1, hl3, hdr, LeNs.refl, hcy])
theorem wpr_name (hL : TokL L) {i : Nat} (hi : i ≤ L.length) (hne : hdT (L.drop i) ≠ [] ∧ hdT (L.drop i) ≠ [40] ∧ hdT (L.drop i) ≠ sMin ∧ hdT (L.drop i) ≠ sMax ∧ hdT (L.drop i) ≠ sAbs ∧ hdT (L.drop i) ≠ sShare ∧ hdT (L.drop i) ≠ sBal ∧ hdT (L.drop i) ≠ sPart) {v : List UInt8} {i2 : Nat} {b2 : Bool} (hk : kdT (L.drop i) ≠ 2) (hv : (nmO L i false).getD [] = v ∧ (if (nmO L i false).isSome then i + 1 else i) = i2 ∧ (if (nmO L i false).isSome then false else true) = b2) : LvS 160 [.ptr b 0] b L e i (.mk 2 0 0 0 v []) i2 b2 := by
 intro B K hbx hok
 have hil := hL.len
 have hb : b < B.length := (List.getElem?_eq_some_iff.1 hbx).1
 have gb := gBx hbx
 have s4 := gS4 hb
 have hzc : ∀ n m, LeBs n m [zc] [zc] := fun n m => ⟨leB_zc n m, trivial⟩
 have hl3 := gHl B b L e
 have hb3 := gHb hb L e
 have gb3 := gB3 hb L e
 have s3 := gS3 hb L e
 have ok3 := gOk hok b L e
 have c0 := gC0 B b L e
 have c1 := gC1 B b L e
 have c2 := gC2 B b L e
 have t0 := gT0 B b L e
 have t1 := gT1 B b L e
 have hdr := gDr hok b L e
 have hpk := w_peek b L e i false (B ++ [zc]) K (gb _) (hok.more _ hzc)
 rw [pk_hd] at hpk
 have gb' := gb
 unfold pX at gb'
 have e3 : IntKind.i64.wrap ((i : Int) + 1) = (i : Int) + 1 := wrap64 (by omega) (by omega)
 have hat : ∀ l, (B ++ l).set b (.cells [Tok.l L, vI e, vI ((i : Int) + 1), vB false]) = B.set b (pX L e (i + 1) false) ++ l := fun l => by
  rw [s4]; unfold pX; push_cast; rfl
 unfold zc at hpk
 have hn := w_pname b L hL e i false (B ++ [zc]) K (gb _) (hok.more _ hzc)
 rw [hv.1, hv.2.1, hv.2.2, s4] at hn
 unfold zc at hn
 have hcy : (Xp.mk 2 0 0 0 v []).c = [.int .i64 2, .int .i64 0, .int .i64 0, .int .i64 0, .str v, .sl []] := Xp.c_mk _ _ _ _ _ _
 have hlt := drop_hd hne.1
 have hx : L[i]? = some L[i] := by simp [hlt]
 have hkd : kdT (L.drop i) = L[i].kind := by rw [drop_at hlt]; rfl
 rw [hkd] at hk
 obtain ⟨n0, n1, n2, n3, n4, n5, n6, n7⟩ := hne
 unfold sMin at n2
 unfold sMax at n3
 unfold sAbs at n4
 unfold sShare at n5
 unfold sBal at n6
 unfold sPart at n7
 generalize hdT (L.drop i) = s at *
 have z0 : (s == []) = false := by simpa using n0
 have z1 : (s == [40]) = false := by simpa using n1
 have z2 : (s == [109, 105, 110]) = false := by simpa using n2
 have z3 : (s == [109, 97, 120]) = false := by simpa using n3
 have z4 : (s == [97, 98, 115]) = false := by simpa using n4
 have z5 : (s == [115, 104, 97, 114, 101]) = false := by simpa using n5
 have z6 : (s == [98, 97, 108, 97, 110, 99, 101]) = false := by simpa using n6
 have z7 : (s == [112, 97, 114, 116, 110, 101, 114]) = false := by simpa using n7
 have hk' : (L[i].kind == 2) = false := by simpa using hk
 (refine FnS.of_code mix Tryz.call160 k_160 (by simp) (fun hB => ?_); (try simp at hB); (try simp -implicitDefEqProofs [qc_160]))
 (try simp -implicitDefEqProofs)
 refine callKf hpk ?_
 (try simp -implicitDefEqProofs [gb', hlt, Tok.c, n0, n1, n2, n3, n4, n5, n6, n7, z0, z1, z2, z3, z4, z5, z6, z7, hk, hk'])
 refine callKf hn ?_
 (try simp -implicitDefEqProofs [c0, c1, c2, t0, t1, hl3, hdr, LeNs.refl, hcy])
end
end Go.Proofs.YtpggidmbnjfmaaaGreatDoor
