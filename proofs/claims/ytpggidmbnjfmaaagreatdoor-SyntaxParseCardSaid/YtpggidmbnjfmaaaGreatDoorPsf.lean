/- Chapter 32: the parser's rules and programs; Parse. -/
import Derived.Test.YtpggidmbnjfmaaaGreatDoorPse
import Derived.Test.YtpggidmbnjfmaaaGreatDoorPpm
import Derived.Test.YtpggidmbnjfmaaaGreatDoorSye
import Derived.Test.YtpggidmbnjfmaaaGreatDoorTks
set_option linter.unusedSimpArgs false
set_option linter.unusedVariables false
set_option maxHeartbeats 4000000
set_option maxRecDepth 8000
namespace Go.Proofs.YtpggidmbnjfmaaaGreatDoor
open E

theorem Ps.Ok.moreK {B : List Bx} {K K' : List Nat} (h : Ps.Ok B K) (hK : K.length ≤ K'.length) (l : List Bx) (hl : ∀ n m, K'.length ≤ m → LeBs n m l l) : Ps.Ok (B ++ l) K' := fun n m hn hm => by
 rw [List.length_append] at hn
 exact (Ps.app' (h n m (by omega) (by omega))).2 (hl n m hm)
theorem Ps.Ok.setK {B : List Bx} {K K' : List Nat} {X : Bx} (h : Ps.Ok B K) (hK : K.length ≤ K'.length) (hX : ∀ n m, leB n m X X) (b : Nat) : Ps.Ok (B.set b X) K' := fun n m hn hm => h.set hX b n m hn (by omega)
theorem needF_cons (L : List Tok) (s : List UInt8) (l : List (List UInt8)) (i : Nat) (bd : Bool) : needF L (s :: l) i bd = needF L l (needF L [s] i bd).1 (needF L [s] i bd).2 := by
 rw [needF, needF]
 split
 ·rename_i c; rw [c]; rfl
 ·split <;> rfl
inductive Sl (b : Nat) (L : List Tok) (e : Int) : Nat → List Stm → Nat → Bool → List Stm → Nat → Bool → Prop where
 | bad (ss : List Stm) (i : Nat) : Sl b L e 0 ss i true ss i true
 | stop (ss : List Stm) (i : Nat) (h : hdT (L.drop i) = sTo) : Sl b L e 0 ss i false ss i false
 | step (d : Nat) (ss : List Stm) (i : Nat) (s : Stm) (i2 : Nat) (bd2 : Bool) (ss' : List Stm) (i' : Nat) (bd' : Bool) (h1 : hdT (L.drop i) ≠ sTo) (h2 : LvV 110 [.ptr b 0] b L e i (Stm.v s) i2 bd2)
   (h : Sl b L e d (ss ++ [s]) i2 bd2 ss' i' bd') : Sl b L e (d + 1) ss i false ss' i' bd'
theorem sl_ex {b : Nat} {L : List Tok} (hL : TokL L) {e : Int} {n : Nat} : ∀ (m : Nat) (ss : List Stm) (i : Nat) (res : Rd (List Stm)), stmsO n m ss (L.drop i) = some res → i ≤ L.length →
  ∃ d ss' i' bd', Sl b L e d ss i false ss' i' bd' ∧ d ≤ m ∧ i ≤ i' ∧ i' ≤ L.length ∧ ((bd' = false ∧ res = .ok ss' (L.drop i')) ∨ (bd' = true ∧ res = .er (L.drop i')))
 | 0, ss, i, res, h, hi => by cases h
 | m + 1, ss, i, res, h, hi => by
  rw [stmsO] at h
  split at h
  ·rename_i c
   cases h
   exact ⟨0, ss, i, false, .stop ss i c, by omega, Nat.le_refl _, hi, .inl ⟨rfl, rfl⟩⟩
  rename_i c
  cases hq : stmO n (L.drop i) with
  | none => rw [hq] at h; cases h
  | some q =>
   rw [hq] at h
   obtain ⟨s, i2, bd2, r1, r2, r3, r4⟩ := stm_ex (b := b) (e := e) hL hq hi
   rcases r4 with ⟨rfl, rfl⟩ | ⟨rfl, rfl⟩
   ·obtain ⟨d, ss', i', bd', q1, q0, q2, q3, q4⟩ := sl_ex hL m _ i2 res h r2
    exact ⟨d + 1, ss', i', bd', .step d ss i s i2 false ss' i' bd' c r3 q1, by omega, by omega, q3, q4⟩
   ·cases h
    exact ⟨1, _, i2, true, .step 0 ss i s i2 true _ _ _ c r3 (.bad _ _), by omega, r1, r2, .inr ⟨rfl, rfl⟩⟩
structure SX where
 d : Nat
 ss : List Stm
 i : Nat
 bd : Bool
section
variable {b : Nat} {L : List Tok} {e : Int}
theorem rul_walk (hL : TokL L) {i i1 i2 i3 i5 i6 i7 i8 i9 : Nat} {b1 b2 b3 b5 b6 b7 b8 b9 : Bool} {nm : List UInt8} {pr : Bool} {d : Nat} {ss : List Stm} {to : Int} (hi : i ≤ L.length)
  (h1 : needF L [sRule] i false = (i1, b1))
  (h2 : (nmO L i1 b1).getD [] = nm ∧ (if (nmO L i1 b1).isSome then i1 + 1 else i1) = i2 ∧ (if (nmO L i1 b1).isSome then b1 else true) = b2)
  (h3 : needF L [sEach] i2 b2 = (i3, b3))
  (h4 : (if pk L i3 b3 = sPair then pr = true ∧ needF L [[123]] (i3 + 1) b3 = (i5, b5) else pr = false ∧ needF L [sEnt, [123]] i3 b3 = (i5, b5)))
  (h5 : Sl b L e d [] i5 b5 ss i6 b6) (hd : d ≤ 1000000000)
  (h6 : needF L [sTo] i6 b6 = (i7, b7))
  (h7 : (nuO 1 99999 L i7 b7).getD 0 = to ∧ (if (nuO 1 99999 L i7 b7).isSome then i7 + 1 else i7) = i8 ∧ (if (nuO 1 99999 L i7 b7).isSome then b7 else true) = b8)
  (h8 : needF L [[59], [125]] i8 b8 = (i9, b9)) : LvV 60 [.ptr b 0] b L e i (Rul.v ⟨nm, pr, ss, to⟩) i9 b9 := by
 intro B K hbx hok
 have hil := hL.len
 have hb : b < B.length := (List.getElem?_eq_some_iff.1 hbx).1
 have gb := gBx hbx
 have s4 := gS4 hb
 have hl3 := gHl B b L e
 have hb3 := gHb hb L e
 have gb3 := gB3 hb L e
 have s3 := gS3 hb L e
 have ok3 := gOk hok b L e
 have c0 := gC0 B b L e
 have c1 := gC1 B b L e
 have t0 := gT0 B b L e
 have t1 := gT1 B b L e
 have hdr := gDr hok b L e
 have lz : ∀ (nm : List UInt8) (pr : Bool) (to : Int) (n m : Nat), leB n m (.cells [vS nm, vB pr, .snil, vI to]) (.cells [vS nm, vB pr, .snil, vI to]) := fun _ _ _ _ _ => ⟨LeL_refl _, rfl⟩
 have lzz : ∀ (nm : List UInt8) (pr : Bool) (to : Int) (n m : Nat), LeBs n m [.cells [vS [], vB false, .snil, vI 0], .cells [vS nm, vB pr, .snil, vI to]] [.cells [vS [], vB false, .snil, vI 0], .cells [vS nm, vB pr, .snil, vI to]] := fun nm pr to n m => ⟨lz _ _ _ n m, lz _ _ _ n m, trivial⟩
 have n1 := w_need b L hil e i false [sRule] (by decide) (by simp) (B ++ [.cells [vS [], vB false, .snil, vI 0], .cells [vS [], vB false, .snil, vI 0]]) K (gb _) (hok.more _ (lzz _ _ _))
 rw [s4, h1] at n1
 have n2 := w_pname b L hL e i1 b1 (B.set b (pX L e i1 b1) ++ [.cells [vS [], vB false, .snil, vI 0], .cells [vS [], vB false, .snil, vI 0]]) K (gb3 _ _ _) ((ok3 _ _).more _ (lzz _ _ _))
 rw [h2.1, h2.2.1, h2.2.2, s3] at n2
 have n3 := w_need b L hil e i2 b2 [sEach] (by decide) (by simp) (B.set b (pX L e i2 b2) ++ [.cells [vS [], vB false, .snil, vI 0], .cells [vS nm, vB false, .snil, vI 0]]) K (gb3 _ _ _) ((ok3 _ _).more _ (lzz _ _ _))
 rw [s3, h3] at n3
 unfold sRule at n1
 unfold sEach at n3
 (refine FnS.of_codeW mix Tryz.call60 kw_60 (by simp) (fun hB => ?_); (try simp at hB); (try simp -implicitDefEqProofs [qw_60]))
 (try simp -implicitDefEqProofs)
 refine callKf n1 ?_
 (try simp -implicitDefEqProofs)
 refine callKf n2 ?_
 (try simp -implicitDefEqProofs [c1, t1, hl3])
 refine callKf n3 ?_
 (try simp -implicitDefEqProofs)
 have hz9 : ∀ n m, LeBs n m [.cells [vS [], vB false, .snil, vI 0], .cells [vS nm, vB false, .snil, vI 0]] [.cells [vS [], vB false, .snil, vI 0], .cells [vS nm, vB false, .snil, vI 0]] := lzz _ _ _
 have hset : ∀ j, B.set b (pX L e j false) = B.set b (pX L e j false) := fun _ => rfl
 by_cases hp : pk L i3 b3 = sPair
 ·rw [if_pos hp] at h4
  obtain ⟨rfl, h4⟩ := h4
  have ht := w_take1 b L hil e i3 b3 sPair hp (by decide) (B.set b (pX L e i3 b3) ++ [.cells [vS [], vB false, .snil, vI 0], .cells [vS nm, vB false, .snil, vI 0]]) K (gb3 _ _ _) ((ok3 _ _).more _ (lzz _ _ _))
  rw [s3] at ht
  have n4 := w_need b L hil e (i3 + 1) b3 [[123]] (by decide) (by simp) (B.set b (pX L e (i3 + 1) b3) ++ [.cells [vS [], vB false, .snil, vI 0], .cells [vS nm, vB true, .snil, vI 0]]) K (gb3 _ _ _) ((ok3 _ _).more _ (lzz _ _ _))
  rw [s3, h4] at n4
  unfold sPair at ht
  refine callKf ht ?_
  (try simp -implicitDefEqProofs [c1, t1, hl3])
  refine callKf n4 ?_
  (try simp -implicitDefEqProofs)
  refine loop_grow [(.cell (B.length + 1) 2, 77, 9)] (X := SX) (fun X => Sl b L e X.d X.ss X.i X.bd ss i6 b6 ∧ X.ss.length + X.d ≤ 1000000000) (fun X => [(0, .ptr b 0), (2, .ptr B.length 0), (3, .ptr (B.length + 1) 0)])
   (fun X => ⟨B.set b (pX L e X.i X.bd) ++ [.cells [vS [], vB false, .snil, vI 0], .cells [vS nm, vB true, .own K.length 77 9 (X.ss.map Stm.c), vI 0]], K ++ [X.ss.length]⟩) (fun X => X.d) ⟨d, [], i5, b5⟩ ⟨h5, by simpa using hd⟩ ?hs ?_
  case hs =>
   have q1 := fun (l l' : List Bx) (n m : Nat) (h1 : B.length ≤ n) (h2 : K.length ≤ m) => Ps.app' (l := l) (l' := l') (hok.set (leB_pX L e i5 b5) b n m (by rw [List.length_set]; exact h1) h2)
   simp [c1, t1, q1, hl3, leB, LeL_refl, LeNs.refl, okNs, okN]
   omega
  clear h5 n1 n2 n3 n4 ht
  rintro ⟨d2, s2, j, bd⟩ ⟨hsl, hdl⟩ hbd
  simp only [] at hsl hdl
  clear hbd
  have lown : ∀ (x : List Stm) (n m : Nat), K.length + 1 ≤ m → leB n m (.cells [vS nm, vB true, .own K.length 77 9 (x.map Stm.c), vI 0]) (.cells [vS nm, vB true, .own K.length 77 9 (x.map Stm.c), vI 0]) := fun x n m hm => ⟨LeL_refl _, by simp [okNs, okN]; omega⟩
  have ok4 : ∀ (x : List Stm) (n : Nat), Ps.Ok (B.set b (pX L e j bd) ++ [.cells [vS [], vB false, .snil, vI 0], .cells [vS nm, vB true, .own K.length 77 9 (x.map Stm.c), vI 0]]) (K ++ [n]) := fun x n => (ok3 j bd).moreK (by simp) _ (fun n m hm => ⟨lz _ _ _ n m, lown x n m (by simpa using hm), trivial⟩)
  have gx : ∀ q l, (B.set b (pX L e j q) ++ l)[b]? = some (.cells [Tok.l L, vI e, vI j, vB q]) := fun q l => gb3 j q l
  have tg : ∀ (a : Nat), (K ++ [a])[K.length]? = some a := fun a => by simp
  have ts : ∀ (a c : Nat), (K ++ [a]).set K.length c = K ++ [c] := fun a c => by simp
  have lnK : ∀ l : List Nat, LeNs (K ++ l) K := fun l => by
   have : ∀ (M : List Nat), LeNs (M ++ l) M := fun M => by
    induction M with
    | nil => cases l <;> trivial
    | cons x M ih => exact ⟨rfl, ih⟩
   exact this K
  cases hsl with
  | bad =>
   (try simp -implicitDefEqProofs [gx])
   have m7 := w_need b L hil e i6 true [sTo] (by decide) (by simp) (B.set b (pX L e i6 true) ++ [.cells [vS [], vB false, .snil, vI 0], .cells [vS nm, vB true, .own K.length 77 9 (ss.map Stm.c), vI 0]]) (K ++ [ss.length]) (gb3 _ _ _) (ok4 _ _)
   rw [s3, h6] at m7
   have okm : ∀ j q to, Ps.Ok (B.set b (pX L e j q) ++ [.cells [vS [], vB false, .snil, vI 0], .cells [vS nm, vB true, .own K.length 77 9 (ss.map Stm.c), vI to]]) (K ++ [ss.length]) := fun j q to => (ok3 j q).moreK (by simp) _ (fun n m hm => ⟨lz _ _ _ n m, ⟨LeL_refl _, by simp at hm; simp [okNs, okN]; omega⟩, trivial⟩)
   have m8 := w_paccount b L hL e i7 b7 (B.set b (pX L e i7 b7) ++ [.cells [vS [], vB false, .snil, vI 0], .cells [vS nm, vB true, .own K.length 77 9 (ss.map Stm.c), vI 0]]) (K ++ [ss.length]) (gb3 _ _ _) (okm _ _ _)
   rw [h7.1, h7.2.1, h7.2.2, s3] at m8
   have m9 := w_need b L hil e i8 b8 [[59], [125]] (by decide) (by simp) (B.set b (pX L e i8 b8) ++ [.cells [vS [], vB false, .snil, vI 0], .cells [vS nm, vB true, .own K.length 77 9 (ss.map Stm.c), vI to]]) (K ++ [ss.length]) (gb3 _ _ _) (okm _ _ _)
   rw [s3, h8] at m9
   unfold sTo at m7
   refine callKf m7 ?_
   (try simp -implicitDefEqProofs)
   refine callKf m8 ?_
   (try simp -implicitDefEqProofs [c1, t1, hl3])
   refine callKf m9 ?_
   (try simp -implicitDefEqProofs [c0, c1, t0, t1, hl3, hdr, lnK, Rul.c])

  | stop _ _ hstop =>
   have hpk := w_peek b L e i6 false (B.set b (pX L e i6 false) ++ [.cells [vS [], vB false, .snil, vI 0], .cells [vS nm, vB true, .own K.length 77 9 (ss.map Stm.c), vI 0]]) (K ++ [ss.length]) (gb3 _ _ _) (ok4 _ _)
   rw [pk_hd, hstop] at hpk
   unfold sTo at hpk
   (try simp -implicitDefEqProofs [gx])
   refine callKf hpk ?_
   (try simp -implicitDefEqProofs)
   have m7 := w_need b L hil e i6 false [sTo] (by decide) (by simp) (B.set b (pX L e i6 false) ++ [.cells [vS [], vB false, .snil, vI 0], .cells [vS nm, vB true, .own K.length 77 9 (ss.map Stm.c), vI 0]]) (K ++ [ss.length]) (gb3 _ _ _) (ok4 _ _)
   rw [s3, h6] at m7
   have okm : ∀ j q to, Ps.Ok (B.set b (pX L e j q) ++ [.cells [vS [], vB false, .snil, vI 0], .cells [vS nm, vB true, .own K.length 77 9 (ss.map Stm.c), vI to]]) (K ++ [ss.length]) := fun j q to => (ok3 j q).moreK (by simp) _ (fun n m hm => ⟨lz _ _ _ n m, ⟨LeL_refl _, by simp at hm; simp [okNs, okN]; omega⟩, trivial⟩)
   have m8 := w_paccount b L hL e i7 b7 (B.set b (pX L e i7 b7) ++ [.cells [vS [], vB false, .snil, vI 0], .cells [vS nm, vB true, .own K.length 77 9 (ss.map Stm.c), vI 0]]) (K ++ [ss.length]) (gb3 _ _ _) (okm _ _ _)
   rw [h7.1, h7.2.1, h7.2.2, s3] at m8
   have m9 := w_need b L hil e i8 b8 [[59], [125]] (by decide) (by simp) (B.set b (pX L e i8 b8) ++ [.cells [vS [], vB false, .snil, vI 0], .cells [vS nm, vB true, .own K.length 77 9 (ss.map Stm.c), vI to]]) (K ++ [ss.length]) (gb3 _ _ _) (okm _ _ _)
   rw [s3, h8] at m9
   unfold sTo at m7
   refine callKf m7 ?_
   (try simp -implicitDefEqProofs)
   refine callKf m8 ?_
   (try simp -implicitDefEqProofs [c1, t1, hl3])
   refine callKf m9 ?_
   (try simp -implicitDefEqProofs [c0, c1, t0, t1, hl3, hdr, lnK, Rul.c])

  | step d3 _ _ s j2 bd2 _ _ _ g1 g2 g3 =>
   have hpk := w_peek b L e j false (B.set b (pX L e j false) ++ [.cells [vS [], vB false, .snil, vI 0], .cells [vS nm, vB true, .own K.length 77 9 (s2.map Stm.c), vI 0]]) (K ++ [s2.length]) (gb3 _ _ _) (ok4 _ _)
   rw [pk_hd] at hpk
   have hst := g2 (B.set b (pX L e j false) ++ [.cells [vS [], vB false, .snil, vI 0], .cells [vS nm, vB true, .own K.length 77 9 (s2.map Stm.c), vI 0]]) (K ++ [s2.length]) (gb3 _ _ _) (ok4 _ _)
   rw [s3] at hst
   unfold sTo at g1
   generalize hdT (L.drop j) = tx at *
   have g1' : (tx == [116, 111]) = false := by simpa using g1
   have g1'' : (tx != [116, 111]) = true := by simpa using g1
   have hsl := len_sc s
   have htk := take_sc s
   (try simp -implicitDefEqProofs [gx])
   refine callKf hpk ?_
   (try simp -implicitDefEqProofs [gx, g1, g1', g1'', c1, hl3])
   all_goals (repeat' with_reducible apply And.intro)
   all_goals
    refine callKf hst ?_
    (try simp -implicitDefEqProofs [c1, t1, tg, ts, hl3, hsl, htk])
    refine ⟨⟨by unfold maxLen; omega, by omega⟩, ⟨d3, s2 ++ [s], j2, bd2⟩, ⟨g3, by simp only [List.length_append, List.length_singleton]; omega⟩, Nat.lt_succ_self d3, ⟨(Ps.app' (hok.set (leB_pX L e j2 bd2) b _ _ (by rw [List.length_set]; omega) (by omega))).2 ⟨lz _ _ _ _ _, ?_, trivial⟩, ?_⟩, by omega⟩
    ·have := lown (s2 ++ [s]) (B.length + 2) (K.length + 1) (Nat.le_refl _)
     rw [List.map_append] at this
     first | (simp; done) | simpa using this
    ·simp only [List.length_append, List.length_singleton]; exact LeNs.refl _
 ·rw [if_neg hp] at h4
  obtain ⟨rfl, h4⟩ := h4
  rw [needF_cons] at h4
  generalize hE : needF L [sEnt] i3 b3 = st4 at *
  obtain ⟨i4, b4⟩ := st4
  have ht := w_take0 b L e i3 b3 sPair hp (B.set b (pX L e i3 b3) ++ [.cells [vS [], vB false, .snil, vI 0], .cells [vS nm, vB false, .snil, vI 0]]) K (gb3 _ _ _) ((ok3 _ _).more _ (lzz _ _ _))
  have n0 := w_need b L hil e i3 b3 [sEnt] (by decide) (by simp) (B.set b (pX L e i3 b3) ++ [.cells [vS [], vB false, .snil, vI 0], .cells [vS nm, vB false, .snil, vI 0]]) K (gb3 _ _ _) ((ok3 _ _).more _ (lzz _ _ _))
  rw [s3, hE] at n0
  have n4 := w_need b L hil e i4 b4 [[123]] (by decide) (by simp) (B.set b (pX L e i4 b4) ++ [.cells [vS [], vB false, .snil, vI 0], .cells [vS nm, vB false, .snil, vI 0]]) K (gb3 _ _ _) ((ok3 _ _).more _ (lzz _ _ _))
  rw [s3, h4] at n4
  unfold sPair at ht
  unfold sEnt at n0
  refine callKf ht ?_
  (try simp -implicitDefEqProofs [c1, t1, hl3])
  refine callKf n0 ?_
  (try simp -implicitDefEqProofs)
  refine callKf n4 ?_
  (try simp -implicitDefEqProofs)
  refine loop_grow [(.cell (B.length + 1) 2, 77, 9)] (X := SX) (fun X => Sl b L e X.d X.ss X.i X.bd ss i6 b6 ∧ X.ss.length + X.d ≤ 1000000000) (fun X => [(0, .ptr b 0), (2, .ptr B.length 0), (3, .ptr (B.length + 1) 0)])
   (fun X => ⟨B.set b (pX L e X.i X.bd) ++ [.cells [vS [], vB false, .snil, vI 0], .cells [vS nm, vB false, .own K.length 77 9 (X.ss.map Stm.c), vI 0]], K ++ [X.ss.length]⟩) (fun X => X.d) ⟨d, [], i5, b5⟩ ⟨h5, by simpa using hd⟩ ?hs ?_
  case hs =>
   have q1 := fun (l l' : List Bx) (n m : Nat) (h1 : B.length ≤ n) (h2 : K.length ≤ m) => Ps.app' (l := l) (l' := l') (hok.set (leB_pX L e i5 b5) b n m (by rw [List.length_set]; exact h1) h2)
   simp [c1, t1, q1, hl3, leB, LeL_refl, LeNs.refl, okNs, okN]
   omega
  clear h5 n1 n2 n3 n4 ht
  rintro ⟨d2, s2, j, bd⟩ ⟨hsl, hdl⟩ hbd
  simp only [] at hsl hdl
  clear hbd
  have lown : ∀ (x : List Stm) (n m : Nat), K.length + 1 ≤ m → leB n m (.cells [vS nm, vB false, .own K.length 77 9 (x.map Stm.c), vI 0]) (.cells [vS nm, vB false, .own K.length 77 9 (x.map Stm.c), vI 0]) := fun x n m hm => ⟨LeL_refl _, by simp [okNs, okN]; omega⟩
  have ok4 : ∀ (x : List Stm) (n : Nat), Ps.Ok (B.set b (pX L e j bd) ++ [.cells [vS [], vB false, .snil, vI 0], .cells [vS nm, vB false, .own K.length 77 9 (x.map Stm.c), vI 0]]) (K ++ [n]) := fun x n => (ok3 j bd).moreK (by simp) _ (fun n m hm => ⟨lz _ _ _ n m, lown x n m (by simpa using hm), trivial⟩)
  have gx : ∀ q l, (B.set b (pX L e j q) ++ l)[b]? = some (.cells [Tok.l L, vI e, vI j, vB q]) := fun q l => gb3 j q l
  have tg : ∀ (a : Nat), (K ++ [a])[K.length]? = some a := fun a => by simp
  have ts : ∀ (a c : Nat), (K ++ [a]).set K.length c = K ++ [c] := fun a c => by simp
  have lnK : ∀ l : List Nat, LeNs (K ++ l) K := fun l => by
   have : ∀ (M : List Nat), LeNs (M ++ l) M := fun M => by
    induction M with
    | nil => cases l <;> trivial
    | cons x M ih => exact ⟨rfl, ih⟩
   exact this K
  cases hsl with
  | bad =>
   (try simp -implicitDefEqProofs [gx])
   have m7 := w_need b L hil e i6 true [sTo] (by decide) (by simp) (B.set b (pX L e i6 true) ++ [.cells [vS [], vB false, .snil, vI 0], .cells [vS nm, vB false, .own K.length 77 9 (ss.map Stm.c), vI 0]]) (K ++ [ss.length]) (gb3 _ _ _) (ok4 _ _)
   rw [s3, h6] at m7
   have okm : ∀ j q to, Ps.Ok (B.set b (pX L e j q) ++ [.cells [vS [], vB false, .snil, vI 0], .cells [vS nm, vB false, .own K.length 77 9 (ss.map Stm.c), vI to]]) (K ++ [ss.length]) := fun j q to => (ok3 j q).moreK (by simp) _ (fun n m hm => ⟨lz _ _ _ n m, ⟨LeL_refl _, by simp at hm; simp [okNs, okN]; omega⟩, trivial⟩)
   have m8 := w_paccount b L hL e i7 b7 (B.set b (pX L e i7 b7) ++ [.cells [vS [], vB false, .snil, vI 0], .cells [vS nm, vB false, .own K.length 77 9 (ss.map Stm.c), vI 0]]) (K ++ [ss.length]) (gb3 _ _ _) (okm _ _ _)
   rw [h7.1, h7.2.1, h7.2.2, s3] at m8
   have m9 := w_need b L hil e i8 b8 [[59], [125]] (by decide) (by simp) (B.set b (pX L e i8 b8) ++ [.cells [vS [], vB false, .snil, vI 0], .cells [vS nm, vB false, .own K.length 77 9 (ss.map Stm.c), vI to]]) (K ++ [ss.length]) (gb3 _ _ _) (okm _ _ _)
   rw [s3, h8] at m9
   unfold sTo at m7
   refine callKf m7 ?_
   (try simp -implicitDefEqProofs)
   refine callKf m8 ?_
   (try simp -implicitDefEqProofs [c1, t1, hl3])
   refine callKf m9 ?_
   (try simp -implicitDefEqProofs [c0, c1, t0, t1, hl3, hdr, lnK, Rul.c])

  | stop _ _ hstop =>
   have hpk := w_peek b L e i6 false (B.set b (pX L e i6 false) ++ [.cells [vS [], vB false, .snil, vI 0], .cells [vS nm, vB false, .own K.length 77 9 (ss.map Stm.c), vI 0]]) (K ++ [ss.length]) (gb3 _ _ _) (ok4 _ _)
   rw [pk_hd, hstop] at hpk
   unfold sTo at hpk
   (try simp -implicitDefEqProofs [gx])
   refine callKf hpk ?_
   (try simp -implicitDefEqProofs)
   have m7 := w_need b L hil e i6 false [sTo] (by decide) (by simp) (B.set b (pX L e i6 false) ++ [.cells [vS [], vB false, .snil, vI 0], .cells [vS nm, vB false, .own K.length 77 9 (ss.map Stm.c), vI 0]]) (K ++ [ss.length]) (gb3 _ _ _) (ok4 _ _)
   rw [s3, h6] at m7
   have okm : ∀ j q to, Ps.Ok (B.set b (pX L e j q) ++ [.cells [vS [], vB false, .snil, vI 0], .cells [vS nm, vB false, .own K.length 77 9 (ss.map Stm.c), vI to]]) (K ++ [ss.length]) := fun j q to => (ok3 j q).moreK (by simp) _ (fun n m hm => ⟨lz _ _ _ n m, ⟨LeL_refl _, by simp at hm; simp [okNs, okN]; omega⟩, trivial⟩)
   have m8 := w_paccount b L hL e i7 b7 (B.set b (pX L e i7 b7) ++ [.cells [vS [], vB false, .snil, vI 0], .cells [vS nm, vB false, .own K.length 77 9 (ss.map Stm.c), vI 0]]) (K ++ [ss.length]) (gb3 _ _ _) (okm _ _ _)
   rw [h7.1, h7.2.1, h7.2.2, s3] at m8
   have m9 := w_need b L hil e i8 b8 [[59], [125]] (by decide) (by simp) (B.set b (pX L e i8 b8) ++ [.cells [vS [], vB false, .snil, vI 0], .cells [vS nm, vB false, .own K.length 77 9 (ss.map Stm.c), vI to]]) (K ++ [ss.length]) (gb3 _ _ _) (okm _ _ _)
   rw [s3, h8] at m9
   unfold sTo at m7
   refine callKf m7 ?_
   (try simp -implicitDefEqProofs)
   refine callKf m8 ?_
   (try simp -implicitDefEqProofs [c1, t1, hl3])
   refine callKf m9 ?_
   (try simp -implicitDefEqProofs [c0, c1, t0, t1, hl3, hdr, lnK, Rul.c])

  | step d3 _ _ s j2 bd2 _ _ _ g1 g2 g3 =>
   have hpk := w_peek b L e j false (B.set b (pX L e j false) ++ [.cells [vS [], vB false, .snil, vI 0], .cells [vS nm, vB false, .own K.length 77 9 (s2.map Stm.c), vI 0]]) (K ++ [s2.length]) (gb3 _ _ _) (ok4 _ _)
   rw [pk_hd] at hpk
   have hst := g2 (B.set b (pX L e j false) ++ [.cells [vS [], vB false, .snil, vI 0], .cells [vS nm, vB false, .own K.length 77 9 (s2.map Stm.c), vI 0]]) (K ++ [s2.length]) (gb3 _ _ _) (ok4 _ _)
   rw [s3] at hst
   unfold sTo at g1
   generalize hdT (L.drop j) = tx at *
   have g1' : (tx == [116, 111]) = false := by simpa using g1
   have g1'' : (tx != [116, 111]) = true := by simpa using g1
   have hsl := len_sc s
   have htk := take_sc s
   (try simp -implicitDefEqProofs [gx])
   refine callKf hpk ?_
   (try simp -implicitDefEqProofs [gx, g1, g1', g1'', c1, hl3])
   all_goals (repeat' with_reducible apply And.intro)
   all_goals
    refine callKf hst ?_
    (try simp -implicitDefEqProofs [c1, t1, tg, ts, hl3, hsl, htk])
    refine ⟨⟨by unfold maxLen; omega, by omega⟩, ⟨d3, s2 ++ [s], j2, bd2⟩, ⟨g3, by simp only [List.length_append, List.length_singleton]; omega⟩, Nat.lt_succ_self d3, ⟨(Ps.app' (hok.set (leB_pX L e j2 bd2) b _ _ (by rw [List.length_set]; omega) (by omega))).2 ⟨lz _ _ _ _ _, ?_, trivial⟩, ?_⟩, by omega⟩
    ·have := lown (s2 ++ [s]) (B.length + 2) (K.length + 1) (Nat.le_refl _)
     rw [List.map_append] at this
     first | (simp; done) | simpa using this
    ·simp only [List.length_append, List.length_singleton]; exact LeNs.refl _
end
section
variable {β : Type} {b : Nat} {L : List Tok} {e : Int} {res : Rd β}
theorem Dd.pair {i : Nat} {bd : Bool} {E : Bool → List Tok → Option (Rd β)} (h : Dd L i bd (fun r => bndO (pairO r) fun pr r => bndO (some (wantT [123] r)) fun _ r => E pr r) res) :
  ∃ pr i' b', (if pk L i bd = sPair then pr = true ∧ needF L [[123]] (i + 1) bd = (i', b') else pr = false ∧ needF L [sEnt, [123]] i bd = (i', b')) ∧ i ≤ i' ∧ Dd L i' b' (E pr) res := by
 by_cases hp : pk L i bd = sPair
 ·obtain ⟨rfl, hlt⟩ := pk_lt (by rw [hp]; decide)
  have d : Dd L (i + 1) false (fun r => bndO (some (wantT [123] r)) fun _ r => E true r) res := by
   obtain ⟨hi, h | h⟩ := h
   ·obtain ⟨_, h⟩ := h
    refine ⟨by omega, .inl ⟨rfl, ?_⟩⟩
    replace h : (bndO (pairO (L.drop i)) fun pr r => bndO (some (wantT [123] r)) fun _ r => E pr r) = some res := h
    unfold pairO at h
    rw [if_pos (show hdT (L.drop i) = sPair from hp), List.tail_drop] at h
    exact h
   ·cases h.1
  obtain ⟨i', b', q1, q2, q3⟩ := d.want (by decide)
  exact ⟨true, i', b', by rw [if_pos hp]; exact ⟨rfl, q1⟩, by omega, q3⟩
 ·have d : Dd L i bd (fun r => bndO (some (wantT sEnt r)) fun _ r => bndO (some (wantT [123] r)) fun _ r => E false r) res := by
   obtain ⟨hi, h | h⟩ := h
   ·obtain ⟨rfl, h⟩ := h
    refine ⟨hi, .inl ⟨rfl, ?_⟩⟩
    replace h : (bndO (pairO (L.drop i)) fun pr r => bndO (some (wantT [123] r)) fun _ r => E pr r) = some res := h
    unfold pairO at h
    rw [if_neg (show ¬ hdT (L.drop i) = sPair from hp), bndO_assoc] at h
    exact h
   ·exact ⟨hi, .inr h⟩
  obtain ⟨i1, b1, q1, q2, q3⟩ := d.want (by decide)
  obtain ⟨i', b', r1, r2, r3⟩ := q3.want (by decide)
  exact ⟨false, i', b', by rw [if_neg hp, needF_cons, q1]; exact ⟨rfl, r1⟩, by omega, r3⟩
theorem Dd.stms (hL : TokL L) {n : Nat} {i : Nat} {bd : Bool} {E : List Stm → List Tok → Option (Rd β)} (h : Dd L i bd (fun r => bndO (stmsO n n [] r) fun ss r => E ss r) res) :
  ∃ d ss i' b', Sl b L e d [] i bd ss i' b' ∧ d ≤ n ∧ i ≤ i' ∧ Dd L i' b' (E ss) res := by
 obtain ⟨hi, h | h⟩ := h
 ·obtain ⟨rfl, h⟩ := h
  replace h : (bndO (stmsO n n [] (L.drop i)) fun ss r => E ss r) = some res := h
  cases hq : stmsO n n [] (L.drop i) with
  | none => rw [hq] at h; cases h
  | some q =>
   rw [hq] at h
   obtain ⟨d, ss, i', bd', q1, q0, q2, q3, q4⟩ := sl_ex (b := b) (e := e) hL n [] i q hq hi
   refine ⟨d, ss, i', bd', q1, q0, q2, q3, ?_⟩
   rcases q4 with ⟨rfl, rfl⟩ | ⟨rfl, rfl⟩
   ·exact .inl ⟨rfl, h⟩
   ·exact .inr ⟨rfl, (Option.some.inj h).symm⟩
 ·obtain ⟨rfl, h⟩ := h
  exact ⟨0, [], i, true, .bad _ _, Nat.zero_le _, Nat.le_refl _, hi, .inr ⟨rfl, h⟩⟩
theorem rul_ex (hL : TokL L) {n i : Nat} (hn : n ≤ 1000000000) {res : Rd Rul} (h : rulO n (L.drop i) = some res) (hi : i ≤ L.length) : ∃ r i' bd, i ≤ i' ∧ i' ≤ L.length ∧ LvV 60 [.ptr b 0] b L e i (Rul.v r) i' bd ∧ ((bd = false ∧ res = .ok r (L.drop i')) ∨ (bd = true ∧ res = .er (L.drop i'))) := by
 unfold rulO rulF at h
 simp only [bndO_assoc] at h
 have d0 : Dd L i false (fun r => bndO (some (wantT sRule r)) fun _ r => bndO (some (nameT r)) fun nm r => bndO (some (wantT sEach r)) fun _ r => bndO (pairO r) fun pr r => bndO (some (wantT [123] r)) fun _ r => bndO (stmsO n n [] r) fun ss r => bndO (some (wantT sTo r)) fun _ r => bndO (some (numT 1 99999 r)) fun a r => bndO (some (wantT [59] r)) fun _ r => bndO (some (wantT [125] r)) fun _ r => some (.ok (⟨nm, pr, ss, a⟩ : Rul) r)) res := ⟨hi, .inl ⟨rfl, h⟩⟩
 obtain ⟨i1, b1, h1, o1, d1⟩ := d0.want (by decide)
 obtain ⟨nm, i2, b2, h2, o2, d2⟩ := d1.name
 obtain ⟨i3, b3, h3, o3, d3⟩ := d2.want (by decide)
 obtain ⟨pr, i5, b5, h4, o4, d4⟩ := d3.pair
 obtain ⟨d, ss, i6, b6, h5, hd, o5, d5⟩ := d4.stms (b := b) (e := e) hL
 obtain ⟨i7, b7, h6, o6, d6⟩ := d5.want (by decide)
 obtain ⟨to, i8, b8, h7, o7, d7⟩ := d6.num
 obtain ⟨i9, b9, h8, o8, d8⟩ := d7.want (by decide)
 obtain ⟨i10, b10, h9, o9, d9⟩ := d8.want (by decide)
 exact ⟨_, i10, b10, by omega, d9.fin.1, rul_walk hL hi h1 h2 h3 h4 h5 (by omega) h6 h7 (by rw [needF_cons, h8]; exact h9), d9.fin.2⟩
end
inductive Rl (b : Nat) (L : List Tok) (e : Int) : Nat → List Rul → Nat → Bool → List Rul → Nat → Bool → Prop where
 | bad (ss : List Rul) (i : Nat) : Rl b L e 0 ss i true ss i true
 | stop (ss : List Rul) (i : Nat) (h : L.length ≤ i) : Rl b L e 0 ss i false ss i false
 | step (d : Nat) (ss : List Rul) (i : Nat) (s : Rul) (i2 : Nat) (bd2 : Bool) (ss' : List Rul) (i' : Nat) (bd' : Bool) (h1 : i < L.length) (h2 : LvV 60 [.ptr b 0] b L e i (Rul.v s) i2 bd2)
   (h : Rl b L e d (ss ++ [s]) i2 bd2 ss' i' bd') : Rl b L e (d + 1) ss i false ss' i' bd'
theorem rl_ex {b : Nat} {L : List Tok} (hL : TokL L) {e : Int} {n : Nat} (hn : n ≤ 1000000000) : ∀ (m : Nat) (ss : List Rul) (i : Nat) (res : Rd (List Rul)), prgO n m ss (L.drop i) = some res → i ≤ L.length →
  ∃ d ss' i' bd', Rl b L e d ss i false ss' i' bd' ∧ d ≤ m ∧ i' ≤ L.length ∧ ((bd' = false ∧ res = .ok ss' (L.drop i')) ∨ (bd' = true ∧ res = .er (L.drop i')))
 | 0, ss, i, res, h, hi => by cases h
 | m + 1, ss, i, res, h, hi => by
  rw [prgO] at h
  split at h
  ·rename_i c
   cases h
   have : L.length ≤ i := by
    rcases Nat.lt_or_ge i L.length with q | q
    ·rw [drop_at q] at c; cases c
    ·exact q
   exact ⟨0, ss, i, false, .stop ss i this, by omega, hi, .inl ⟨rfl, rfl⟩⟩
  rename_i c
  have hlt : i < L.length := by
   rcases Nat.lt_or_ge i L.length with q | q
   ·exact q
   ·exact absurd (List.drop_eq_nil_of_le q) c
  cases hq : rulO n (L.drop i) with
  | none => rw [hq] at h; cases h
  | some q =>
   rw [hq] at h
   obtain ⟨s, i2, bd2, r1, r2, r3, r4⟩ := rul_ex (b := b) (e := e) hL hn hq hi
   rcases r4 with ⟨rfl, rfl⟩ | ⟨rfl, rfl⟩
   ·obtain ⟨d, ss', i', bd', q1, q0, q3, q4⟩ := rl_ex hL hn m _ i2 res h r2
    exact ⟨d + 1, ss', i', bd', .step d ss i s i2 false ss' i' bd' hlt r3 q1, by omega, q3, q4⟩
   ·cases h
    exact ⟨1, _, i2, true, .step 0 ss i s i2 true _ _ _ hlt r3 (.bad _ _), by omega, r2, .inr ⟨rfl, rfl⟩⟩
structure RX where
 d : Nat
 ss : List Rul
 i : Nat
 bd : Bool
theorem prg_walk {b : Nat} {L : List Tok} {e : Int} (hL : TokL L) {d i : Nat} {ss : List Rul} {i6 : Nat} {b6 : Bool} (h5 : Rl b L e d [] i false ss i6 b6) (hd : d ≤ 1000000000) : LvV 27 [.ptr b 0] b L e i (Rul.l ss) i6 b6 := by
 intro B K hbx hok
 have hil := hL.len
 have hb : b < B.length := (List.getElem?_eq_some_iff.1 hbx).1
 have hl3 := gHl B b L e
 have hb3 := gHb hb L e
 have gb3 : ∀ j q, (B.set b (pX L e j q))[b]? = some (pX L e j q) := fun j q => by simp [hb]
 have s3 : ∀ j q v, (B.set b (pX L e j q)).set b v = B.set b v := fun j q v => List.set_set _
 have hs0 : B = B.set b (pX L e i false) := (set_same hbx).symm
 have hfn := fun (j : Nat) (q : Bool) => hok.fin (leB_pX L e j q) b
 (refine FnS.of_code mix Tryz.call27 k_27 (by simp) (fun hB => ?_); (try simp at hB); (try simp -implicitDefEqProofs [qc_27]))
 (try simp -implicitDefEqProofs)
 refine loop_grow [(.slot 3, 62, 4)] (X := RX) (fun X => Rl b L e X.d X.ss X.i X.bd ss i6 b6 ∧ X.ss.length + X.d ≤ 1000000000) (fun X => [(0, .ptr b 0), (3, .own K.length 62 4 (X.ss.map Rul.c))])
  (fun X => ⟨B.set b (pX L e X.i X.bd), K ++ [X.ss.length]⟩) (fun X => X.d) ⟨d, [], i, false⟩ ⟨h5, by simpa using hd⟩ ?hs ?_
 case hs =>
  have q1 := hok _ _ (Nat.le_refl _) (Nat.le_succ K.length)
  simp [← hs0, q1, LeNs.refl, hb]
 clear h5
 rintro ⟨d2, s2, j, bd⟩ ⟨hsl, hdl⟩ hbd
 simp only [] at hsl hdl
 clear hbd
 have ok4 : ∀ (n : Nat), Ps.Ok (B.set b (pX L e j bd)) (K ++ [n]) := fun n => hok.setK (by simp) (leB_pX L e j bd) b
 have gx : ∀ q, (B.set b (pX L e j q))[b]? = some (.cells [Tok.l L, vI e, vI j, vB q]) := fun q => gb3 j q
 have tg : ∀ (a : Nat), (K ++ [a])[K.length]? = some a := fun a => by simp
 have ts : ∀ (a c : Nat), (K ++ [a]).set K.length c = K ++ [c] := fun a c => by simp
 have lnK : ∀ l : List Nat, LeNs (K ++ l) K := fun l => by
  have : ∀ (M : List Nat), LeNs (M ++ l) M := fun M => by
   induction M with
   | nil => cases l <;> trivial
   | cons x M ih => exact ⟨rfl, ih⟩
  exact this K
 generalize hB1 : B.set b (pX L e j bd) = B1 at *
 cases hsl with
 | bad =>
  have g1 := gx true
  rw [hB1] at g1
  (try simp -implicitDefEqProofs [g1])
  exact ⟨by rw [← hB1]; exact hfn _ _, lnK _⟩
 | stop _ _ hstop =>
  have g1 := gx false
  rw [hB1] at g1
  have h1 : decide ((i6 : Int) < L.length) = false := by simp; omega
  have h1' : ¬ (i6 : Int) < L.length := by omega
  (try simp -implicitDefEqProofs [g1, h1, h1', hstop])
  exact ⟨by rw [← hB1]; exact hfn _ _, lnK _⟩
 | step d3 _ _ s j2 bd2 _ _ _ q1 q2 q3 =>
  have g1 := gx false
  rw [hB1] at g1
  have hst := q2 B1 (K ++ [s2.length]) (by rw [← hB1]; exact gb3 _ _) (ok4 _)
  rw [← hB1, s3, hB1] at hst
  have hsl := len_rc s
  have htk := take_rc s
  have h1 : decide ((j : Int) < L.length) = true := by simp; omega
  have h1' : (j : Int) < L.length := by omega
  (try simp -implicitDefEqProofs [g1, h1, h1', q1])
  refine callKf hst ?_
  (try simp -implicitDefEqProofs [tg, ts, hl3, hsl, htk])
  refine ⟨⟨by unfold maxLen; omega, by omega⟩, ⟨d3, s2 ++ [s], j2, bd2⟩, ⟨q3, by simp only [List.length_append, List.length_singleton]; omega⟩, Nat.lt_succ_self d3, ⟨hok.set (leB_pX L e j2 bd2) b _ _ (Nat.le_of_eq List.length_set) (by omega), ?_⟩, hb, ?_⟩
  ·simp only [List.length_append, List.length_singleton]; exact LeNs.refl _
  ·rw [List.map_append]; exact leA.refl _
theorem tokL_of {s : List UInt8} (h : (tokensR s).2.2 = 0) : TokL (tokensR s).1 ∧ (tokensR s).1.length ≤ 8000 := by
 obtain ⟨h8, hl⟩ := tokens_lex h
 obtain ⟨a, b⟩ := lex_len hl
 exact ⟨⟨by omega, fun t ht => (b t ht).1, fun t ht => by have := (b t ht).2; omega⟩, by omega⟩
theorem placeE_T (n : Nat) (ts : List Tok) : placeE n ts = placeT n ts := by cases ts <;> rfl
theorem w_Parse (s : List UInt8) : Pure Tryz.prog 13 [vS s] (.tup [Rul.l (parseR s).1, vI (parseR s).2.1, vI (parseR s).2.2]) := by
 have htk := w_Tokens s
 unfold parseR
 by_cases h0 : (tokensR s).2.2 = 0
 case neg =>
  rw [if_neg h0]
  generalize tokensR s = q at *
  have h1 : (q.2.2 == 0) = false := by simpa using h0
  have h2 : (q.2.2 != 0) = true := by simpa using h0
  (refine Pure.of_code mix Tryz.call13 k_13 (by simp) (fun hB => ?_); (try simp at hB); (try simp -implicitDefEqProofs [qc_13]))
  ((try simp at htk); (try simp -implicitDefEqProofs [h0, h1, h2]); repeat' first | (with_reducible apply callK_pure <;> first | (simp only [eras, era, eras_map]; first | with_reducible exact htk | simpa using htk) | (simp -implicitDefEqProofs [h0, h1, h2])))
  all_goals exact .inl (.inr (.inr ⟨_, rfl, rfl⟩))
 rw [if_pos h0]
 obtain ⟨hL, h8⟩ := tokL_of h0
 rw [h0] at htk
 generalize (tokensR s).1 = L at *
 generalize (tokensR s).2.1 = pl at *
 have hsp := prgT_spec L
 have hmn := fun p r h => prgT_min (ts := L) (p := p) (r := r) h
 unfold parsT
 generalize prgT L = res at *
 have hfu : fuelP L ≤ 1000000000 := by unfold fuelP; omega
 obtain ⟨d, ss, i', bd', q1, q2, q3, q4⟩ := rl_ex (b := 0) (e := (s.length : Int)) hL hfu (fuelP L) [] 0 res (by simpa using hsp) (Nat.zero_le _)
 have hpw := prg_walk hL q1 (by omega) [pX L s.length 0 false] [] rfl (fun n m _ _ => ⟨leB_pX _ _ _ _ n m, trivial⟩)
 simp only [List.set_cons_zero] at hpw
 have hpx : ∀ q, pX L s.length 0 q = .cells [Tok.l L, vI s.length, vI 0, vB q] := fun q => rfl
 rw [hpx] at hpw
 rcases q4 with ⟨rfl, rfl⟩ | ⟨rfl, rfl⟩
 ·obtain ⟨m1, m2, m3⟩ := hmn ss _ rfl
  have hv := w_Valid ss (fun r hr s hs => by have := (m3 r hr).1 s hs; omega)
  simp only []
  cases hb : prgB ss
  ·rw [hb] at hv
   rw [if_neg (by decide)]
   (refine Pure.of_code mix Tryz.call13 k_13 (by simp) (fun hB => ?_); (try simp at hB); (try simp -implicitDefEqProofs [qc_13]))
   ((try simp at htk); (try simp -implicitDefEqProofs); repeat' first | (with_reducible apply callK_pure <;> first | (simp only [eras, era, eras_map]; first | with_reducible exact htk | simpa using htk) | (simp -implicitDefEqProofs)))
   refine callKf hpw ?_
   ((try simp at hv); (try simp -implicitDefEqProofs [pX]); repeat' first | (with_reducible apply callK_pure <;> first | (simp only [eras, era, eras_map]; first | with_reducible exact hv | simpa using hv) | (simp -implicitDefEqProofs [pX])))
   all_goals exact .inl (.inr (.inr ⟨_, rfl, rfl⟩))
  ·rw [hb] at hv
   rw [if_pos rfl]
   (refine Pure.of_code mix Tryz.call13 k_13 (by simp) (fun hB => ?_); (try simp at hB); (try simp -implicitDefEqProofs [qc_13]))
   ((try simp at htk); (try simp -implicitDefEqProofs); repeat' first | (with_reducible apply callK_pure <;> first | (simp only [eras, era, eras_map]; first | with_reducible exact htk | simpa using htk) | (simp -implicitDefEqProofs)))
   refine callKf hpw ?_
   ((try simp at hv); (try simp -implicitDefEqProofs [pX]); repeat' first | (with_reducible apply callK_pure <;> first | (simp only [eras, era, eras_map]; first | with_reducible exact hv | simpa using hv) | (simp -implicitDefEqProofs [pX])))
   all_goals exact .inl (.inr (.inr ⟨_, rfl, rfl⟩))
 ·have hplc := w_place 0 L s.length i' true [pX L s.length i' true] [] rfl (fun n m _ _ => ⟨leB_pX _ _ _ _ n m, trivial⟩)
  rw [placeE_T] at hplc
  simp only []
  (refine Pure.of_code mix Tryz.call13 k_13 (by simp) (fun hB => ?_); (try simp at hB); (try simp -implicitDefEqProofs [qc_13]))
  ((try simp at htk); (try simp -implicitDefEqProofs); repeat' first | (with_reducible apply callK_pure <;> first | (simp only [eras, era, eras_map]; first | with_reducible exact htk | simpa using htk) | (simp -implicitDefEqProofs)))
  refine callKf hpw ?_
  (try simp -implicitDefEqProofs [pX])
  refine callKf hplc ?_
  (try simp -implicitDefEqProofs)
  all_goals exact .inl (.inr (.inr ⟨_, rfl, rfl⟩))
end Go.Proofs.YtpggidmbnjfmaaaGreatDoor
