/- Chapter 32: the parser's small methods. -/
import Derived.Test.YtpggidmbnjfmaaaGreatDoorPpl
import Derived.Test.YtpggidmbnjfmaaaGreatDoorNam
import Derived.Test.YtpggidmbnjfmaaaGreatDoorBld
import Derived.Test.YtpggidmbnjfmaaaGreatDoorCodeW
import Derived.Test.YtpggidmbnjfmaaaGreatDoorCodeD
set_option linter.unusedSimpArgs false
set_option linter.unusedVariables false
set_option maxHeartbeats 4000000
set_option maxRecDepth 8000
namespace Go.Proofs.YtpggidmbnjfmaaaGreatDoor
open E

namespace Ps
theorem app' {n m : Nat} {A : List Bx} : ∀ {l l' : List Bx}, LeBs n m A A → (LeBs n m (A ++ l) (A ++ l') ↔ LeBs n m l l') := by
 induction A with
 | nil => intro l l' _; exact Iff.rfl
 | cons x A ih =>
  intro l l' h
  exact ⟨fun q => (ih h.2).1 q.2, fun q => ⟨h.1, (ih h.2).2 q⟩⟩
theorem leNil {n m : Nat} : ∀ (l : List Bx), LeBs n m l [] := fun l => by cases l <;> trivial
theorem drop' {n m : Nat} {A : List Bx} (l : List Bx) (h : LeBs n m A A) : LeBs n m (A ++ l) A := by
 have := (app' (l := l) (l' := []) h).2 (leNil l)
 rwa [List.append_nil] at this
theorem at0 (B : List Bx) (l : List Bx) : (B ++ l)[B.length]? = l[0]? := by rw [List.getElem?_append_right (by omega)]; congr 1; omega
theorem at1 (B : List Bx) (l : List Bx) : (B ++ l)[B.length + 1]? = l[1]? := by rw [List.getElem?_append_right (by omega)]; congr 1; omega
theorem at2 (B : List Bx) (l : List Bx) : (B ++ l)[B.length + 2]? = l[2]? := by rw [List.getElem?_append_right (by omega)]; congr 1; omega
theorem set0 (B : List Bx) (l : List Bx) (v : Bx) : (B ++ l).set B.length v = B ++ l.set 0 v := by rw [List.set_append_right _ _ (by omega)]; simp
theorem set1 (B : List Bx) (l : List Bx) (v : Bx) : (B ++ l).set (B.length + 1) v = B ++ l.set 1 v := by rw [List.set_append_right _ _ (by omega)]; simp
theorem set2 (B : List Bx) (l : List Bx) (v : Bx) : (B ++ l).set (B.length + 2) v = B ++ l.set 2 v := by rw [List.set_append_right _ _ (by omega)]; simp
def Ok (B : List Bx) (K : List Nat) : Prop := ∀ n m, B.length ≤ n → K.length ≤ m → LeBs n m B B
theorem Ok.set {B : List Bx} {K : List Nat} {X : Bx} (h : Ok B K) (hX : ∀ n m, leB n m X X) (b : Nat) : Ok (B.set b X) K := fun n m hn hm => by
 rw [List.length_set] at hn
 exact LeBs.setR (hX n m) b (h n m hn hm)
theorem Ok.fin {B : List Bx} {K : List Nat} {X : Bx} (h : Ok B K) (hX : ∀ n m, leB n m X X) (b : Nat) : LeBs B.length K.length (B.set b X) (B.set b X) := h.set hX b _ _ (Nat.le_of_eq List.length_set) (Nat.le_refl _)
theorem Ok.more {B : List Bx} {K : List Nat} (h : Ok B K) (l : List Bx) (hl : ∀ n m, LeBs n m l l) : Ok (B ++ l) K := fun n m hn hm => by
 rw [List.length_append] at hn
 exact (app' (h n m (by omega) hm)).2 (hl n m)
end Ps
def pX (L : List Tok) (e : Int) (i : Nat) (bd : Bool) : Bx := .cells [Tok.l L, vI e, vI i, vB bd]
theorem leB_pX (L : List Tok) (e : Int) (i : Nat) (bd : Bool) (n m : Nat) : leB n m (pX L e i bd) (pX L e i bd) := ⟨LeL_refl _, rfl⟩
section
variable {B : List Bx} {K : List Nat} {b : Nat}
theorem gHl (B : List Bx) (b : Nat) (L : List Tok) (e : Int) : ∀ j q, (B.set b (pX L e j q)).length = B.length := fun j q => List.length_set
theorem gHb (hb : b < B.length) (L : List Tok) (e : Int) : ∀ j q, b < (B.set b (pX L e j q)).length := fun j q => by rw [gHl]; exact hb
theorem gB3 (hb : b < B.length) (L : List Tok) (e : Int) : ∀ j q l, (B.set b (pX L e j q) ++ l)[b]? = some (pX L e j q) := fun j q l => by rw [List.getElem?_append_left (gHb hb L e j q)]; simp [hb]
theorem gS3 (hb : b < B.length) (L : List Tok) (e : Int) : ∀ j q l v, (B.set b (pX L e j q) ++ l).set b v = B.set b v ++ l := fun j q l v => by rw [List.set_append_left _ _ (gHb hb L e _ _), List.set_set]
theorem gOk (hok : Ps.Ok B K) (b : Nat) (L : List Tok) (e : Int) : ∀ j q, Ps.Ok (B.set b (pX L e j q)) K := fun j q => hok.set (leB_pX L e j q) b
theorem gC0 (B : List Bx) (b : Nat) (L : List Tok) (e : Int) : ∀ j q l, (B.set b (pX L e j q) ++ l)[B.length]? = l[0]? := fun j q l => by have := Ps.at0 (B.set b (pX L e j q)) l; rwa [gHl] at this
theorem gC1 (B : List Bx) (b : Nat) (L : List Tok) (e : Int) : ∀ j q l, (B.set b (pX L e j q) ++ l)[B.length + 1]? = l[1]? := fun j q l => by have := Ps.at1 (B.set b (pX L e j q)) l; rwa [gHl] at this
theorem gC2 (B : List Bx) (b : Nat) (L : List Tok) (e : Int) : ∀ j q l, (B.set b (pX L e j q) ++ l)[B.length + 2]? = l[2]? := fun j q l => by have := Ps.at2 (B.set b (pX L e j q)) l; rwa [gHl] at this
theorem gT0 (B : List Bx) (b : Nat) (L : List Tok) (e : Int) : ∀ j q l (v : Bx), (B.set b (pX L e j q) ++ l).set B.length v = B.set b (pX L e j q) ++ l.set 0 v := fun j q l v => by have := Ps.set0 (B.set b (pX L e j q)) l v; rwa [gHl] at this
theorem gT1 (B : List Bx) (b : Nat) (L : List Tok) (e : Int) : ∀ j q l (v : Bx), (B.set b (pX L e j q) ++ l).set (B.length + 1) v = B.set b (pX L e j q) ++ l.set 1 v := fun j q l v => by have := Ps.set1 (B.set b (pX L e j q)) l v; rwa [gHl] at this
theorem gDr (hok : Ps.Ok B K) (b : Nat) (L : List Tok) (e : Int) (j : Nat) (q : Bool) (l : List Bx) : LeBs B.length K.length (B.set b (pX L e j q) ++ l) (B.set b (pX L e j q)) := Ps.drop' l (hok.fin (leB_pX L e j q) b)
theorem gBx {X : Bx} (h : B[b]? = some X) : ∀ l, (B ++ l)[b]? = some X := fun l => by rw [List.getElem?_append_left (List.getElem?_eq_some_iff.1 h).1]; exact h
theorem gS4 (hb : b < B.length) : ∀ l (v : Bx), (B ++ l).set b v = B.set b v ++ l := fun l v => List.set_append_left _ _ hb
end
theorem tok_at {L : List Tok} {i : Nat} {t : Tok} (h : L[i]? = some t) : (L.map Tok.c)[i]? = some [.int .i64 t.kind, .str t.text, .int .i64 t.frm] := by rw [List.getElem?_map, h]; rfl
theorem drop_at {L : List Tok} {i : Nat} (h : i < L.length) : L.drop i = L[i] :: L.drop (i + 1) := by rw [List.drop_eq_getElem_cons h]
def pk (L : List Tok) (i : Nat) (bd : Bool) : List UInt8 := if bd then [] else hdT (L.drop i)
theorem pk_bad (L : List Tok) (i : Nat) : pk L i true = [] := rfl
theorem pk_at {L : List Tok} {i : Nat} (h : i < L.length) : pk L i false = L[i].text := by unfold pk; rw [drop_at h]; rfl
theorem pk_end {L : List Tok} {i : Nat} (h : L.length ≤ i) : pk L i false = [] := by unfold pk; rw [List.drop_eq_nil_of_le h]; rfl
theorem pk_lt {L : List Tok} {i : Nat} {bd : Bool} (h : pk L i bd ≠ []) : bd = false ∧ i < L.length := by
 cases bd with
 | true => exact absurd rfl h
 | false =>
  refine ⟨rfl, ?_⟩
  rcases Nat.lt_or_ge i L.length with q | q
  ·exact q
  ·exact absurd (pk_end q) h
def placeE (e : Int) : List Tok → Int
 | [] => e
 | t :: _ => t.frm
structure TokL (L : List Tok) : Prop where
 len : L.length ≤ 1000000
 ne : ∀ t ∈ L, t.text ≠ []
 tx : ∀ t ∈ L, t.text.length ≤ 1000000
theorem w_peek (b : Nat) (L : List Tok) (e : Int) (i : Nat) (bd : Bool) (B : List Bx) (K : List Nat) (hbx : B[b]? = some (pX L e i bd)) (hok : Ps.Ok B K) :
  FnS Tryz.prog 109 [.ptr b 0] ⟨B, K⟩ (vS (pk L i bd)) ⟨B, K⟩ := by
 have hfin := hok _ _ (Nat.le_refl _) (Nat.le_refl _)
 unfold pX at hbx
 cases bd with
 | true =>
  rw [pk_bad]
  (refine FnS.of_code mix Tryz.call109 k_109 (by simp) (fun hB => ?_); (try simp at hB); (try simp -implicitDefEqProofs [qc_109]))
  (try simp -implicitDefEqProofs [hbx])
  exact ⟨hfin, LeNs.refl _⟩
 | false =>
  rcases Nat.lt_or_ge i L.length with h | h
  ·have hx : L[i]? = some L[i] := by simp [h]
   rw [pk_at h]
   have hc := tok_at hx
   (refine FnS.of_code mix Tryz.call109 k_109 (by simp) (fun hB => ?_); (try simp at hB); (try simp -implicitDefEqProofs [qc_109]))
   ((try simp -implicitDefEqProofs [hbx, h, hc]); repeat' first | ((with_reducible first | apply gdK_em | apply cdK_em | apply pickK_em) <;> (intro hc; have hc' := hc; (try simp at hc'); simp -implicitDefEqProofs [hc, hc', hbx, h, hc])))
   all_goals first | exact ⟨hfin, LeNs.refl _⟩ | (exfalso; omega)
  ·rw [pk_end h]
   (refine FnS.of_code mix Tryz.call109 k_109 (by simp) (fun hB => ?_); (try simp at hB); (try simp -implicitDefEqProofs [qc_109]))
   (try simp -implicitDefEqProofs [hbx, h])
   all_goals first | exact ⟨hfin, LeNs.refl _⟩ | (exfalso; omega)
theorem w_pfail (b : Nat) (L : List Tok) (e : Int) (i : Nat) (bd : Bool) (B : List Bx) (K : List Nat) (hbx : B[b]? = some (pX L e i bd)) (hok : Ps.Ok B K) :
  FnS Tryz.prog 138 [.ptr b 0] ⟨B, K⟩ (.tup []) ⟨B.set b (pX L e i true), K⟩ := by
 have hfin := hok.fin (leB_pX L e i true) b
 have hb : b < B.length := (List.getElem?_eq_some_iff.1 hbx).1
 unfold pX at hbx hfin ⊢
 have hbe := hbx
 rw [List.getElem?_eq_getElem hb] at hbe
 have hbe := Option.some.inj hbe
 (refine FnS.of_code mix Tryz.call138 k_138 (by simp) (fun hB => ?_); (try simp at hB); (try simp -implicitDefEqProofs [qc_138]))
 (try simp -implicitDefEqProofs [hbx, hbe, hb])
 exact ⟨hfin, LeNs.refl _⟩
theorem w_place (b : Nat) (L : List Tok) (e : Int) (i : Nat) (bd : Bool) (B : List Bx) (K : List Nat) (hbx : B[b]? = some (pX L e i bd)) (hok : Ps.Ok B K) :
  FnS Tryz.prog 28 [.ptr b 0] ⟨B, K⟩ (vI (placeE e (L.drop i))) ⟨B, K⟩ := by
 have hfin := hok _ _ (Nat.le_refl _) (Nat.le_refl _)
 unfold pX at hbx
 rcases Nat.lt_or_ge i L.length with h | h
 ·have hx : L[i]? = some L[i] := by simp [h]
  rw [drop_at h]
  have hc := tok_at hx
  show FnS _ _ _ _ (vI L[i].frm) _
  (refine FnS.of_code mix Tryz.call28 k_28 (by simp) (fun hB => ?_); (try simp at hB); (try simp -implicitDefEqProofs [qc_28]))
  ((try simp -implicitDefEqProofs [hbx, h, hc]); repeat' first | ((with_reducible first | apply gdK_em | apply cdK_em | apply pickK_em) <;> (intro hc; have hc' := hc; (try simp at hc'); simp -implicitDefEqProofs [hc, hc', hbx, h, hc])))
  all_goals first | exact ⟨hfin, LeNs.refl _⟩ | (exfalso; omega)
 ·rw [List.drop_eq_nil_of_le h]
  show FnS _ _ _ _ (vI e) _
  (refine FnS.of_code mix Tryz.call28 k_28 (by simp) (fun hB => ?_); (try simp at hB); (try simp -implicitDefEqProofs [qc_28]))
  (try simp -implicitDefEqProofs [hbx, h])
  all_goals first | exact ⟨hfin, LeNs.refl _⟩ | (exfalso; omega)
theorem w_take0 (b : Nat) (L : List Tok) (e : Int) (i : Nat) (bd : Bool) (s : List UInt8) (h : pk L i bd ≠ s) (B : List Bx) (K : List Nat) (hbx : B[b]? = some (pX L e i bd)) (hok : Ps.Ok B K) :
  FnS Tryz.prog 108 [.ptr b 0, vS s] ⟨B, K⟩ (vB false) ⟨B, K⟩ := by
 have hfin := hok _ _ (Nat.le_refl _) (Nat.le_refl _)
 have hpk := w_peek b L e i bd B K hbx hok
 generalize pk L i bd = z at *
 have h1 : (z == s) = false := by simpa using h
 have h2 : (z != s) = true := by simpa using h
 (refine FnS.of_code mix Tryz.call108 k_108 (by simp) (fun hB => ?_); (try simp at hB); (try simp -implicitDefEqProofs [qc_108]))
 (try simp -implicitDefEqProofs)
 refine callKf hpk ?_
 (try simp -implicitDefEqProofs [h, h1, h2])
 all_goals exact ⟨hfin, LeNs.refl _⟩
theorem w_take1 (b : Nat) (L : List Tok) (hL : L.length ≤ 1000000) (e : Int) (i : Nat) (bd : Bool) (s : List UInt8) (h : pk L i bd = s) (hs : s ≠ []) (B : List Bx) (K : List Nat) (hbx : B[b]? = some (pX L e i bd)) (hok : Ps.Ok B K) :
  FnS Tryz.prog 108 [.ptr b 0, vS s] ⟨B, K⟩ (vB true) ⟨B.set b (pX L e (i + 1) bd), K⟩ := by
 have hfin := hok.fin (leB_pX L e (i + 1) bd) b
 have hpk := w_peek b L e i bd B K hbx hok
 obtain ⟨_, hi⟩ := pk_lt (by rw [h]; exact hs)
 rw [h] at hpk
 have hb : b < B.length := (List.getElem?_eq_some_iff.1 hbx).1
 have e3 : IntKind.i64.wrap ((i : Int) + 1) = (i : Int) + 1 := wrap64 (by omega) (by omega)
 unfold pX at hbx hfin ⊢
 have hbe := hbx
 rw [List.getElem?_eq_getElem hb] at hbe
 have hbe := Option.some.inj hbe
 (refine FnS.of_code mix Tryz.call108 k_108 (by simp) (fun hB => ?_); (try simp at hB); (try simp -implicitDefEqProofs [qc_108]))
 (try simp -implicitDefEqProofs)
 refine callKf hpk ?_
 (try simp -implicitDefEqProofs [hbx, hbe, hb, e3])
 exact ⟨hfin, LeNs.refl _⟩
def needF (L : List Tok) : List (List UInt8) → Nat → Bool → Nat × Bool
 | [], i, bd => (i, bd)
 | s :: l, i, bd => if bd = true then needF L l i bd else if pk L i bd = s then needF L l (i + 1) bd else needF L l i true
theorem needF_bad (L : List Tok) : ∀ (l : List (List UInt8)) (i : Nat), needF L l i true = (i, true)
 | [], i => rfl
 | s :: l, i => by rw [needF, if_pos rfl, needF_bad L l i]
structure NX where
 k : Nat
 i : Nat
 bd : Bool
theorem w_need (b : Nat) (L : List Tok) (hL : L.length ≤ 1000000) (e : Int) (i0 : Nat) (bd0 : Bool) (l : List (List UInt8)) (hl : ∀ s ∈ l, s ≠ []) (hll : l.length ≤ 1000) (B0 : List Bx) (K : List Nat) (hbx0 : B0[b]? = some (pX L e i0 bd0)) (hok0 : Ps.Ok B0 K) :
  FnS Tryz.prog 106 [.ptr b 0, .full (l.map fun x => [T.str x])] ⟨B0, K⟩ (.tup []) ⟨B0.set b (pX L e (needF L l i0 bd0).1 (needF L l i0 bd0).2), K⟩ := by
 obtain ⟨R, hR⟩ : ∃ R, R = needF L l i0 bd0 := ⟨_, rfl⟩
 rw [← hR]
 have hb : b < B0.length := (List.getElem?_eq_some_iff.1 hbx0).1
 have hs0 : B0 = B0.set b (pX L e i0 bd0) := (set_same hbx0).symm
 (refine FnS.of_code mix Tryz.call106 k_106 (by simp) (fun hB => ?_); (try simp at hB); (try simp -implicitDefEqProofs [qc_106]))
 (try simp -implicitDefEqProofs)
 refine loop_rule (X := NX) (fun X => X.k ≤ l.length ∧ needF L (l.drop X.k) X.i X.bd = R) (fun X => [(0, .ptr b 0), (6, vSL l), (7, vI l.length), (8, vI X.k)]) (fun X => ⟨B0.set b (pX L e X.i X.bd), K⟩) (fun X => l.length - X.k) ⟨0, i0, bd0⟩ ⟨by simp, by simpa using hR.symm⟩ ?hs ?_
 case hs =>
  have h1 := hok0 _ _ (Nat.le_refl _) (Nat.le_refl _)
  have h2 : LeBs B0.length K.length B0 (B0.set b (pX L e i0 bd0)) := by rw [← hs0]; exact h1
  simp [LeNs.refl, hs0.symm, h1, hb]
 rintro ⟨k, i, bd⟩ ⟨hk, hn⟩ hbd
 simp only [] at hk hn
 clear hbd
 have hbx : (B0.set b (pX L e i bd))[b]? = some (pX L e i bd) := by simp [hb]
 have hok : Ps.Ok (B0.set b (pX L e i bd)) K := hok0.set (leB_pX L e i bd) b
 have hse : ∀ i' bd', (B0.set b (pX L e i bd)).set b (pX L e i' bd') = B0.set b (pX L e i' bd') := fun i' bd' => List.set_set _
 have hbl : (B0.set b (pX L e i bd)).length = B0.length := List.length_set
 generalize hB1 : B0.set b (pX L e i bd) = B1 at *
 have hfn : ∀ i' bd', LeBs B0.length K.length (B0.set b (pX L e i' bd')) (B0.set b (pX L e i' bd')) := fun i' bd' => hok0.fin (leB_pX L e i' bd') b
 rcases Nat.lt_or_ge k l.length with h | h
 ·have hx : l[k]? = some l[k] := by simp [h]
  have e3 : IntKind.i64.wrap ((k : Int) + 1) = (k : Int) + 1 := wrap64 (by omega) (by omega)
  rw [List.drop_eq_getElem_cons h, needF] at hn
  have hsn := hl _ (List.getElem_mem h)
  have hck : (l.map fun x => [T.str x])[k]? = some [T.str l[k]] := by simp [h]
  cases bd with
  | true =>
   rw [if_pos rfl] at hn
   have hbx' := hbx
   unfold pX at hbx'
   (try simp -implicitDefEqProofs [h, hck, hbx'])
   exact ⟨⟨k + 1, i, true⟩, ⟨by show k + 1 ≤ _; omega, hn⟩, by show l.length - (k + 1) < _; omega, ⟨by rw [← hB1]; exact hfn _ _, LeNs.refl _⟩, hb, by rw [e3]; push_cast; rfl⟩
  | false =>
   rw [if_neg (by decide)] at hn
   have hbx' := hbx
   unfold pX at hbx'
   by_cases hp : pk L i false = l[k]
   ·rw [if_pos hp] at hn
    have ht := w_take1 b L hL e i false l[k] hp hsn _ K hbx hok
    rw [hse] at ht
    (try simp -implicitDefEqProofs [h, hck, hbx'])
    refine callKf ht ?_
    (try simp -implicitDefEqProofs [e3])
    exact ⟨⟨k + 1, i + 1, false⟩, ⟨by show k + 1 ≤ _; omega, hn⟩, by show l.length - (k + 1) < _; omega, ⟨hfn _ _, LeNs.refl _⟩, hb, by push_cast; rfl⟩
   ·rw [if_neg hp] at hn
    have ht := w_take0 b L e i false l[k] hp _ K hbx hok
    have hf := w_pfail b L e i false _ K hbx hok
    rw [hse] at hf
    (try simp -implicitDefEqProofs [h, hck, hbx'])
    refine callKf ht ?_
    (try simp -implicitDefEqProofs [e3])
    refine callKf hf ?_
    (try simp -implicitDefEqProofs [e3])
    exact ⟨⟨k + 1, i, true⟩, ⟨by show k + 1 ≤ _; omega, hn⟩, by show l.length - (k + 1) < _; omega, ⟨hfn _ _, LeNs.refl _⟩, hb, by push_cast; rfl⟩
 ·have : k = l.length := by omega
  subst this
  rw [List.drop_length, needF] at hn
  subst hn
  (try simp -implicitDefEqProofs [hfn])
  exact ⟨by rw [← hB1]; exact hfn _ _, LeNs.refl _⟩
def nmO (L : List Tok) (i : Nat) (bd : Bool) : Option (List UInt8) := if bd = true then none else match L.drop i with
 | [] => none
 | t :: _ => if t.kind = 1 ∧ kwB t.text = false then some t.text else none
theorem w_pname (b : Nat) (L : List Tok) (hL : TokL L) (e : Int) (i : Nat) (bd : Bool) (B : List Bx) (K : List Nat) (hbx : B[b]? = some (pX L e i bd)) (hok : Ps.Ok B K) :
  FnS Tryz.prog 107 [.ptr b 0] ⟨B, K⟩ (vS ((nmO L i bd).getD [])) ⟨B.set b (pX L e (if (nmO L i bd).isSome then i + 1 else i) (if (nmO L i bd).isSome then bd else true)), K⟩ := by
 have hpk := w_peek b L e i bd B K hbx hok
 have hfl := w_pfail b L e i bd B K hbx hok
 have hb : b < B.length := (List.getElem?_eq_some_iff.1 hbx).1
 have hf1 := hok.fin (leB_pX L e i true) b
 cases bd with
 | true =>
  have : nmO L i true = none := rfl
  rw [this]
  rw [pk_bad] at hpk
  simp only [Option.isSome_none, Bool.false_eq_true, if_false, Option.getD_none]
  unfold pX at hbx
  (refine FnS.of_code mix Tryz.call107 k_107 (by simp) (fun hB => ?_); (try simp at hB); (try simp -implicitDefEqProofs [qc_107]))
  (try simp -implicitDefEqProofs)
  refine callKf hpk ?_
  (try simp -implicitDefEqProofs [hbx])
  refine callKf hfl ?_
  (try simp -implicitDefEqProofs)
  all_goals exact ⟨hf1, LeNs.refl _⟩
 | false =>
  rcases Nat.lt_or_ge i L.length with h | h
  ·have hx : L[i]? = some L[i] := by simp [h]
   have hne := hL.ne _ (List.getElem_mem h)
   have hi := hL.len
   have e3 : IntKind.i64.wrap ((i : Int) + 1) = (i : Int) + 1 := wrap64 (by omega) (by omega)
   have hc := tok_at hx
   rw [pk_at h] at hpk
   have hkw := w_kw L[i].text
   have hnm : nmO L i false = if L[i].kind = 1 ∧ kwB L[i].text = false then some L[i].text else none := by unfold nmO; rw [if_neg (by decide), drop_at h]
   rw [hnm]
   have hz : (L[i].text == []) = false := by simpa using hne
   have hf2 := hok.fin (leB_pX L e (i + 1) false) b
   by_cases hq : L[i].kind = 1 ∧ kwB L[i].text = false
   ·rw [if_pos hq]
    obtain ⟨hq1, hq2⟩ := hq
    rw [hq2] at hkw
    simp only [Option.isSome_some, if_true, Option.getD_some]
    unfold pX at hbx hf2 ⊢
    have hbe := hbx
    rw [List.getElem?_eq_getElem hb] at hbe
    have hbe := Option.some.inj hbe
    (refine FnS.of_code mix Tryz.call107 k_107 (by simp) (fun hB => ?_); (try simp at hB); (try simp -implicitDefEqProofs [qc_107]))
    (try simp -implicitDefEqProofs)
    refine callKf hpk ?_
    ((try simp at hkw); (try simp -implicitDefEqProofs [hbx, hbe, hb, h, hz, hne, e3, hq1]); repeat' first | (with_reducible apply callK_pure <;> first | (simp only [eras, era, eras_map]; first | with_reducible exact hkw | simpa using hkw) | (simp -implicitDefEqProofs [hbx, hbe, hb, h, hz, hne, e3, hq1])))
    all_goals exact ⟨hf2, LeNs.refl _⟩
   ·rw [if_neg hq]
    simp only [Option.isSome_none, Bool.false_eq_true, if_false, Option.getD_none]
    have hbx' := hbx
    unfold pX at hbx'
    by_cases hq1 : L[i].kind = 1
    ·have hq2 : kwB L[i].text = true := by
      cases hk : kwB L[i].text
      ·exact absurd ⟨hq1, hk⟩ hq
      ·rfl
     rw [hq2] at hkw
     (refine FnS.of_code mix Tryz.call107 k_107 (by simp) (fun hB => ?_); (try simp at hB); (try simp -implicitDefEqProofs [qc_107]))
     (try simp -implicitDefEqProofs)
     refine callKf hpk ?_
     ((try simp at hkw); (try simp -implicitDefEqProofs [hbx', h, hz, hne, hq1]); repeat' first | (with_reducible apply callK_pure <;> first | (simp only [eras, era, eras_map]; first | with_reducible exact hkw | simpa using hkw) | (simp -implicitDefEqProofs [hbx', h, hz, hne, hq1])))
     refine callKf hfl ?_
     (try simp -implicitDefEqProofs)
     all_goals exact ⟨hf1, LeNs.refl _⟩
    ·have hq2 : (L[i].kind != 1) = true := by simpa using hq1
     (refine FnS.of_code mix Tryz.call107 k_107 (by simp) (fun hB => ?_); (try simp at hB); (try simp -implicitDefEqProofs [qc_107]))
     (try simp -implicitDefEqProofs)
     refine callKf hpk ?_
     (try simp -implicitDefEqProofs [hbx', h, hz, hne, hq1, hq2])
     refine callKf hfl ?_
     (try simp -implicitDefEqProofs)
     all_goals exact ⟨hf1, LeNs.refl _⟩
  ·have : nmO L i false = none := by unfold nmO; rw [if_neg (by decide), List.drop_eq_nil_of_le h]
   rw [this]
   rw [pk_end h] at hpk
   simp only [Option.isSome_none, Bool.false_eq_true, if_false, Option.getD_none]
   unfold pX at hbx
   (refine FnS.of_code mix Tryz.call107 k_107 (by simp) (fun hB => ?_); (try simp at hB); (try simp -implicitDefEqProofs [qc_107]))
   (try simp -implicitDefEqProofs)
   refine callKf hpk ?_
   (try simp -implicitDefEqProofs [hbx])
   refine callKf hfl ?_
   (try simp -implicitDefEqProofs)
   all_goals exact ⟨hf1, LeNs.refl _⟩
def nuO (least most : Int) (L : List Tok) (i : Nat) (bd : Bool) : Option Int := if bd = true then none else match L.drop i with
 | [] => none
 | t :: _ => if (valR t.kind t.text).2 = true ∧ least ≤ (valR t.kind t.text).1 ∧ (valR t.kind t.text).1 ≤ most then some (valR t.kind t.text).1 else none
theorem w_pnumber (b : Nat) (L : List Tok) (hL : TokL L) (e : Int) (i : Nat) (bd : Bool) (least most : Int) (B : List Bx) (K : List Nat) (hbx : B[b]? = some (pX L e i bd)) (hok : Ps.Ok B K) :
    FnS Tryz.prog 140 [.ptr b 0, vI least, vI most] ⟨B, K⟩ (vI ((nuO least most L i bd).getD 0)) ⟨B.set b (pX L e (if (nuO least most L i bd).isSome then i + 1 else i) (if (nuO least most L i bd).isSome then bd else true)), K⟩ := by
  have hpk := w_peek b L e i bd B K hbx hok
  have hfl := w_pfail b L e i bd B K hbx hok
  have hb : b < B.length := (List.getElem?_eq_some_iff.1 hbx).1
  have hf1 := hok.fin (leB_pX L e i true) b
  cases bd with
  | true =>
    have : nuO least most L i true = none := rfl
    rw [this]
    rw [pk_bad] at hpk
    simp only [Option.isSome_none, Bool.false_eq_true, if_false, Option.getD_none]
    unfold pX at hbx
    (refine FnS.of_code mix Tryz.call140 k_140 (by simp) (fun hB => ?_); (try simp at hB); (try simp -implicitDefEqProofs [qc_140]))
    (try simp -implicitDefEqProofs)
    refine callKf hpk ?_
    (try simp -implicitDefEqProofs [hbx])
    refine callKf hfl ?_
    (try simp -implicitDefEqProofs)
    all_goals exact ⟨hf1, LeNs.refl _⟩
  | false =>
    rcases Nat.lt_or_ge i L.length with h | h
    · have hx : L[i]? = some L[i] := by simp [h]
      have hne := hL.ne _ (List.getElem_mem h)
      have hi := hL.len
      have e3 : IntKind.i64.wrap ((i : Int) + 1) = (i : Int) + 1 := wrap64 (by omega) (by omega)
      rw [pk_at h] at hpk
      have hv := w_Value L[i].kind L[i].text L[i].frm (hL.tx _ (List.getElem_mem h))
      have hnm : nuO least most L i false = if (valR L[i].kind L[i].text).2 = true ∧ least ≤ (valR L[i].kind L[i].text).1 ∧ (valR L[i].kind L[i].text).1 ≤ most then some (valR L[i].kind L[i].text).1 else none := by unfold nuO; rw [if_neg (by decide), drop_at h]
      rw [hnm]
      have hz : (L[i].text == []) = false := by simpa using hne
      have hf2 := hok.fin (leB_pX L e (i + 1) false) b
      generalize valR L[i].kind L[i].text = vr at *
      obtain ⟨v, ok⟩ := vr
      simp only [] at hv ⊢
      by_cases hq : ok = true ∧ least ≤ v ∧ v ≤ most
      · rw [if_pos hq]
        obtain ⟨rfl, hq1, hq2⟩ := hq
        simp only [Option.isSome_some, if_true, Option.getD_some]
        have g1 : decide (v < least) = false := by simp; omega
        have g2 : decide (most < v) = false := by simp; omega
        have g1' : ¬ v < least := by omega
        have g2' : ¬ most < v := by omega
        unfold pX at hbx hf2 ⊢
        have hbe := hbx
        rw [List.getElem?_eq_getElem hb] at hbe
        have hbe := Option.some.inj hbe
        (refine FnS.of_code mix Tryz.call140 k_140 (by simp) (fun hB => ?_); (try simp at hB); (try simp -implicitDefEqProofs [qc_140]))
        (try simp -implicitDefEqProofs)
        refine callKf hpk ?_
        ((try simp at hv); (try simp -implicitDefEqProofs [hbx, hbe, hb, h, hz, hne, e3, g1, g2, g1', g2', Tok.c]); repeat' first | (with_reducible apply callK_pure <;> first | (simp only [eras, era, eras_map]; first | with_reducible exact hv | simpa using hv) | (simp -implicitDefEqProofs [hbx, hbe, hb, h, hz, hne, e3, g1, g2, g1', g2', Tok.c])))
        all_goals exact ⟨hf2, LeNs.refl _⟩
      · rw [if_neg hq]
        simp only [Option.isSome_none, Bool.false_eq_true, if_false, Option.getD_none]
        have hbx' := hbx
        unfold pX at hbx'
        (refine FnS.of_code mix Tryz.call140 k_140 (by simp) (fun hB => ?_); (try simp at hB); (try simp -implicitDefEqProofs [qc_140]))
        (try simp -implicitDefEqProofs)
        refine callKf hpk ?_
        ((try simp at hv); (try simp -implicitDefEqProofs [hbx', h, hz, hne, Tok.c]); repeat' first | ((with_reducible first | apply gdK_em | apply cdK_em | apply pickK_em) <;> (intro hc; have hc' := hc; (try simp at hc'); simp -implicitDefEqProofs [hc, hc', hbx', h, hz, hne, Tok.c])) | (with_reducible apply callK_pure <;> first | (simp only [eras, era, eras_map]; first | with_reducible exact hv | simpa using hv) | (simp -implicitDefEqProofs [hbx', h, hz, hne, Tok.c])))
        all_goals first
          | (refine callKf hfl ?_
             ((try simp -implicitDefEqProofs); repeat' first | ((with_reducible first | apply gdK_em | apply cdK_em | apply pickK_em) <;> (intro hc; have hc' := hc; (try simp at hc'); simp -implicitDefEqProofs [hc, hc'])))
             exact ⟨hf1, LeNs.refl _⟩)
          | (exfalso; refine hq ⟨?_, ?_, ?_⟩ <;> first | (simp_all; done) | (simp_all; omega))
    · have : nuO least most L i false = none := by unfold nuO; rw [if_neg (by decide), List.drop_eq_nil_of_le h]
      rw [this]
      rw [pk_end h] at hpk
      simp only [Option.isSome_none, Bool.false_eq_true, if_false, Option.getD_none]
      unfold pX at hbx
      (refine FnS.of_code mix Tryz.call140 k_140 (by simp) (fun hB => ?_); (try simp at hB); (try simp -implicitDefEqProofs [qc_140]))
      (try simp -implicitDefEqProofs)
      refine callKf hpk ?_
      (try simp -implicitDefEqProofs [hbx])
      refine callKf hfl ?_
      (try simp -implicitDefEqProofs)
      all_goals exact ⟨hf1, LeNs.refl _⟩
theorem w_paccount (b : Nat) (L : List Tok) (hL : TokL L) (e : Int) (i : Nat) (bd : Bool) (B : List Bx) (K : List Nat) (hbx : B[b]? = some (pX L e i bd)) (hok : Ps.Ok B K) :
  FnS Tryz.prog 111 [.ptr b 0] ⟨B, K⟩ (vI ((nuO 1 99999 L i bd).getD 0)) ⟨B.set b (pX L e (if (nuO 1 99999 L i bd).isSome then i + 1 else i) (if (nuO 1 99999 L i bd).isSome then bd else true)), K⟩ := by
 have hn := w_pnumber b L hL e i bd 1 99999 B K hbx hok
 have hf := fun i' bd' => hok.fin (leB_pX L e i' bd') b
 (refine FnS.of_code mix Tryz.call111 k_111 (by simp) (fun hB => ?_); (try simp at hB); (try simp -implicitDefEqProofs [qc_111]))
 (try simp -implicitDefEqProofs)
 refine callKf hn ?_
 (try simp -implicitDefEqProofs)
 exact ⟨hf _ _, LeNs.refl _⟩
def opsL : List (List UInt8 × Int × Int) := [(sOr, 13, 1), (sAnd, 12, 2), ([60], 14, 4), ([60, 61], 15, 4), ([61], 16, 4), ([33, 61], 17, 4), ([62, 61], 18, 4), ([62], 19, 4), ([43], 7, 5), ([45], 8, 5), ([42], 9, 6)]
def opA : List T := opsL.flatMap fun x => [.str x.1, .int .i64 x.2.1, .int .i64 x.2.2]
theorem w_poperators : Pure Tryz.prog 130 [] (.agg (opA.map .t)) := by
 (refine Pure.of_code mix Tryz.call130 k_130 (by simp) (fun hB => ?_); (try simp at hB); (try simp -implicitDefEqProofs [qc_130]))
 (try simp -implicitDefEqProofs [opA, opsL, sOr, sAnd])
def findR : List (List UInt8 × Int × Int) → Int → List UInt8 → (List UInt8 × Int × Int) × Bool
 | [], _, _ => (([], 0, 0), false)
 | x :: l, k, s => if x.2.2 = k ∧ s = x.1 then (x, true) else findR l k s
theorem findR_opT (k : Nat) (s : List UInt8) : findR opsL k s = match opT k s with | some o => ((s, o, (k : Int)), true) | none => (([], 0, 0), false) := by
 have h0 : ∀ l : List (List UInt8 × Int × Int), (∀ x ∈ l, x.2.2 ≠ (k : Int)) → findR l k s = (([], 0, 0), false) := by
  intro l
  induction l with
  | nil => intro _; rfl
  | cons x l ih =>
   intro h
   rw [findR, if_neg (fun q => h x (by simp) q.1), ih (fun y hy => h y (by simp [hy]))]
 rcases (by omega : k = 1 ∨ k = 2 ∨ k = 4 ∨ k = 5 ∨ k = 6 ∨ (k ≠ 1 ∧ k ≠ 2 ∧ k ≠ 4 ∧ k ≠ 5 ∧ k ≠ 6)) with rfl | rfl | rfl | rfl | rfl | hk
 ·simp only [opsL, findR, opT]
  by_cases e : s = sOr
  ·subst e; simp
  ·simp [e]
 ·simp only [opsL, findR, opT]
  by_cases e : s = sAnd
  ·subst e; simp
  ·simp [e]
 ·simp only [opsL, findR, opT]
  by_cases e1 : s = [60]
  ·subst e1; simp
  by_cases e2 : s = [60, 61]
  ·subst e2; simp
  by_cases e3 : s = [61]
  ·subst e3; simp
  by_cases e4 : s = [33, 61]
  ·subst e4; simp
  by_cases e5 : s = [62, 61]
  ·subst e5; simp
  by_cases e6 : s = [62]
  ·subst e6; simp
  simp [e1, e2, e3, e4, e5, e6]
 ·simp only [opsL, findR, opT]
  by_cases e1 : s = [43]
  ·subst e1; simp
  by_cases e2 : s = [45]
  ·subst e2; simp
  simp [e1, e2]
 ·simp only [opsL, findR, opT]
  by_cases e : s = [42]
  ·subst e; simp
  ·simp [e]
 ·have : opT k s = none := by unfold opT; split <;> first | rfl | (exfalso; omega)
  rw [this]
  refine h0 _ fun x hx => ?_
  simp only [opsL, List.mem_cons, List.not_mem_nil, or_false] at hx
  rcases hx with rfl | rfl | rfl | rfl | rfl | rfl | rfl | rfl | rfl | rfl | rfl <;> (simp only []; omega)
def opV (x : List UInt8 × Int × Int) : V := .agg [vS x.1, vI x.2.1, vI x.2.2]
theorem w_find (b : Nat) (L : List Tok) (e : Int) (i : Nat) (bd : Bool) (k : Int) (B : List Bx) (K : List Nat) (hbx : B[b]? = some (pX L e i bd)) (hok : Ps.Ok B K) :
  FnS Tryz.prog 159 [.ptr b 0, vI k] ⟨B, K⟩ (.tup [opV (findR opsL k (pk L i bd)).1, vB (findR opsL k (pk L i bd)).2]) ⟨B, K⟩ := by
 have hops := w_poperators
 have hpk := fun (l : List Bx) (hl : ∀ n m, LeBs n m l l) => w_peek b L e i bd (B ++ l) K (by rw [List.getElem?_append_left (List.getElem?_eq_some_iff.1 hbx).1]; exact hbx) (hok.more l hl)
 have hb : b < B.length := (List.getElem?_eq_some_iff.1 hbx).1
 have hle := hok _ _ (Nat.le_refl _) (Nat.le_refl _)
 obtain ⟨R, hR⟩ : ∃ R, R = findR opsL k (pk L i bd) := ⟨_, rfl⟩
 rw [← hR]
 generalize pk L i bd = s at *
 unfold opV
 have a0 := Ps.at0 B
 have a1 := Ps.at1 B
 have s0 := Ps.set0 B
 have s1 := Ps.set1 B
 have hpk' := fun (x : List UInt8 × Int × Int) => hpk [.cells [vS [], vI 0, vI 0], .cells [vS x.1, vI x.2.1, vI x.2.2]] (fun n m => ⟨⟨LeL_refl _, rfl⟩, ⟨LeL_refl _, rfl⟩, trivial⟩)
 have hleN := fun (l l' : List Bx) (n m : Nat) (h1 : B.length ≤ n) (h2 : K.length ≤ m) => Ps.app' (l := l) (l' := l') (hok n m h1 h2)
 have hdr := fun (l : List Bx) => Ps.drop' l hle
 have hC : opA = [.str sOr, .int .i64 13, .int .i64 1, .str sAnd, .int .i64 12, .int .i64 2, .str [60], .int .i64 14, .int .i64 4, .str [60, 61], .int .i64 15, .int .i64 4, .str [61], .int .i64 16, .int .i64 4, .str [33, 61], .int .i64 17, .int .i64 4, .str [62, 61], .int .i64 18, .int .i64 4, .str [62], .int .i64 19, .int .i64 4, .str [43], .int .i64 7, .int .i64 5, .str [45], .int .i64 8, .int .i64 5, .str [42], .int .i64 9, .int .i64 6] := rfl
 (refine FnS.of_codeW mix Tryz.call159 kw_159 (by simp) (fun hB => ?_); (try simp at hB); (try simp -implicitDefEqProofs [qw_159]))
 ((try simp at hops); (try simp -implicitDefEqProofs [a0]); repeat' first | (with_reducible apply callK_pure <;> first | (simp only [eras, era, eras_map]; first | with_reducible exact hops | simpa using hops) | (simp -implicitDefEqProofs [a0])))
 refine loop_rule (X := Nat) (fun j => j ≤ 11 ∧ findR (opsL.drop j) k s = R) (fun j => [(0, .ptr b 0), (1, vI k), (4, .ptr B.length 0), (8, .agg (opA.map .t)), (9, vI j)]) (fun _ => ⟨B ++ [.cells [vS [], vI 0, vI 0]], K⟩) (fun j => 11 - j) 0 ⟨by simp, by simpa using hR.symm⟩ ?hs ?_
 case hs =>
  simp [hleN, leB, LeL_refl, LeNs.refl, okNs, okN]
  omega
 rintro j ⟨hj, hf⟩ hbd
 clear hbd
 rcases (by omega : j = 0 ∨ j = 1 ∨ j = 2 ∨ j = 3 ∨ j = 4 ∨ j = 5 ∨ j = 6 ∨ j = 7 ∨ j = 8 ∨ j = 9 ∨ j = 10 ∨ j = 11) with rfl | rfl | rfl | rfl | rfl | rfl | rfl | rfl | rfl | rfl | rfl | rfl
 ·rw [show opsL.drop 0 = (sOr, 13, 1) :: opsL.drop 1 from rfl, findR] at hf
  simp only [] at hf
  have hp := hpk' (sOr, 13, 1)
  by_cases hk : (1 : Int) = k
  ·subst hk
   by_cases hz : s = sOr
   ·rw [if_pos ⟨rfl, hz⟩] at hf
    subst hf
    subst hz
    (try simp -implicitDefEqProofs [a0, hC])
    all_goals (repeat' with_reducible apply And.intro)
    all_goals
     refine callKf hp ?_
     (try simp -implicitDefEqProofs [a0, a1, s0, hdr, LeNs.refl])
   ·rw [if_neg (fun q => hz q.2)] at hf
    have hz' : (s == sOr) = false := by simpa using hz
    (try simp -implicitDefEqProofs [a0, hC])
    all_goals (repeat' with_reducible apply And.intro)
    all_goals
     refine callKf hp ?_
     (try simp -implicitDefEqProofs [a0, a1, s0, hz, hz'])
     exact ⟨1, ⟨by omega, hf⟩, by omega, ⟨(hleN _ _ _ _ (by omega) (Nat.le_refl _)).2 ⟨⟨LeL_refl _, rfl⟩, trivial⟩, LeNs.refl _⟩, by omega, rfl⟩
  ·rw [if_neg (fun q => hk q.1)] at hf
   have hk' : ((1 : Int) == k) = false := by simpa using hk
   (try simp -implicitDefEqProofs [a0, hC, hk, hk'])
   all_goals (repeat' with_reducible apply And.intro)
   all_goals
    exact ⟨1, ⟨by omega, hf⟩, by omega, ⟨(hleN _ _ _ _ (by omega) (Nat.le_refl _)).2 ⟨⟨LeL_refl _, rfl⟩, trivial⟩, LeNs.refl _⟩, by omega, rfl⟩
 ·rw [show opsL.drop 1 = (sAnd, 12, 2) :: opsL.drop 2 from rfl, findR] at hf
  simp only [] at hf
  have hp := hpk' (sAnd, 12, 2)
  by_cases hk : (2 : Int) = k
  ·subst hk
   by_cases hz : s = sAnd
   ·rw [if_pos ⟨rfl, hz⟩] at hf
    subst hf
    subst hz
    (try simp -implicitDefEqProofs [a0, hC])
    all_goals (repeat' with_reducible apply And.intro)
    all_goals
     refine callKf hp ?_
     (try simp -implicitDefEqProofs [a0, a1, s0, hdr, LeNs.refl])
   ·rw [if_neg (fun q => hz q.2)] at hf
    have hz' : (s == sAnd) = false := by simpa using hz
    (try simp -implicitDefEqProofs [a0, hC])
    all_goals (repeat' with_reducible apply And.intro)
    all_goals
     refine callKf hp ?_
     (try simp -implicitDefEqProofs [a0, a1, s0, hz, hz'])
     exact ⟨2, ⟨by omega, hf⟩, by omega, ⟨(hleN _ _ _ _ (by omega) (Nat.le_refl _)).2 ⟨⟨LeL_refl _, rfl⟩, trivial⟩, LeNs.refl _⟩, by omega, rfl⟩
  ·rw [if_neg (fun q => hk q.1)] at hf
   have hk' : ((2 : Int) == k) = false := by simpa using hk
   (try simp -implicitDefEqProofs [a0, hC, hk, hk'])
   all_goals (repeat' with_reducible apply And.intro)
   all_goals
    exact ⟨2, ⟨by omega, hf⟩, by omega, ⟨(hleN _ _ _ _ (by omega) (Nat.le_refl _)).2 ⟨⟨LeL_refl _, rfl⟩, trivial⟩, LeNs.refl _⟩, by omega, rfl⟩
 ·rw [show opsL.drop 2 = ([60], 14, 4) :: opsL.drop 3 from rfl, findR] at hf
  simp only [] at hf
  have hp := hpk' ([60], 14, 4)
  by_cases hk : (4 : Int) = k
  ·subst hk
   by_cases hz : s = [60]
   ·rw [if_pos ⟨rfl, hz⟩] at hf
    subst hf
    subst hz
    (try simp -implicitDefEqProofs [a0, hC])
    all_goals (repeat' with_reducible apply And.intro)
    all_goals
     refine callKf hp ?_
     (try simp -implicitDefEqProofs [a0, a1, s0, hdr, LeNs.refl])
   ·rw [if_neg (fun q => hz q.2)] at hf
    have hz' : (s == [60]) = false := by simpa using hz
    (try simp -implicitDefEqProofs [a0, hC])
    all_goals (repeat' with_reducible apply And.intro)
    all_goals
     refine callKf hp ?_
     (try simp -implicitDefEqProofs [a0, a1, s0, hz, hz'])
     exact ⟨3, ⟨by omega, hf⟩, by omega, ⟨(hleN _ _ _ _ (by omega) (Nat.le_refl _)).2 ⟨⟨LeL_refl _, rfl⟩, trivial⟩, LeNs.refl _⟩, by omega, rfl⟩
  ·rw [if_neg (fun q => hk q.1)] at hf
   have hk' : ((4 : Int) == k) = false := by simpa using hk
   (try simp -implicitDefEqProofs [a0, hC, hk, hk'])
   all_goals (repeat' with_reducible apply And.intro)
   all_goals
    exact ⟨3, ⟨by omega, hf⟩, by omega, ⟨(hleN _ _ _ _ (by omega) (Nat.le_refl _)).2 ⟨⟨LeL_refl _, rfl⟩, trivial⟩, LeNs.refl _⟩, by omega, rfl⟩
 ·rw [show opsL.drop 3 = ([60, 61], 15, 4) :: opsL.drop 4 from rfl, findR] at hf
  simp only [] at hf
  have hp := hpk' ([60, 61], 15, 4)
  by_cases hk : (4 : Int) = k
  ·subst hk
   by_cases hz : s = [60, 61]
   ·rw [if_pos ⟨rfl, hz⟩] at hf
    subst hf
    subst hz
    (try simp -implicitDefEqProofs [a0, hC])
    all_goals (repeat' with_reducible apply And.intro)
    all_goals
     refine callKf hp ?_
     (try simp -implicitDefEqProofs [a0, a1, s0, hdr, LeNs.refl])
   ·rw [if_neg (fun q => hz q.2)] at hf
    have hz' : (s == [60, 61]) = false := by simpa using hz
    (try simp -implicitDefEqProofs [a0, hC])
    all_goals (repeat' with_reducible apply And.intro)
    all_goals
     refine callKf hp ?_
     (try simp -implicitDefEqProofs [a0, a1, s0, hz, hz'])
     exact ⟨4, ⟨by omega, hf⟩, by omega, ⟨(hleN _ _ _ _ (by omega) (Nat.le_refl _)).2 ⟨⟨LeL_refl _, rfl⟩, trivial⟩, LeNs.refl _⟩, by omega, rfl⟩
  ·rw [if_neg (fun q => hk q.1)] at hf
   have hk' : ((4 : Int) == k) = false := by simpa using hk
   (try simp -implicitDefEqProofs [a0, hC, hk, hk'])
   all_goals (repeat' with_reducible apply And.intro)
   all_goals
    exact ⟨4, ⟨by omega, hf⟩, by omega, ⟨(hleN _ _ _ _ (by omega) (Nat.le_refl _)).2 ⟨⟨LeL_refl _, rfl⟩, trivial⟩, LeNs.refl _⟩, by omega, rfl⟩
 ·rw [show opsL.drop 4 = ([61], 16, 4) :: opsL.drop 5 from rfl, findR] at hf
  simp only [] at hf
  have hp := hpk' ([61], 16, 4)
  by_cases hk : (4 : Int) = k
  ·subst hk
   by_cases hz : s = [61]
   ·rw [if_pos ⟨rfl, hz⟩] at hf
    subst hf
    subst hz
    (try simp -implicitDefEqProofs [a0, hC])
    all_goals (repeat' with_reducible apply And.intro)
    all_goals
     refine callKf hp ?_
     (try simp -implicitDefEqProofs [a0, a1, s0, hdr, LeNs.refl])
   ·rw [if_neg (fun q => hz q.2)] at hf
    have hz' : (s == [61]) = false := by simpa using hz
    (try simp -implicitDefEqProofs [a0, hC])
    all_goals (repeat' with_reducible apply And.intro)
    all_goals
     refine callKf hp ?_
     (try simp -implicitDefEqProofs [a0, a1, s0, hz, hz'])
     exact ⟨5, ⟨by omega, hf⟩, by omega, ⟨(hleN _ _ _ _ (by omega) (Nat.le_refl _)).2 ⟨⟨LeL_refl _, rfl⟩, trivial⟩, LeNs.refl _⟩, by omega, rfl⟩
  ·rw [if_neg (fun q => hk q.1)] at hf
   have hk' : ((4 : Int) == k) = false := by simpa using hk
   (try simp -implicitDefEqProofs [a0, hC, hk, hk'])
   all_goals (repeat' with_reducible apply And.intro)
   all_goals
    exact ⟨5, ⟨by omega, hf⟩, by omega, ⟨(hleN _ _ _ _ (by omega) (Nat.le_refl _)).2 ⟨⟨LeL_refl _, rfl⟩, trivial⟩, LeNs.refl _⟩, by omega, rfl⟩
 ·rw [show opsL.drop 5 = ([33, 61], 17, 4) :: opsL.drop 6 from rfl, findR] at hf
  simp only [] at hf
  have hp := hpk' ([33, 61], 17, 4)
  by_cases hk : (4 : Int) = k
  ·subst hk
   by_cases hz : s = [33, 61]
   ·rw [if_pos ⟨rfl, hz⟩] at hf
    subst hf
    subst hz
    (try simp -implicitDefEqProofs [a0, hC])
    all_goals (repeat' with_reducible apply And.intro)
    all_goals
     refine callKf hp ?_
     (try simp -implicitDefEqProofs [a0, a1, s0, hdr, LeNs.refl])
   ·rw [if_neg (fun q => hz q.2)] at hf
    have hz' : (s == [33, 61]) = false := by simpa using hz
    (try simp -implicitDefEqProofs [a0, hC])
    all_goals (repeat' with_reducible apply And.intro)
    all_goals
     refine callKf hp ?_
     (try simp -implicitDefEqProofs [a0, a1, s0, hz, hz'])
     exact ⟨6, ⟨by omega, hf⟩, by omega, ⟨(hleN _ _ _ _ (by omega) (Nat.le_refl _)).2 ⟨⟨LeL_refl _, rfl⟩, trivial⟩, LeNs.refl _⟩, by omega, rfl⟩
  ·rw [if_neg (fun q => hk q.1)] at hf
   have hk' : ((4 : Int) == k) = false := by simpa using hk
   (try simp -implicitDefEqProofs [a0, hC, hk, hk'])
   all_goals (repeat' with_reducible apply And.intro)
   all_goals
    exact ⟨6, ⟨by omega, hf⟩, by omega, ⟨(hleN _ _ _ _ (by omega) (Nat.le_refl _)).2 ⟨⟨LeL_refl _, rfl⟩, trivial⟩, LeNs.refl _⟩, by omega, rfl⟩
 ·rw [show opsL.drop 6 = ([62, 61], 18, 4) :: opsL.drop 7 from rfl, findR] at hf
  simp only [] at hf
  have hp := hpk' ([62, 61], 18, 4)
  by_cases hk : (4 : Int) = k
  ·subst hk
   by_cases hz : s = [62, 61]
   ·rw [if_pos ⟨rfl, hz⟩] at hf
    subst hf
    subst hz
    (try simp -implicitDefEqProofs [a0, hC])
    all_goals (repeat' with_reducible apply And.intro)
    all_goals
     refine callKf hp ?_
     (try simp -implicitDefEqProofs [a0, a1, s0, hdr, LeNs.refl])
   ·rw [if_neg (fun q => hz q.2)] at hf
    have hz' : (s == [62, 61]) = false := by simpa using hz
    (try simp -implicitDefEqProofs [a0, hC])
    all_goals (repeat' with_reducible apply And.intro)
    all_goals
     refine callKf hp ?_
     (try simp -implicitDefEqProofs [a0, a1, s0, hz, hz'])
     exact ⟨7, ⟨by omega, hf⟩, by omega, ⟨(hleN _ _ _ _ (by omega) (Nat.le_refl _)).2 ⟨⟨LeL_refl _, rfl⟩, trivial⟩, LeNs.refl _⟩, by omega, rfl⟩
  ·rw [if_neg (fun q => hk q.1)] at hf
   have hk' : ((4 : Int) == k) = false := by simpa using hk
   (try simp -implicitDefEqProofs [a0, hC, hk, hk'])
   all_goals (repeat' with_reducible apply And.intro)
   all_goals
    exact ⟨7, ⟨by omega, hf⟩, by omega, ⟨(hleN _ _ _ _ (by omega) (Nat.le_refl _)).2 ⟨⟨LeL_refl _, rfl⟩, trivial⟩, LeNs.refl _⟩, by omega, rfl⟩
 ·rw [show opsL.drop 7 = ([62], 19, 4) :: opsL.drop 8 from rfl, findR] at hf
  simp only [] at hf
  have hp := hpk' ([62], 19, 4)
  by_cases hk : (4 : Int) = k
  ·subst hk
   by_cases hz : s = [62]
   ·rw [if_pos ⟨rfl, hz⟩] at hf
    subst hf
    subst hz
    (try simp -implicitDefEqProofs [a0, hC])
    all_goals (repeat' with_reducible apply And.intro)
    all_goals
     refine callKf hp ?_
     (try simp -implicitDefEqProofs [a0, a1, s0, hdr, LeNs.refl])
   ·rw [if_neg (fun q => hz q.2)] at hf
    have hz' : (s == [62]) = false := by simpa using hz
    (try simp -implicitDefEqProofs [a0, hC])
    all_goals (repeat' with_reducible apply And.intro)
    all_goals
     refine callKf hp ?_
     (try simp -implicitDefEqProofs [a0, a1, s0, hz, hz'])
     exact ⟨8, ⟨by omega, hf⟩, by omega, ⟨(hleN _ _ _ _ (by omega) (Nat.le_refl _)).2 ⟨⟨LeL_refl _, rfl⟩, trivial⟩, LeNs.refl _⟩, by omega, rfl⟩
  ·rw [if_neg (fun q => hk q.1)] at hf
   have hk' : ((4 : Int) == k) = false := by simpa using hk
   (try simp -implicitDefEqProofs [a0, hC, hk, hk'])
   all_goals (repeat' with_reducible apply And.intro)
   all_goals
    exact ⟨8, ⟨by omega, hf⟩, by omega, ⟨(hleN _ _ _ _ (by omega) (Nat.le_refl _)).2 ⟨⟨LeL_refl _, rfl⟩, trivial⟩, LeNs.refl _⟩, by omega, rfl⟩
 ·rw [show opsL.drop 8 = ([43], 7, 5) :: opsL.drop 9 from rfl, findR] at hf
  simp only [] at hf
  have hp := hpk' ([43], 7, 5)
  by_cases hk : (5 : Int) = k
  ·subst hk
   by_cases hz : s = [43]
   ·rw [if_pos ⟨rfl, hz⟩] at hf
    subst hf
    subst hz
    (try simp -implicitDefEqProofs [a0, hC])
    all_goals (repeat' with_reducible apply And.intro)
    all_goals
     refine callKf hp ?_
     (try simp -implicitDefEqProofs [a0, a1, s0, hdr, LeNs.refl])
   ·rw [if_neg (fun q => hz q.2)] at hf
    have hz' : (s == [43]) = false := by simpa using hz
    (try simp -implicitDefEqProofs [a0, hC])
    all_goals (repeat' with_reducible apply And.intro)
    all_goals
     refine callKf hp ?_
     (try simp -implicitDefEqProofs [a0, a1, s0, hz, hz'])
     exact ⟨9, ⟨by omega, hf⟩, by omega, ⟨(hleN _ _ _ _ (by omega) (Nat.le_refl _)).2 ⟨⟨LeL_refl _, rfl⟩, trivial⟩, LeNs.refl _⟩, by omega, rfl⟩
  ·rw [if_neg (fun q => hk q.1)] at hf
   have hk' : ((5 : Int) == k) = false := by simpa using hk
   (try simp -implicitDefEqProofs [a0, hC, hk, hk'])
   all_goals (repeat' with_reducible apply And.intro)
   all_goals
    exact ⟨9, ⟨by omega, hf⟩, by omega, ⟨(hleN _ _ _ _ (by omega) (Nat.le_refl _)).2 ⟨⟨LeL_refl _, rfl⟩, trivial⟩, LeNs.refl _⟩, by omega, rfl⟩
 ·rw [show opsL.drop 9 = ([45], 8, 5) :: opsL.drop 10 from rfl, findR] at hf
  simp only [] at hf
  have hp := hpk' ([45], 8, 5)
  by_cases hk : (5 : Int) = k
  ·subst hk
   by_cases hz : s = [45]
   ·rw [if_pos ⟨rfl, hz⟩] at hf
    subst hf
    subst hz
    (try simp -implicitDefEqProofs [a0, hC])
    all_goals (repeat' with_reducible apply And.intro)
    all_goals
     refine callKf hp ?_
     (try simp -implicitDefEqProofs [a0, a1, s0, hdr, LeNs.refl])
   ·rw [if_neg (fun q => hz q.2)] at hf
    have hz' : (s == [45]) = false := by simpa using hz
    (try simp -implicitDefEqProofs [a0, hC])
    all_goals (repeat' with_reducible apply And.intro)
    all_goals
     refine callKf hp ?_
     (try simp -implicitDefEqProofs [a0, a1, s0, hz, hz'])
     exact ⟨10, ⟨by omega, hf⟩, by omega, ⟨(hleN _ _ _ _ (by omega) (Nat.le_refl _)).2 ⟨⟨LeL_refl _, rfl⟩, trivial⟩, LeNs.refl _⟩, by omega, rfl⟩
  ·rw [if_neg (fun q => hk q.1)] at hf
   have hk' : ((5 : Int) == k) = false := by simpa using hk
   (try simp -implicitDefEqProofs [a0, hC, hk, hk'])
   all_goals (repeat' with_reducible apply And.intro)
   all_goals
    exact ⟨10, ⟨by omega, hf⟩, by omega, ⟨(hleN _ _ _ _ (by omega) (Nat.le_refl _)).2 ⟨⟨LeL_refl _, rfl⟩, trivial⟩, LeNs.refl _⟩, by omega, rfl⟩
 ·rw [show opsL.drop 10 = ([42], 9, 6) :: opsL.drop 11 from rfl, findR] at hf
  simp only [] at hf
  have hp := hpk' ([42], 9, 6)
  by_cases hk : (6 : Int) = k
  ·subst hk
   by_cases hz : s = [42]
   ·rw [if_pos ⟨rfl, hz⟩] at hf
    subst hf
    subst hz
    (try simp -implicitDefEqProofs [a0, hC])
    all_goals (repeat' with_reducible apply And.intro)
    all_goals
     refine callKf hp ?_
     (try simp -implicitDefEqProofs [a0, a1, s0, hdr, LeNs.refl])
   ·rw [if_neg (fun q => hz q.2)] at hf
    have hz' : (s == [42]) = false := by simpa using hz
    (try simp -implicitDefEqProofs [a0, hC])
    all_goals (repeat' with_reducible apply And.intro)
    all_goals
     refine callKf hp ?_
     (try simp -implicitDefEqProofs [a0, a1, s0, hz, hz'])
     exact ⟨11, ⟨by omega, hf⟩, by omega, ⟨(hleN _ _ _ _ (by omega) (Nat.le_refl _)).2 ⟨⟨LeL_refl _, rfl⟩, trivial⟩, LeNs.refl _⟩, by omega, rfl⟩
  ·rw [if_neg (fun q => hk q.1)] at hf
   have hk' : ((6 : Int) == k) = false := by simpa using hk
   (try simp -implicitDefEqProofs [a0, hC, hk, hk'])
   all_goals (repeat' with_reducible apply And.intro)
   all_goals
    exact ⟨11, ⟨by omega, hf⟩, by omega, ⟨(hleN _ _ _ _ (by omega) (Nat.le_refl _)).2 ⟨⟨LeL_refl _, rfl⟩, trivial⟩, LeNs.refl _⟩, by omega, rfl⟩
 ·have hf' : R = (([], 0, 0), false) := hf.symm
  subst hf'
  (try simp -implicitDefEqProofs [a0, s0, hdr, LeNs.refl])
end Go.Proofs.YtpggidmbnjfmaaaGreatDoor
