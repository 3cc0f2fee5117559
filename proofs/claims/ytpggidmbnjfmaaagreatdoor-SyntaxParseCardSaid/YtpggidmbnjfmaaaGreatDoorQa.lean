/- Chapter 32: the small methods of the reference's parser. -/
import Derived.Test.YtpggidmbnjfmaaaGreatDoorPsb
import Derived.Test.YtpggidmbnjfmaaaGreatDoorRt2
import Derived.Test.YtpggidmbnjfmaaaGreatDoorRpo
import Derived.Test.YtpggidmbnjfmaaaGreatDoorCodeD
set_option linter.unusedSimpArgs false
set_option linter.unusedVariables false
set_option maxHeartbeats 4000000
set_option maxRecDepth 8000
namespace Go.Proofs.YtpggidmbnjfmaaaGreatDoor
open E

def rX (L : List Tok) (i : Nat) (bd : Bool) : Bx := .cells [Tok.l L, vI i, vB bd]
theorem leB_rX (L : List Tok) (i : Nat) (bd : Bool) (n m : Nat) : leB n m (rX L i bd) (rX L i bd) := ⟨LeL_refl _, rfl⟩
def PaF (f : Nat) (vs : List V) (b : Nat) (L : List Tok) (i : Nat) (bd : Bool) (v : V) (i2 : Nat) (bd2 : Bool) : Prop :=
 ∀ B K, b < B.length → Ps.Ok B K → FnS Tryz.prog f vs ⟨B.set b (rX L i bd), K⟩ v ⟨B.set b (rX L i2 bd2), K⟩
theorem PaF.on {f : Nat} {vs : List V} {b : Nat} {L : List Tok} {i : Nat} {bd : Bool} {v : V} {i2 : Nat} {bd2 : Bool} (h : PaF f vs b L i bd v i2 bd2) {B X : List Bx} {K K' : List Nat} (hb : b < B.length) (hok : Ps.Ok B K) (hK : K.length ≤ K'.length)
  (hX : ∀ n m, B.length + X.length ≤ n → K'.length ≤ m → LeBs n m X X) : FnS Tryz.prog f vs ⟨B.set b (rX L i bd) ++ X, K'⟩ v ⟨B.set b (rX L i2 bd2) ++ X, K'⟩ := by
 have := h (B ++ X) K' (by rw [List.length_append]; omega) (fun n m hn hm => by
  rw [List.length_append] at hn
  exact (Ps.app' (hok n m (by omega) (by omega))).2 (hX n m hn hm))
 rw [List.set_append_left _ _ hb, List.set_append_left _ _ hb] at this
 exact this
structure Env (b : Nat) (B : List Bx) (K : List Nat) : Prop where
 g : ∀ x, (B.set b x)[b]? = some x
 ga : ∀ x l, (B.set b x ++ l)[b]? = some x
 ss : ∀ x y, (B.set b x).set b y = B.set b y
 sb : ∀ x y l, (B.set b x ++ l).set b y = B.set b y ++ l
 ln : ∀ x, (B.set b x).length = B.length
 c0 : ∀ x l, (B.set b x ++ l)[B.length]? = l[0]?
 c1 : ∀ x l, (B.set b x ++ l)[B.length + 1]? = l[1]?
 c2 : ∀ x l, (B.set b x ++ l)[B.length + 2]? = l[2]?
 t0 : ∀ x l v, (B.set b x ++ l).set B.length v = B.set b x ++ l.set 0 v
 t1 : ∀ x l v, (B.set b x ++ l).set (B.length + 1) v = B.set b x ++ l.set 1 v
 t2 : ∀ x l v, (B.set b x ++ l).set (B.length + 2) v = B.set b x ++ l.set 2 v
 fin : ∀ L i bd, LeBs B.length K.length (B.set b (rX L i bd)) (B.set b (rX L i bd))
 fia : ∀ L i bd l, LeBs B.length K.length (B.set b (rX L i bd) ++ l) (B.set b (rX L i bd))
 le : ∀ L i bd l l' n m, B.length ≤ n → K.length ≤ m → (LeBs n m (B.set b (rX L i bd) ++ l) (B.set b (rX L i bd) ++ l') ↔ LeBs n m l l')
theorem env {b : Nat} {B : List Bx} {K : List Nat} (hb : b < B.length) (hok : Ps.Ok B K) : Env b B K := by
 have hl : ∀ x, (B.set b x).length = B.length := fun x => List.length_set
 refine ⟨fun x => by simp [hb], fun x l => by rw [List.getElem?_append_left (by rw [hl]; exact hb)]; simp [hb], fun x y => List.set_set _, fun x y l => by rw [List.set_append_left _ _ (by rw [hl]; exact hb), List.set_set], hl,
  fun x l => by have := Ps.at0 (B.set b x) l; rwa [hl] at this, fun x l => by have := Ps.at1 (B.set b x) l; rwa [hl] at this, fun x l => by have := Ps.at2 (B.set b x) l; rwa [hl] at this,
  fun x l v => by have := Ps.set0 (B.set b x) l v; rwa [hl] at this, fun x l v => by have := Ps.set1 (B.set b x) l v; rwa [hl] at this, fun x l v => by have := Ps.set2 (B.set b x) l v; rwa [hl] at this,
  fun L i bd => hok.fin (leB_rX L i bd) b, fun L i bd l => Ps.drop' l (hok.fin (leB_rX L i bd) b),
  fun L i bd l l' n m h1 h2 => Ps.app' (hok.set (leB_rX L i bd) b n m (by rw [hl]; exact h1) h2)⟩
section
variable {b : Nat} {L : List Tok}
theorem w_is0 {i : Nat} {bd : Bool} {s : List UInt8} (h : pk L i bd ≠ s) : PaF 72 [.ptr b 0, vS s] b L i bd (vB false) i bd := by
 intro B K hb hok
 have E := env hb hok
 have hg := E.g
 have hfin := E.fin L i bd
 have hlt := E.ln
 unfold rX at hg hfin ⊢
 cases bd with
 | true =>
  (refine FnS.of_code mix Tryz.call72 k_72 (by simp) (fun hB => ?_); (try simp at hB); (try simp -implicitDefEqProofs [qc_72]))
  (try simp -implicitDefEqProofs [hg])
  exact ⟨hfin, LeNs.refl _⟩
 | false =>
  rcases Nat.lt_or_ge i L.length with q | q
  ·have hx : L[i]? = some L[i] := by simp [q]
   have hc := tok_at hx
   rw [pk_at q] at h
   have hz : (L[i].text == s) = false := by simpa using h
   (refine FnS.of_code mix Tryz.call72 k_72 (by simp) (fun hB => ?_); (try simp at hB); (try simp -implicitDefEqProofs [qc_72]))
   (try simp -implicitDefEqProofs [hg, q, hc, hz])
   all_goals exact ⟨hfin, LeNs.refl _⟩
  ·have q' : ¬ i < L.length := by omega
   (refine FnS.of_code mix Tryz.call72 k_72 (by simp) (fun hB => ?_); (try simp at hB); (try simp -implicitDefEqProofs [qc_72]))
   (try simp -implicitDefEqProofs [hg, q'])
   all_goals exact ⟨hfin, LeNs.refl _⟩
theorem w_is1 {i : Nat} {bd : Bool} {s : List UInt8} (h : pk L i bd = s) (hs : s ≠ []) : PaF 72 [.ptr b 0, vS s] b L i bd (vB true) i bd := by
 intro B K hb hok
 have E := env hb hok
 have hg := E.g
 have hfin := E.fin L i bd
 obtain ⟨rfl, q⟩ := pk_lt (by rw [h]; exact hs)
 rw [pk_at q] at h
 have hx : L[i]? = some L[i] := by simp [q]
 have hc := tok_at hx
 rw [h] at hc
 unfold rX at hg hfin ⊢
 (refine FnS.of_code mix Tryz.call72 k_72 (by simp) (fun hB => ?_); (try simp at hB); (try simp -implicitDefEqProofs [qc_72]))
 (try simp -implicitDefEqProofs [hg, q, hc, h])
 all_goals exact ⟨hfin, LeNs.refl _⟩
theorem w_rtk0 {i : Nat} {bd : Bool} {s : List UInt8} (h : pk L i bd ≠ s) : PaF 71 [.ptr b 0, vS s] b L i bd (vB false) i bd := by
 intro B K hb hok
 have E := env hb hok
 have hfin := E.fin L i bd
 have hi := w_is0 (b := b) h B K hb hok
 (refine FnS.of_code mix Tryz.call71 k_71 (by simp) (fun hB => ?_); (try simp at hB); (try simp -implicitDefEqProofs [qc_71]))
 (try simp -implicitDefEqProofs)
 refine callKf hi ?_
 (try simp -implicitDefEqProofs)
 all_goals exact ⟨hfin, LeNs.refl _⟩
theorem w_rtk1 (hL : L.length ≤ 1000000) {i : Nat} {bd : Bool} {s : List UInt8} (h : pk L i bd = s) (hs : s ≠ []) : PaF 71 [.ptr b 0, vS s] b L i bd (vB true) (i + 1) bd := by
 intro B K hb hok
 have E := env hb hok
 have hg := E.g
 have hss := E.ss
 have hfin := E.fin L (i + 1) bd
 have hi := w_is1 (b := b) h hs B K hb hok
 obtain ⟨_, q⟩ := pk_lt (by rw [h]; exact hs)
 have e3 : IntKind.i64.wrap ((i : Int) + 1) = (i : Int) + 1 := wrap64 (by omega) (by omega)
 unfold rX at hg hfin hi ⊢
 (refine FnS.of_code mix Tryz.call71 k_71 (by simp) (fun hB => ?_); (try simp at hB); (try simp -implicitDefEqProofs [qc_71]))
 (try simp -implicitDefEqProofs)
 refine callKf hi ?_
 (try simp -implicitDefEqProofs [hg, hss, e3])
 all_goals exact ⟨hfin, LeNs.refl _⟩
theorem w_rwant (hL : L.length ≤ 1000000) {i : Nat} {bd : Bool} {s : List UInt8} (hs : s ≠ []) : PaF 69 [.ptr b 0, vS s] b L i bd (.tup []) (needF L [s] i bd).1 (needF L [s] i bd).2 := by
 intro B K hb hok
 have E := env hb hok
 have hg := E.g
 have hss := E.ss
 by_cases h : pk L i bd = s
 ·obtain ⟨rfl, _⟩ := pk_lt (by rw [h]; exact hs)
  have e : needF L [s] i false = (i + 1, false) := by rw [needF, if_neg (by decide), if_pos h, needF]
  rw [e]
  have hfin := E.fin L (i + 1) false
  have hi := w_rtk1 (b := b) hL h hs B K hb hok
  (refine FnS.of_code mix Tryz.call69 k_69 (by simp) (fun hB => ?_); (try simp at hB); (try simp -implicitDefEqProofs [qc_69]))
  (try simp -implicitDefEqProofs)
  refine callKf hi ?_
  (try simp -implicitDefEqProofs)
  all_goals exact ⟨hfin, LeNs.refl _⟩
 ·have e : needF L [s] i bd = (i, true) := by
   cases bd with
   | true => exact needF_bad L [s] i
   | false => rw [needF, if_neg (by decide), if_neg h, needF]
  rw [e]
  have hfin := E.fin L i true
  have hi := w_rtk0 (b := b) h B K hb hok
  unfold rX at hg hfin hi ⊢
  (refine FnS.of_code mix Tryz.call69 k_69 (by simp) (fun hB => ?_); (try simp at hB); (try simp -implicitDefEqProofs [qc_69]))
  (try simp -implicitDefEqProofs)
  refine callKf hi ?_
  (try simp -implicitDefEqProofs [hg, hss])
  all_goals exact ⟨hfin, LeNs.refl _⟩
theorem w_rname (hL : TokL L) {i : Nat} {bd : Bool} : PaF 70 [.ptr b 0] b L i bd (vS ((nmO L i bd).getD [])) (if (nmO L i bd).isSome then i + 1 else i) (if (nmO L i bd).isSome then bd else true) := by
 intro B K hb hok
 have E := env hb hok
 have hg := E.g
 have hss := E.ss
 have hi := hL.len
 cases bd with
 | true =>
  have : nmO L i true = none := rfl
  rw [this]
  simp only [Option.isSome_none, Bool.false_eq_true, if_false, Option.getD_none]
  have hfin := E.fin L i true
  unfold rX at hg hfin ⊢
  (refine FnS.of_code mix Tryz.call70 k_70 (by simp) (fun hB => ?_); (try simp at hB); (try simp -implicitDefEqProofs [qc_70]))
  (try simp -implicitDefEqProofs [hg, hss])
  all_goals exact ⟨hfin, LeNs.refl _⟩
 | false =>
  rcases Nat.lt_or_ge i L.length with h | h
  ·have hx : L[i]? = some L[i] := by simp [h]
   have hne := hL.ne _ (List.getElem_mem h)
   have e3 : IntKind.i64.wrap ((i : Int) + 1) = (i : Int) + 1 := wrap64 (by omega) (by omega)
   have e4 : IntKind.i64.wrap ((i : Int) + 1 - 1) = (i : Int) := by rw [wrap64 (by omega) (by omega)]; omega
   have e5 : IntKind.i64.wrap (i : Int) = (i : Int) := wrap64 (by omega) (by omega)
   have hkw := w_kwR L[i].text
   have hnm : nmO L i false = if L[i].kind = 1 ∧ kwB L[i].text = false then some L[i].text else none := by unfold nmO; rw [if_neg (by decide), drop_at h]
   rw [hnm]
   have h' : ¬ L.length ≤ i := by omega
   have hcc : ∀ a c d, Tok.c ⟨a, c, d⟩ = [.int .i64 a, .str c, .int .i64 d] := fun _ _ _ => rfl
   have hc : (L.map Tok.c)[i]? = some (Tok.c L[i]) := by simp [h]
   generalize hti : L[i] = t at *
   obtain ⟨tk, tx, tf⟩ := t
   simp only [] at hkw hne ⊢
   rw [hcc] at hc
   by_cases hq : tk = 1 ∧ kwB tx = false
   ·rw [if_pos hq]
    obtain ⟨rfl, hq2⟩ := hq
    rw [hq2] at hkw
    simp only [Option.isSome_some, if_true, Option.getD_some]
    have hfin := E.fin L (i + 1) false
    unfold rX at hg hfin ⊢
    (refine FnS.of_code mix Tryz.call70 k_70 (by simp) (fun hB => ?_); (try simp at hB); (try simp -implicitDefEqProofs [qc_70]))
    ((try simp at hkw); (try simp -implicitDefEqProofs [hg, hss, h, h', hc, hti, hcc, e3, e4, e5]); repeat' first | (with_reducible apply callK_pure <;> first | (simp only [eras, era, eras_map]; first | with_reducible exact hkw | simpa using hkw) | (simp -implicitDefEqProofs [hg, hss, h, h', hc, hti, hcc, e3, e4, e5])))
    all_goals exact ⟨hfin, LeNs.refl _⟩
   ·rw [if_neg hq]
    simp only [Option.isSome_none, Bool.false_eq_true, if_false, Option.getD_none]
    have hfin := E.fin L i true
    unfold rX at hg hfin ⊢
    by_cases hq1 : tk = 1
    ·subst hq1
     have hq2 : kwB tx = true := by
      cases hk : kwB tx
      ·exact absurd ⟨rfl, hk⟩ hq
      ·rfl
     rw [hq2] at hkw
     (refine FnS.of_code mix Tryz.call70 k_70 (by simp) (fun hB => ?_); (try simp at hB); (try simp -implicitDefEqProofs [qc_70]))
     ((try simp at hkw); (try simp -implicitDefEqProofs [hg, hss, h, h', hc, hti, hcc, e3, e4, e5]); repeat' first | (with_reducible apply callK_pure <;> first | (simp only [eras, era, eras_map]; first | with_reducible exact hkw | simpa using hkw) | (simp -implicitDefEqProofs [hg, hss, h, h', hc, hti, hcc, e3, e4, e5])))
     all_goals exact ⟨hfin, LeNs.refl _⟩
    ·have hq2 : (tk != 1) = true := by simpa using hq1
     (refine FnS.of_code mix Tryz.call70 k_70 (by simp) (fun hB => ?_); (try simp at hB); (try simp -implicitDefEqProofs [qc_70]))
     (try simp -implicitDefEqProofs [hg, hss, h, h', hc, hti, hcc, hq1, hq2, e3, e4])
     all_goals exact ⟨hfin, LeNs.refl _⟩
  ·have : nmO L i false = none := by unfold nmO; rw [if_neg (by decide), List.drop_eq_nil_of_le h]
   rw [this]
   simp only [Option.isSome_none, Bool.false_eq_true, if_false, Option.getD_none]
   have hfin := E.fin L i true
   unfold rX at hg hfin ⊢
   (refine FnS.of_code mix Tryz.call70 k_70 (by simp) (fun hB => ?_); (try simp at hB); (try simp -implicitDefEqProofs [qc_70]))
   (try simp -implicitDefEqProofs [hg, hss, h])
   all_goals exact ⟨hfin, LeNs.refl _⟩
theorem w_rnumber (hL : TokL L) {i : Nat} {bd : Bool} (least most : Int) : PaF 74 [.ptr b 0, vI least, vI most] b L i bd (vI ((nuO least most L i bd).getD 0)) (if (nuO least most L i bd).isSome then i + 1 else i) (if (nuO least most L i bd).isSome then bd else true) := by
 intro B K hb hok
 have E := env hb hok
 have hg := E.g
 have hss := E.ss
 have hi := hL.len
 cases bd with
 | true =>
  have : nuO least most L i true = none := rfl
  rw [this]
  simp only [Option.isSome_none, Bool.false_eq_true, if_false, Option.getD_none]
  have hfin := E.fin L i true
  unfold rX at hg hfin ⊢
  (refine FnS.of_code mix Tryz.call74 k_74 (by simp) (fun hB => ?_); (try simp at hB); (try simp -implicitDefEqProofs [qc_74]))
  (try simp -implicitDefEqProofs [hg, hss])
  all_goals exact ⟨hfin, LeNs.refl _⟩
 | false =>
  rcases Nat.lt_or_ge i L.length with h | h
  ·have hx : L[i]? = some L[i] := by simp [h]
   have e3 : IntKind.i64.wrap ((i : Int) + 1) = (i : Int) + 1 := wrap64 (by omega) (by omega)
   have hv := w_rValue L[i].kind L[i].text L[i].frm (hL.tx _ (List.getElem_mem h))
   have hnm : nuO least most L i false = if (valR L[i].kind L[i].text).2 = true ∧ least ≤ (valR L[i].kind L[i].text).1 ∧ (valR L[i].kind L[i].text).1 ≤ most then some (valR L[i].kind L[i].text).1 else none := by unfold nuO; rw [if_neg (by decide), drop_at h]
   rw [hnm]
   have hc := tok_at hx
   have hcc : ∀ a c d, Tok.c ⟨a, c, d⟩ = [.int .i64 a, .str c, .int .i64 d] := fun _ _ _ => rfl
   generalize valR L[i].kind L[i].text = vr at *
   obtain ⟨v, ok⟩ := vr
   simp only [] at hv ⊢
   generalize hti : L[i] = t at *
   obtain ⟨tk, tt, tf⟩ := t
   simp only [] at hv hc
   by_cases hq : ok = true ∧ least ≤ v ∧ v ≤ most
   ·rw [if_pos hq]
    obtain ⟨rfl, hq1, hq2⟩ := hq
    simp only [Option.isSome_some, if_true, Option.getD_some]
    have hfin := E.fin L (i + 1) false
    unfold rX at hg hfin ⊢
    (refine FnS.of_code mix Tryz.call74 k_74 (by simp) (fun hB => ?_); (try simp at hB); (try simp -implicitDefEqProofs [qc_74]))
    ((try simp at hv); (try simp -implicitDefEqProofs [hg, hss, h, hc, hti, hcc, e3, hq1, hq2]); repeat' first | (with_reducible apply callK_pure <;> first | (simp only [eras, era, eras_map]; first | with_reducible exact hv | simpa using hv) | (simp -implicitDefEqProofs [hg, hss, h, hc, hti, hcc, e3, hq1, hq2])))
    all_goals exact ⟨hfin, LeNs.refl _⟩
   ·rw [if_neg hq]
    simp only [Option.isSome_none, Bool.false_eq_true, if_false, Option.getD_none]
    have hfin := E.fin L i true
    unfold rX at hg hfin ⊢
    cases ok
    ·(refine FnS.of_code mix Tryz.call74 k_74 (by simp) (fun hB => ?_); (try simp at hB); (try simp -implicitDefEqProofs [qc_74]))
     ((try simp at hv); (try simp -implicitDefEqProofs [hg, hss, h, hc, hti, hcc, e3]); repeat' first | (with_reducible apply callK_pure <;> first | (simp only [eras, era, eras_map]; first | with_reducible exact hv | simpa using hv) | (simp -implicitDefEqProofs [hg, hss, h, hc, hti, hcc, e3])))
     all_goals exact ⟨hfin, LeNs.refl _⟩
    ·by_cases q1 : least ≤ v
     ·have q2 : ¬ v ≤ most := fun q => hq ⟨rfl, q1, q⟩
      (refine FnS.of_code mix Tryz.call74 k_74 (by simp) (fun hB => ?_); (try simp at hB); (try simp -implicitDefEqProofs [qc_74]))
      ((try simp at hv); (try simp -implicitDefEqProofs [hg, hss, h, hc, hti, hcc, e3, q1, q2]); repeat' first | (with_reducible apply callK_pure <;> first | (simp only [eras, era, eras_map]; first | with_reducible exact hv | simpa using hv) | (simp -implicitDefEqProofs [hg, hss, h, hc, hti, hcc, e3, q1, q2])))
      all_goals exact ⟨hfin, LeNs.refl _⟩
     ·(refine FnS.of_code mix Tryz.call74 k_74 (by simp) (fun hB => ?_); (try simp at hB); (try simp -implicitDefEqProofs [qc_74]))
      ((try simp at hv); (try simp -implicitDefEqProofs [hg, hss, h, hc, hti, hcc, e3, q1]); repeat' first | (with_reducible apply callK_pure <;> first | (simp only [eras, era, eras_map]; first | with_reducible exact hv | simpa using hv) | (simp -implicitDefEqProofs [hg, hss, h, hc, hti, hcc, e3, q1])))
      all_goals exact ⟨hfin, LeNs.refl _⟩
  ·have : nuO least most L i false = none := by unfold nuO; rw [if_neg (by decide), List.drop_eq_nil_of_le h]
   rw [this]
   simp only [Option.isSome_none, Bool.false_eq_true, if_false, Option.getD_none]
   have hfin := E.fin L i true
   have h' : ¬ i < L.length := by omega
   unfold rX at hg hfin ⊢
   (refine FnS.of_code mix Tryz.call74 k_74 (by simp) (fun hB => ?_); (try simp at hB); (try simp -implicitDefEqProofs [qc_74]))
   (try simp -implicitDefEqProofs [hg, hss, h'])
   all_goals exact ⟨hfin, LeNs.refl _⟩
def kfF : Nat → Nat → List UInt8 → Nat
 | 0, _, _ => 0
 | n + 1, k, s => if opN k = s then k else kfF n (k + 1) s
theorem opN_ne (k : Int) (h : k = 4 ∨ k = 5 ∨ (7 ≤ k ∧ k ≤ 19) ∨ k = 21 ∨ k = 22) : opN k ≠ [] := by
 have h' : k = 4 ∨ k = 5 ∨ k = 7 ∨ k = 8 ∨ k = 9 ∨ k = 10 ∨ k = 11 ∨ k = 12 ∨ k = 13 ∨ k = 14 ∨ k = 15 ∨ k = 16 ∨ k = 17 ∨ k = 18 ∨ k = 19 ∨ k = 21 ∨ k = 22 := by omega
 rcases h' with rfl | rfl | rfl | rfl | rfl | rfl | rfl | rfl | rfl | rfl | rfl | rfl | rfl | rfl | rfl | rfl | rfl <;> decide
theorem w_rkind (hL : L.length ≤ 1000000) {i : Nat} {bd : Bool} {lo hi : Nat} (h1 : 1 ≤ lo) (h2 : lo ≤ hi + 1) (hk : ∀ k : Nat, lo ≤ k → k ≤ hi → ((k : Int) = 4 ∨ (k : Int) = 5 ∨ (7 ≤ (k : Int) ∧ (k : Int) ≤ 19) ∨ (k : Int) = 21 ∨ (k : Int) = 22)) (hh : hi ≤ 100) :
  PaF 147 [.ptr b 0, vI lo, vI hi] b L i bd (vI (kfF (hi + 1 - lo) lo (pk L i bd) : Nat)) (if 0 < kfF (hi + 1 - lo) lo (pk L i bd) then i + 1 else i) bd := by
 intro B K hb hok
 have E := env hb hok
 have hfin := E.fin L
 obtain ⟨R, hR⟩ : ∃ R, R = kfF (hi + 1 - lo) lo (pk L i bd) := ⟨_, rfl⟩
 rw [← hR]
 (refine FnS.of_code mix Tryz.call147 k_147 (by simp) (fun hB => ?_); (try simp at hB); (try simp -implicitDefEqProofs [qc_147]))
 (try simp -implicitDefEqProofs)
 refine loop_rule (X := Nat) (fun k => lo ≤ k ∧ k ≤ hi + 1 ∧ kfF (hi + 1 - k) k (pk L i bd) = R) (fun k => [(0, .ptr b 0), (2, vI hi), (7, vI k)]) (fun _ => ⟨B.set b (rX L i bd), K⟩) (fun k => hi + 1 - k) lo ⟨Nat.le_refl _, h2, hR.symm⟩ ?hs ?_
 case hs =>
  have h1 := E.fin L i bd
  simp [LeNs.refl, h1, hb]
 rintro k ⟨k1, k2, k3⟩ hbd
 clear hbd
 rcases Nat.lt_or_ge hi k with q | q
 ·have q' : ¬ k ≤ hi := by omega
  rw [show hi + 1 - k = 0 by omega, kfF] at k3
  subst k3
  have hf := hfin i bd
  (try simp -implicitDefEqProofs [q'])
  all_goals exact ⟨hf, LeNs.refl _⟩
 ·have hop := w_roperator k (hk k k1 q)
  rw [show hi + 1 - k = (hi - k) + 1 by omega, kfF] at k3
  have e3 : IntKind.i64.wrap ((k : Int) + 1) = (k : Int) + 1 := wrap64 (by omega) (by omega)
  by_cases hp : pk L i bd = opN k
  ·rw [if_pos hp.symm] at k3
   subst k3
   have ht := w_rtk1 (b := b) hL hp (opN_ne k (hk k k1 q)) B K hb hok
   have hf := hfin (i + 1) bd
   rw [if_pos (by omega)]
   generalize opN k = s at *
   ((try simp at hop); (try simp -implicitDefEqProofs [q]); repeat' first | (with_reducible apply callK_pure <;> first | (simp only [eras, era, eras_map]; first | with_reducible exact hop | simpa using hop) | (simp -implicitDefEqProofs [q])))
   refine callKf ht ?_
   (try simp -implicitDefEqProofs)
   all_goals exact ⟨hf, LeNs.refl _⟩
  ·rw [if_neg (fun q => hp q.symm)] at k3
   have ht := w_rtk0 (b := b) hp B K hb hok
   have hf := hfin i bd
   generalize opN k = s at *
   ((try simp at hop); (try simp -implicitDefEqProofs [q]); repeat' first | (with_reducible apply callK_pure <;> first | (simp only [eras, era, eras_map]; first | with_reducible exact hop | simpa using hop) | (simp -implicitDefEqProofs [q])))
   refine callKf ht ?_
   (try simp -implicitDefEqProofs [e3])
   exact ⟨k + 1, ⟨by omega, by omega, by rw [show hi + 1 - (k + 1) = hi - k by omega]; exact k3⟩, by omega, ⟨hf, LeNs.refl _⟩, hb, by push_cast; rfl⟩
theorem w_rtwo (k : Int) (x y : Xp) : Pure Tryz.prog 145 [vI k, x.v, y.v] (two k x y).v := by
 have hlx := len_c x
 have htx := take_c x
 have hly := len_c y
 have hty := take_c y
 rw [show (two k x y).v = .agg ((two k x y).c.map V.t) from rfl, c_two]
 (refine Pure.of_code mix Tryz.call145 k_145 (by simp) (fun hB => ?_); (try simp at hB); (try simp -implicitDefEqProofs [qc_145]))
 (try simp -implicitDefEqProofs [hlx, htx, hly, hty])
theorem w_rone (k : Int) (x : Xp) : Pure Tryz.prog 146 [vI k, x.v] (one k x).v := by
 have hlx := len_c x
 have htx := take_c x
 rw [show (one k x).v = .agg ((one k x).c.map V.t) from rfl, c_one]
 (refine Pure.of_code mix Tryz.call146 k_146 (by simp) (fun hB => ?_); (try simp at hB); (try simp -implicitDefEqProofs [qc_146]))
 (try simp -implicitDefEqProofs [hlx, htx])
end
end Go.Proofs.YtpggidmbnjfmaaaGreatDoor
