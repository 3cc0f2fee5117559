/- Chapter 32: the parentheses of a printed text: what stands beside them, their balance, a text without a pair of them. -/
import Derived.Test.YtpggidmbnjfmaaaDoorPlz
section
set_option linter.unusedSimpArgs false
set_option linter.unusedVariables false
set_option maxHeartbeats 1000000
namespace Go.Proofs.YtpggidmbnjfmaaaDoor
open E

def mns : Pc := (3, [45])
def cma : Pc := (3, [44])
def smc : Pc := (3, [59])
def pvP (x : Pc) : Prop := x = sp ∨ x = mns ∨ x = lp
def fnP (x : Pc) : Prop := ∃ s c, x = (1, s ++ [c]) ∧ 97 ≤ c.toNat ∧ c.toNat ≤ 122
def nxP (y : Pc) : Prop := y = sp ∨ y = rp ∨ y = cma ∨ y = smc
def okP (x y : Pc) : Prop := (y = lp → pvP x ∨ fnP x) ∧ (x = rp → nxP y)
def Ch : Pc → List Pc → Prop
 | _, [] => True
 | x, y :: l => okP x y ∧ Ch y l
theorem ok_pv {x y : Pc} (h : pvP x) : okP x y := ⟨fun _ => .inl h, fun e => by
 subst e
 rcases h with h | h | h <;> simp [sp, rp, lp, mns] at h⟩
theorem ok_nx {x y : Pc} (h : nxP y) : okP x y := ⟨fun e => by
 subst e
 rcases h with h | h | h | h <;> simp [sp, rp, lp, cma, smc] at h, fun _ => h⟩
theorem ok_no {x y : Pc} (h : x ≠ rp) (h' : y ≠ lp) : okP x y := ⟨fun e => absurd e h', fun e => absurd e h⟩
theorem Ch.app {x : Pc} : ∀ {a r : List Pc}, Ch x (a ++ r) → ∀ {y : Pc} {a' : List Pc}, a = a' ++ [y] → Ch y r
 | [], r, h, y, a', e => by simp at e
 | z :: a, r, h, y, [], e => by
  simp only [List.nil_append, List.cons.injEq] at e
  obtain ⟨rfl, rfl⟩ := e
  exact h.2
 | z :: a, r, h, y, w :: a', e => by
  simp only [List.cons_append, List.cons.injEq] at e
  exact Ch.app (x := z) h.2 e.2

def dpc (c : UInt8) : Int := if c = 40 then 1 else if c = 41 then -1 else 0
def dp : List UInt8 → Int
 | [] => 0
 | c :: s => dpc c + dp s
theorem dp_app : ∀ (a b : List UInt8), dp (a ++ b) = dp a + dp b
 | [], b => by simp [dp]
 | c :: a, b => by rw [List.cons_append, dp, dp, dp_app a b]; omega
def Bl (s : List UInt8) : Prop := dp s = 0 ∧ ∀ k, 0 ≤ dp (s.take k)
theorem Bl.app {a b : List UInt8} (ha : Bl a) (hb : Bl b) : Bl (a ++ b) := ⟨by rw [dp_app, ha.1, hb.1]; rfl, fun k => by
 rw [List.take_append, dp_app]
 have := ha.2 k
 have := hb.2 (k - a.length)
 omega⟩
theorem Bl.nil : Bl [] := ⟨rfl, fun k => by simp [dp]⟩
theorem Bl.wrap {b : List UInt8} (h : Bl b) : Bl (40 :: (b ++ [41])) := by
 refine ⟨?_, fun k => ?_⟩
 ·rw [dp, dp_app, h.1]; rfl
 ·cases k with
  | zero => simp [dp]
  | succ k =>
   rw [List.take_succ_cons, dp, List.take_append, dp_app]
   have h1 := h.2 k
   have h2 : -1 ≤ dp (([41] : List UInt8).take (k - b.length)) := by
    cases k - b.length with
    | zero => simp [dp]
    | succ n => simp [dp, dpc]
   have h3 : dpc 40 = 1 := rfl
   omega
theorem Bl.none : ∀ {s : List UInt8}, (∀ c ∈ s, c ≠ 40 ∧ c ≠ 41) → Bl s
 | [], _ => Bl.nil
 | c :: s, h => by
  have hc : Bl [c] := by
   have h0 : dpc c = 0 := by unfold dpc; rw [if_neg (h c (by simp)).1, if_neg (h c (by simp)).2]
   refine ⟨by simp [dp, h0], fun k => ?_⟩
   cases k with
   | zero => simp [dp]
   | succ k => simp [dp, h0]
  exact Bl.app hc (Bl.none (s := s) fun d hd => h d (by simp [hd]))

def PcC (p : Pc) : Prop := p = lp ∨ p = rp ∨ ∀ c ∈ p.2, c ≠ 40 ∧ c ≠ 41
def LC (ps : List Pc) : Prop := ∀ x, pvP x → ∀ y, nxP y → ∀ r, Ch y r → Ch x (ps ++ y :: r)
def Gd (ps : List Pc) : Prop := LC ps ∧ (∀ p ∈ ps, PcC p) ∧ Bl (txt ps)
theorem txt_one (p : Pc) : txt [p] = p.2 := by simp [txt]
theorem pcc_no {p : Pc} (h : ∀ c ∈ p.2, c ≠ 40 ∧ c ≠ 41) : PcC p := .inr (.inr h)
theorem Gd.one {p : Pc} (h : ∀ c ∈ p.2, c ≠ 40 ∧ c ≠ 41) : Gd [p] := ⟨fun x hx y hy r hr => ⟨ok_pv hx, ok_nx hy, hr⟩, fun q hq => by
 rw [List.mem_singleton.1 hq]; exact pcc_no h, by rw [txt_one]; exact Bl.none h⟩
theorem Gd.par {b : List Pc} (h : Gd b) : Gd (lp :: (b ++ [rp])) := by
 obtain ⟨h1, h2, h3⟩ := h
 refine ⟨fun x hx y hy r hr => ⟨ok_pv hx, ?_⟩, fun q hq => ?_, ?_⟩
 ·rw [List.append_eq, List.append_assoc]
  exact h1 lp (.inr (.inr rfl)) rp (.inr (.inl rfl)) (y :: r) ⟨ok_nx hy, hr⟩
 ·rcases List.mem_cons.1 hq with rfl | hq
  ·exact .inl rfl
  rcases List.mem_append.1 hq with hq | hq
  ·exact h2 q hq
  ·rw [List.mem_singleton.1 hq]; exact .inr (.inl rfl)
 ·rw [txt_cons, txt_append, txt_one]; exact Bl.wrap h3
theorem Gd.wrap {b : List Pc} (h : Gd b) (lv l : Nat) : Gd (wrapP lv l b) := by
 unfold wrapP; split
 ·exact h.par
 ·exact h
theorem Gd.pre {p : Pc} {b : List Pc} (hp : pvP p) (hc : ∀ c ∈ p.2, c ≠ 40 ∧ c ≠ 41) (h : Gd b) : Gd (p :: b) := by
 obtain ⟨h1, h2, h3⟩ := h
 refine ⟨fun x hx y hy r hr => ⟨ok_pv hx, h1 p hp y hy r hr⟩, fun q hq => ?_, ?_⟩
 ·rcases List.mem_cons.1 hq with rfl | hq
  ·exact pcc_no hc
  ·exact h2 q hq
 ·rw [txt_cons]; exact Bl.app (Bl.none hc) h3
theorem Gd.mid {a b : List Pc} {n p : Pc} (ha : Gd a) (hb : Gd b) (hn : nxP n) (hnc : ∀ c ∈ n.2, c ≠ 40 ∧ c ≠ 41) {m : List Pc} (hm : ∀ q ∈ m, q ≠ lp ∧ q ≠ rp ∧ ∀ c ∈ q.2, c ≠ 40 ∧ c ≠ 41) (hp : pvP p) (hpc : ∀ c ∈ p.2, c ≠ 40 ∧ c ≠ 41) : Gd (a ++ n :: (m ++ p :: b)) := by
 obtain ⟨h1, h2, h3⟩ := ha
 obtain ⟨g1, g2, g3⟩ := hb
 have hpr : p ≠ lp := by rintro rfl; exact absurd rfl (hpc 40 (by simp [lp])).1
 have hnr : n ≠ rp := by rintro rfl; exact absurd rfl (hnc 41 (by simp [rp])).2
 have hmid : ∀ (m : List Pc), (∀ q ∈ m, q ≠ lp ∧ q ≠ rp ∧ ∀ c ∈ q.2, c ≠ 40 ∧ c ≠ 41) → ∀ z, z ≠ rp → ∀ R, Ch p R → Ch z (m ++ p :: R) := by
  intro m
  induction m with
  | nil => intro _ z hz R hR; exact ⟨ok_no hz hpr, hR⟩
  | cons q m ih =>
   intro hm z hz R hR
   have hq := hm q (by simp)
   exact ⟨ok_no hz hq.1, ih (fun w hw => hm w (by simp [hw])) q hq.2.1 R hR⟩
 refine ⟨fun x hx y hy r hr => ?_, fun q hq => ?_, ?_⟩
 ·rw [List.append_assoc, List.cons_append, List.append_assoc, List.cons_append]
  exact h1 x hx n hn _ (hmid m hm n hnr _ (g1 p hp y hy r hr))
 ·rcases List.mem_append.1 hq with hq | hq
  ·exact h2 q hq
  rcases List.mem_cons.1 hq with rfl | hq
  ·exact pcc_no hnc
  rcases List.mem_append.1 hq with hq | hq
  ·exact pcc_no (hm q hq).2.2
  rcases List.mem_cons.1 hq with rfl | hq
  ·exact pcc_no hpc
  ·exact g2 q hq
 ·rw [txt_append, txt_cons, txt_append, txt_cons]
  refine Bl.app h3 (Bl.app (Bl.none hnc) (Bl.app ?_ (Bl.app (Bl.none hpc) g3)))
  refine Bl.none fun c hc => ?_
  obtain ⟨q, hq, hc⟩ := List.mem_flatMap.1 hc
  exact (hm q hq).2.2 c hc
theorem Gd.post {a : List Pc} {n : Pc} (ha : Gd a) (hn : nxP n) (hnc : ∀ c ∈ n.2, c ≠ 40 ∧ c ≠ 41) {m : List Pc} (hm : ∀ q ∈ m, q ≠ lp ∧ q ≠ rp ∧ ∀ c ∈ q.2, c ≠ 40 ∧ c ≠ 41) : Gd (a ++ n :: m) := by
 obtain ⟨h1, h2, h3⟩ := ha
 have hnr : n ≠ rp := by rintro rfl; exact absurd rfl (hnc 41 (by simp [rp])).2
 have hmid : ∀ (m : List Pc), (∀ q ∈ m, q ≠ lp ∧ q ≠ rp ∧ ∀ c ∈ q.2, c ≠ 40 ∧ c ≠ 41) → ∀ z, z ≠ rp → ∀ y r, nxP y → Ch y r → Ch z (m ++ y :: r) := by
  intro m
  induction m with
  | nil => intro _ z hz y r hy hr; exact ⟨ok_nx hy, hr⟩
  | cons q m ih =>
   intro hm z hz y r hy hr
   have hq := hm q (by simp)
   exact ⟨ok_no hz hq.1, ih (fun w hw => hm w (by simp [hw])) q hq.2.1 y r hy hr⟩
 refine ⟨fun x hx y hy r hr => ?_, fun q hq => ?_, ?_⟩
 ·rw [List.append_assoc, List.cons_append]
  exact h1 x hx n hn _ (hmid m hm n hnr y r hy hr)
 ·rcases List.mem_append.1 hq with hq | hq
  ·exact h2 q hq
  rcases List.mem_cons.1 hq with rfl | hq
  ·exact pcc_no hnc
  ·exact pcc_no (hm q hq).2.2
 ·rw [txt_append, txt_cons]
  refine Bl.app h3 (Bl.app (Bl.none hnc) ?_)
  refine Bl.none fun c hc => ?_
  obtain ⟨q, hq, hc⟩ := List.mem_flatMap.1 hc
  exact (hm q hq).2.2 c hc
theorem Gd.fn {f : Pc} {b : List Pc} (hf : fnP f) (hc : ∀ c ∈ f.2, c ≠ 40 ∧ c ≠ 41) (h : Gd b) : Gd (f :: lp :: (b ++ [rp])) := by
 obtain ⟨h1, h2, h3⟩ := h
 refine ⟨fun x hx y hy r hr => ⟨ok_pv hx, ⟨fun _ => .inr hf, fun e => ?_⟩, ?_⟩, fun q hq => ?_, ?_⟩
 ·subst e; obtain ⟨s, c, e, _⟩ := hf; simp [rp] at e
 ·rw [List.append_eq, List.append_assoc]
  exact h1 lp (.inr (.inr rfl)) rp (.inr (.inl rfl)) (y :: r) ⟨ok_nx hy, hr⟩
 ·rcases List.mem_cons.1 hq with rfl | hq
  ·exact pcc_no hc
  rcases List.mem_cons.1 hq with rfl | hq
  ·exact .inl rfl
  rcases List.mem_append.1 hq with hq | hq
  ·exact h2 q hq
  ·rw [List.mem_singleton.1 hq]; exact .inr (.inl rfl)
 ·rw [txt_cons, txt_cons, txt_append, txt_one]; exact Bl.app (Bl.none hc) (Bl.wrap h3)
theorem nop_sp : ∀ c ∈ sp.2, c ≠ 40 ∧ c ≠ 41 := by decide
theorem nop_num {v : Int} (h : 0 ≤ v) : ∀ c ∈ (numP v).2, c ≠ 40 ∧ c ≠ 41 := fun c hc => by
 have := itoa_dig h c hc
 constructor <;> (rintro rfl; revert this; decide)
theorem nop_name {n : List UInt8} (h : nameB n = true) : ∀ c ∈ n, c ≠ 40 ∧ c ≠ 41 := by
 have h' := nameB_nf h
 unfold nfB at h'
 simp only [Bool.and_eq_true, decide_eq_true_eq, beq_iff_eq] at h'
 have hr : runR nmcI n = n.length := by omega
 have all : ∀ (s : List UInt8), runR nmcI s = s.length → ∀ c ∈ s, nmcI (c.toNat : Int) = true := by
  intro s
  induction s with
  | nil => intro _ c hc; cases hc
  | cons d s ih =>
   intro h c hc
   rw [runR] at h
   split at h
   ·rename_i hd
    rcases List.mem_cons.1 hc with rfl | hc
    ·exact hd
    ·exact ih (by rw [List.length_cons] at h; omega) c hc
   ·simp at h
 intro c hc
 have := all n hr c hc
 constructor <;> (rintro rfl; revert this; decide)
theorem nop_op (k : Int) : ∀ c ∈ (opc k).2, c ≠ 40 ∧ c ≠ 41 := by
 show ∀ c ∈ opX k, c ≠ 40 ∧ c ≠ 41
 unfold opX
 (repeat' split) <;> decide
theorem op_lr (k : Int) : opc k ≠ lp ∧ opc k ≠ rp := by
 constructor <;> (intro e; have := nop_op k; rw [e] at this; exact absurd this (by decide))
theorem mem_of3 {P : Pc → Prop} {a b c : Pc} (ha : P a) (hb : P b) (hc : P c) : ∀ q ∈ [a, b, c], P q := by
 intro q hq
 rcases List.mem_cons.1 hq with rfl | hq
 ·exact ha
 rcases List.mem_cons.1 hq with rfl | hq
 ·exact hb
 rw [List.mem_singleton.1 hq]; exact hc
theorem gd_bare : ∀ {x : Xp}, Px x → Gd (bare x) := by
 intro x h
 induction h with
 | num v h0 h1 => exact Gd.one (nop_num h0)
 | var n h => exact Gd.one (p := (1, n)) (nop_name h)
 | neg a h ih =>
  have : bare (one 3 a) = mns :: pcs a 7 := rfl
  rw [this]
  exact Gd.pre (.inr (.inl rfl)) (by decide) (ih.wrap _ _)
 | f1 k hk a h ih =>
  rw [bare_f1 hk]
  refine Gd.fn ?_ ?_ ih
  ·rcases hk with rfl | rfl
   ·exact ⟨[97, 98], 115, rfl, by decide, by decide⟩
   ·exact ⟨[115, 104, 97, 114], 101, rfl, by decide, by decide⟩
  ·rcases hk with rfl | rfl <;> decide
 | not a h ih =>
  have : bare (one 6 a) = (1, sNot) :: (sp :: pcs a 3) := rfl
  rw [this]
  have h1 := Gd.pre (p := sp) (.inl rfl) nop_sp (ih.wrap (lvl a.kind) 3)
  obtain ⟨g1, g2, g3⟩ := h1
  refine ⟨fun x hx y hy r hr => ⟨ok_pv hx, ok_no (by simp [rp]) (by simp [sp, lp]), (g1 sp (.inl rfl) y hy r hr).2⟩, fun q hq => ?_, ?_⟩
  ·rcases List.mem_cons.1 hq with rfl | hq
   ·exact pcc_no (by decide)
   ·exact g2 q hq
  ·rw [txt_cons]; exact Bl.app (Bl.none (by decide)) g3
 | f2 k hk a b h h' ih ih' =>
  rw [bare_f2 hk]
  have hm : Gd (bare a ++ cma :: ([] ++ sp :: bare b)) := Gd.mid ih ih' (.inr (.inr (.inl rfl))) (by decide) (by simp) (.inl rfl) nop_sp
  have e : bare a ++ (3, [44]) :: sp :: (bare b ++ [rp]) = (bare a ++ cma :: ([] ++ sp :: bare b)) ++ [rp] := by simp [cma]
  rw [e]
  refine Gd.fn ?_ ?_ hm
  ·rcases hk with rfl | rfl
   ·exact ⟨[109, 105], 110, rfl, by decide, by decide⟩
   ·exact ⟨[109, 97], 120, rfl, by decide, by decide⟩
  ·rcases hk with rfl | rfl <;> decide
 | bin k hk a b h h' ih ih' =>
  rw [tb_bin hk]
  have e : pcs a (if lvl k = 4 then 5 else lvl k) ++ sp :: opc k :: sp :: pcs b (lvl k + 1) = pcs a (if lvl k = 4 then 5 else lvl k) ++ sp :: ([opc k] ++ sp :: pcs b (lvl k + 1)) := by simp
  rw [e]
  exact Gd.mid (ih.wrap _ _) (ih'.wrap _ _) (.inl rfl) nop_sp (fun q hq => by rw [List.mem_singleton.1 hq]; exact ⟨(op_lr k).1, (op_lr k).2, nop_op k⟩) (.inl rfl) nop_sp
 | per v h0 h1 a h ih =>
  have e : bare (perX v a) = pcs a 6 ++ sp :: [(1, sPer), sp, numP v] := rfl
  rw [e]
  refine Gd.post (ih.wrap _ _) (.inl rfl) nop_sp (mem_of3 ⟨by simp [lp], by simp [rp], by decide⟩ ⟨by simp [sp, lp], by simp [sp, rp], nop_sp⟩ ⟨by simp [numP, lp], by simp [numP, rp], nop_num (by omega)⟩)
 | bal k hk f t hf ht =>
  have e : bare (.mk k 0 f t [] []) = (1, if k = 22 then sPart else sBal) :: lp :: ([numP f, (3, [46, 46]), numP t] ++ [rp]) := by rcases hk with rfl | rfl <;> rfl
  rw [e]
  refine Gd.fn ?_ ?_ ?_
  ·rcases hk with rfl | rfl
   ·exact ⟨[98, 97, 108, 97, 110, 99], 101, rfl, by decide, by decide⟩
   ·exact ⟨[112, 97, 114, 116, 110, 101], 114, rfl, by decide, by decide⟩
  ·rcases hk with rfl | rfl <;> decide
  ·have h1 := nop_num (v := f) (by omega)
   have h2 := nop_num (v := t) (by omega)
   refine ⟨fun x hx y hy r hr => ⟨ok_pv hx, ok_no (by simp [numP, rp]) (by simp [lp]), ok_no (by simp [rp]) (by simp [numP, lp]), ok_nx hy, hr⟩, mem_of3 (pcc_no h1) (pcc_no (by decide)) (pcc_no h2), ?_⟩
   rw [txt_cons, txt_cons, txt_one]
   exact Bl.app (Bl.none h1) (Bl.app (Bl.none (by decide)) (Bl.none h2))
end Go.Proofs.YtpggidmbnjfmaaaDoor
end

/- Chapter 32: a printed text without a pair of parentheses has fewer tokens. -/
section
set_option linter.unusedSimpArgs false
set_option linter.unusedVariables false
set_option maxHeartbeats 1000000
namespace Go.Proofs.YtpggidmbnjfmaaaDoor
open E

def plP (q : Pc) : Prop := q ≠ lp ∧ q ≠ rp ∧ ∀ c ∈ q.2, c ≠ 40 ∧ c ≠ 41
def Gp (ps : List Pc) : Prop := (∀ x, x ≠ rp → ∀ r, (∀ z, z ≠ rp → Ch z r) → Ch x (ps ++ r)) ∧ (∀ p ∈ ps, PcC p) ∧ Bl (txt ps)
theorem Gp.app {a b : List Pc} (ha : Gp a) (hb : Gp b) : Gp (a ++ b) := ⟨fun x hx r hr => by
 rw [List.append_assoc]
 exact ha.1 x hx _ fun z hz => hb.1 z hz r hr, fun p hp => (List.mem_append.1 hp).elim (ha.2.1 p) (hb.2.1 p), by rw [txt_append]; exact ha.2.2.app hb.2.2⟩
theorem Gp.nil : Gp [] := ⟨fun x hx r hr => hr x hx, fun p hp => (by cases hp), Bl.nil⟩
theorem Gp.one {q : Pc} (h : plP q) : Gp [q] := ⟨fun x hx r hr => ⟨ok_no hx h.1, hr q h.2.1⟩, fun p hp => by rw [List.mem_singleton.1 hp]; exact pcc_no h.2.2, by rw [txt_one]; exact Bl.none h.2.2⟩
theorem Gp.plain : ∀ {m : List Pc}, (∀ q ∈ m, plP q) → Gp m
 | [], _ => Gp.nil
 | q :: m, h => Gp.app (a := [q]) (Gp.one (h q (by simp))) (Gp.plain fun w hw => h w (by simp [hw]))
theorem Gp.ex {b : List Pc} (h : Gd b) : Gp (sp :: (b ++ [smc, (0, [10])])) := by
 obtain ⟨h1, h2, h3⟩ := h
 refine ⟨fun x hx r hr => ⟨ok_no hx (by simp [sp, lp]), ?_⟩, fun q hq => ?_, ?_⟩
 ·rw [List.append_eq, List.append_assoc]
  exact h1 sp (.inl rfl) smc (.inr (.inr (.inr rfl))) ((0, [10]) :: r) ⟨ok_no (by simp [smc, rp]) (by simp [lp]), hr _ (by simp [rp])⟩
 ·rcases List.mem_cons.1 hq with rfl | hq
  ·exact pcc_no nop_sp
  rcases List.mem_append.1 hq with hq | hq
  ·exact h2 q hq
  rcases List.mem_cons.1 hq with rfl | hq
  ·exact pcc_no (by decide)
  ·rw [List.mem_singleton.1 hq]; exact pcc_no (by decide)
 ·rw [txt_cons, txt_append]
  exact Bl.app (Bl.none nop_sp) (h3.app (Bl.none (by decide)))
theorem pl_sp : plP sp := ⟨by simp [sp, lp], by simp [sp, rp], nop_sp⟩
theorem pl_num {v : Int} (h : 0 ≤ v) : plP (numP v) := ⟨by simp [numP, lp], by simp [numP, rp], nop_num h⟩
theorem pl_wd {n : List UInt8} (h : ∀ c ∈ n, c ≠ 40 ∧ c ≠ 41) : plP (1, n) := ⟨by simp [lp], by simp [rp], h⟩
theorem pl_bl {n : List UInt8} (h : ∀ c ∈ n, c ≠ 40 ∧ c ≠ 41) : plP (0, n) := ⟨by simp [lp], by simp [rp], h⟩
theorem pl_mk {n : List UInt8} (h : ∀ c ∈ n, c ≠ 40 ∧ c ≠ 41) : plP (3, n) := ⟨by rintro e; cases e; exact absurd rfl (h 40 (by simp)).1, by rintro e; cases e; exact absurd rfl (h 41 (by simp)).2, h⟩
theorem gp_stm {s : Stm} (h : stmB s = true) : Gp (stmP s) := by
 have hx := gd_bare (Px.of _ (stm_px h))
 have he := Gp.ex hx
 unfold stmB shdB at h
 simp only [Bool.and_eq_true] at h
 obtain ⟨⟨h1, h2⟩, h3⟩ := h
 unfold stmP
 by_cases e1 : s.kind = 1
 ·rw [if_pos e1] at h1 ⊢
  simp only [Bool.and_eq_true] at h1
  have : [(0, [9]), (1, sLet), sp, (1, s.name), sp, (3, [61]), sp] ++ (bare s.ex ++ [(3, [59]), (0, [10])]) = [(0, [9]), (1, sLet), sp, (1, s.name), sp, (3, [61])] ++ (sp :: (bare s.ex ++ [smc, (0, [10])])) := by simp [smc]
  rw [this]
  refine Gp.app (Gp.plain fun q hq => ?_) he
  have hn := pl_wd (nop_name (n := s.name) h1.1)
  simp only [List.mem_cons, List.not_mem_nil, or_false] at hq
  rcases hq with rfl | rfl | rfl | rfl | rfl | rfl
  ·exact pl_bl (by decide)
  ·exact pl_wd (by decide)
  ·exact pl_sp
  ·exact hn
  ·exact pl_sp
  ·exact pl_mk (by decide)
 rw [if_neg e1] at h1 ⊢
 by_cases e2 : s.kind = 2
 ·rw [if_pos e2]
  have : [(0, [9]), (1, sReq), sp] ++ (bare s.ex ++ [(3, [59]), (0, [10])]) = [(0, [9]), (1, sReq)] ++ (sp :: (bare s.ex ++ [smc, (0, [10])])) := by simp [smc]
  rw [this]
  refine Gp.app (Gp.plain fun q hq => ?_) he
  simp only [List.mem_cons, List.not_mem_nil, or_false] at hq
  rcases hq with rfl | rfl
  ·exact pl_bl (by decide)
  ·exact pl_wd (by decide)
 ·rw [if_neg e2] at h1 ⊢
  have ha : 0 ≤ s.acc := by
   by_cases e3 : s.kind = 3
   ·rw [if_pos e3] at h1
    simp [acB] at h1
    omega
   ·rw [if_neg e3] at h1; cases h1
  have : [(0, [9]), (1, sPost), sp, numP s.acc, sp] ++ (bare s.ex ++ [(3, [59]), (0, [10])]) = [(0, [9]), (1, sPost), sp, numP s.acc] ++ (sp :: (bare s.ex ++ [smc, (0, [10])])) := by simp [smc]
  rw [this]
  refine Gp.app (Gp.plain fun q hq => ?_) he
  have hn := pl_num ha
  simp only [List.mem_cons, List.not_mem_nil, or_false] at hq
  rcases hq with rfl | rfl | rfl | rfl
  ·exact pl_bl (by decide)
  ·exact pl_wd (by decide)
  ·exact pl_sp
  ·exact hn
theorem gp_flat {α : Type} {f : α → List Pc} : ∀ {l : List α}, (∀ a ∈ l, Gp (f a)) → Gp (l.flatMap f)
 | [], _ => Gp.nil
 | a :: l, h => by
  rw [List.flatMap_cons]
  exact (h a (by simp)).app (gp_flat fun b hb => h b (by simp [hb]))
theorem gp_rul {r : Rul} (h : rulB r = true) : Gp (rulP r) := by
 unfold rulB at h
 simp only [Bool.and_eq_true, List.all_eq_true, decide_eq_true_eq] at h
 obtain ⟨⟨⟨h1, h2⟩, h3⟩, h4⟩ := h
 have ha : 0 ≤ r.to := by simp [acB] at h3; omega
 have hn := pl_wd (nop_name h1)
 have ht := pl_num ha
 unfold rulP
 refine Gp.app (Gp.plain fun q hq => ?_) (Gp.app (gp_flat fun s hs => gp_stm (h4 s hs)) (Gp.plain fun q hq => ?_))
 ·simp only [List.mem_cons, List.not_mem_nil, or_false] at hq
  rcases hq with rfl | rfl | rfl | rfl | rfl | rfl | rfl | rfl | rfl | rfl
  ·exact pl_wd (by decide)
  ·exact pl_sp
  ·exact hn
  ·exact pl_sp
  ·exact pl_wd (by decide)
  ·exact pl_sp
  ·cases r.pair <;> exact pl_wd (by decide)
  ·exact pl_sp
  ·exact pl_mk (by decide)
  ·exact pl_bl (by decide)
 ·simp only [List.mem_cons, List.not_mem_nil, or_false] at hq
  rcases hq with rfl | rfl | rfl | rfl | rfl | rfl | rfl | rfl
  ·exact pl_bl (by decide)
  ·exact pl_wd (by decide)
  ·exact pl_sp
  ·exact ht
  ·exact pl_mk (by decide)
  ·exact pl_bl (by decide)
  ·exact pl_mk (by decide)
  ·exact pl_bl (by decide)
theorem gp_prg {p : List Rul} (h : ∀ r ∈ p, rulB r = true) : Gp (prgP p) := gp_flat fun r hr => gp_rul (h r hr)

theorem at_par {c : UInt8} {q : Pc} (hc : (c = 40 ∧ q = lp) ∨ (c = 41 ∧ q = rp)) : ∀ {ps : List Pc}, (∀ p ∈ ps, PcC p) → ∀ {m : Nat}, (txt ps)[m]? = some c → ∃ A R, ps = A ++ q :: R ∧ (txt A).length = m
 | [], _, m, h => by simp [txt] at h
 | p :: ps, hp, m, h => by
  rw [txt_cons] at h
  rcases Nat.lt_or_ge m p.2.length with hm | hm
  ·rw [List.getElem?_append_left hm] at h
   have hmem : c ∈ p.2 := List.mem_of_getElem? h
   rcases hp p (by simp) with rfl | rfl | hn
   ·have : m = 0 := by simp [lp] at hm; omega
    subst this
    have : c = 40 := by simp [lp] at h; exact h.symm
    subst this
    rcases hc with ⟨_, rfl⟩ | ⟨h0, _⟩
    ·exact ⟨[], ps, rfl, rfl⟩
    ·exact absurd h0 (by decide)
   ·have : m = 0 := by simp [rp] at hm; omega
    subst this
    have : c = 41 := by simp [rp] at h; exact h.symm
    subst this
    rcases hc with ⟨h0, _⟩ | ⟨_, rfl⟩
    ·exact absurd h0 (by decide)
    ·exact ⟨[], ps, rfl, rfl⟩
   ·have := hn c hmem
    rcases hc with ⟨rfl, _⟩ | ⟨rfl, _⟩
    ·exact absurd rfl this.1
    ·exact absurd rfl this.2
  ·rw [List.getElem?_append_right hm] at h
   obtain ⟨A, R, e, hl⟩ := at_par hc (fun w hw => hp w (by simp [hw])) h
   exact ⟨p :: A, R, by rw [e]; rfl, by rw [txt_cons, List.length_append, hl]; omega⟩
theorem close_ex : ∀ (t : List UInt8) (d : Int), 0 < d → d + dp t ≤ 0 → ∃ j, t[j]? = some 41 ∧ d + dp (t.take (j + 1)) = 0 ∧ ∀ i, i ≤ j → 0 < d + dp (t.take i)
 | [], d, h, h' => by simp [dp] at h'; omega
 | c :: t, d, h, h' => by
  have step : ∀ d', d' = d + dpc c → 0 < d' → ∃ j, (c :: t)[j]? = some 41 ∧ d + dp ((c :: t).take (j + 1)) = 0 ∧ ∀ i, i ≤ j → 0 < d + dp ((c :: t).take i) := by
   intro d' hd hp
   obtain ⟨j, h1, h2, h3⟩ := close_ex t d' hp (by rw [dp] at h'; omega)
   refine ⟨j + 1, h1, by rw [List.take_succ_cons, dp]; omega, fun i hi => ?_⟩
   cases i with
   | zero => simp [dp]; omega
   | succ i => rw [List.take_succ_cons, dp]; have := h3 i (by omega); omega
  by_cases h1 : c = 41
  ·by_cases h2 : d = 1
   ·subst h1 h2
    exact ⟨0, rfl, rfl, fun i hi => by
     have : i = 0 := by omega
     subst this; rw [List.take_zero]; decide⟩
   ·exact step (d - 1) (by subst h1; rfl) (by omega)
  ·by_cases h2 : c = 40
   ·exact step (d + 1) (by subst h2; rfl) (by omega)
   ·exact step d (by unfold dpc; rw [if_neg h2, if_neg h1]; omega) h
theorem headI_eq {a z z' : List UInt8} (h : headI z = headI z') : headI (a ++ z) = headI (a ++ z') := by
 cases a with
 | nil => exact h
 | cons c a => rfl
theorem lex_tail : ∀ {a r : List Pc}, lexOK (a ++ r) → lexOK r
 | [], r, h => h
 | p :: a, r, h => lex_tail h.2
theorem lex_swap : ∀ {a r r' : List Pc}, lexOK (a ++ r) → lexOK r' → headI (txt r) = headI (txt r') → lexOK (a ++ r')
 | [], r, r', _, h, _ => h
 | p :: a, r, r', h, h', e => ⟨by
  have := h.1
  rw [List.append_eq, txt_append] at this
  rw [List.append_eq, txt_append, ← headI_eq e]
  exact this, lex_swap h.2 h' e⟩
theorem pc_next {p : Pc} (h : pcOK p 41) {c : Int} (hc : c = 0 ∨ c = 32 ∨ c = 41 ∨ c = 44 ∨ c = 59) : pcOK p c := by
 rcases h with h | ⟨h, hb⟩
 ·exact .inl h
 ·refine .inr ⟨?_, hb⟩
  rcases h with ⟨h0, h1, h2, h3⟩ | ⟨h0, h1, h2, h3⟩ | h | ⟨h0, h1, h2, h3, h4, h5⟩
  ·exact .inl ⟨h0, h1, h2, by rcases hc with rfl | rfl | rfl | rfl | rfl <;> decide⟩
  ·exact .inr (.inl ⟨h0, h1, h2, by rcases hc with rfl | rfl | rfl | rfl | rfl <;> decide⟩)
  ·exact .inr (.inr (.inl h))
  ·refine .inr (.inr (.inr ⟨h0, h1, h2, h3, h4, fun d hd => ?_⟩))
   obtain ⟨x, hx⟩ := len1 h3
   rw [hx, List.any_eq_false]
   intro y hy
   have hd' : d.toNat = 0 ∨ d.toNat = 32 ∨ d.toNat = 41 ∨ d.toNat = 44 ∨ d.toNat = 59 := by omega
   have : ¬ [x] ++ [d] = y := by
    intro he
    simp only [dblL, List.mem_cons, List.not_mem_nil, or_false] at hy
    rcases hy with rfl | rfl | rfl | rfl <;> (simp at he; obtain ⟨_, rfl⟩ := he; revert hd'; decide)
   simpa using this
theorem pc_pv {p : Pc} (h : pvP p) (c : Int) : pcOK p c := by
 rcases h with rfl | rfl | rfl
 ·exact sp_ok c
 ·exact mark1 (by decide) c
 ·exact mark1 (by decide) c
theorem pc_ne {p : Pc} {c : Int} (h : pcOK p c) : p.2 ≠ [] := by
 rcases h with ⟨_, h | h | h⟩ | ⟨h, _⟩
 ·rw [h]; simp
 ·rw [h]; simp
 ·rw [h]; simp
 ·exact tokC_ne h
theorem lex_next : ∀ {B C : List Pc}, lexOK (B ++ rp :: C) → (headI (txt C) = 0 ∨ headI (txt C) = 32 ∨ headI (txt C) = 41 ∨ headI (txt C) = 44 ∨ headI (txt C) = 59) → lexOK (B ++ C)
 | [], C, h, hc => h.2
 | [p], C, h, hc => ⟨pc_next h.1 hc, h.2.2⟩
 | p :: q :: B, C, h, hc => by
  have h1 := lex_next (B := q :: B) h.2 hc
  refine ⟨?_, h1⟩
  have h0 := h.1
  have hq := pc_ne h.2.1
  have e : ∀ r, headI (txt (q :: (B ++ r))) = headI q.2 := fun r => by rw [txt_cons]; exact headI_app hq _
  rw [List.append_eq, List.cons_append, e] at h0
  rw [List.append_eq, List.cons_append, e]
  exact h0
theorem last_of {α : Type} {l : List α} (h : l ≠ []) : ∃ a x, l = a ++ [x] := ⟨l.dropLast, l.getLast h, (List.dropLast_concat_getLast h).symm⟩
theorem Ch.at {x : Pc} : ∀ {a : List Pc} {y z : Pc} {r : List Pc}, Ch x (a ++ y :: z :: r) → okP y z
 | [], y, z, r, h => h.2.1
 | w :: a, y, z, r, h => Ch.at (x := w) h.2
theorem pv_at {x : Pc} {a r : List Pc} (ha : a ≠ []) (h : Ch x (a ++ lp :: r)) : ∃ a' y, a = a' ++ [y] ∧ (pvP y ∨ fnP y) := by
 obtain ⟨a', y, rfl⟩ := last_of ha
 rw [List.append_assoc, List.singleton_append] at h
 exact ⟨a', y, rfl, (Ch.at h).1 rfl⟩
theorem nx_at {x : Pc} {a r : List Pc} (h : Ch x (a ++ rp :: r)) : headI (txt r) = 0 ∨ headI (txt r) = 32 ∨ headI (txt r) = 41 ∨ headI (txt r) = 44 ∨ headI (txt r) = 59 := by
 cases r with
 | nil => exact .inl rfl
 | cons y r =>
  have := (Ch.at h).2 rfl
  rcases this with rfl | rfl | rfl | rfl
  ·exact .inr (.inl rfl)
  ·exact .inr (.inr (.inl rfl))
  ·exact .inr (.inr (.inr (.inl rfl)))
  ·exact .inr (.inr (.inr (.inr rfl)))
theorem cut_pair {ps : List Pc} (hG : Gp ps) (hL : lexOK ps) {m : Nat} (h1 : 1 ≤ m) (hm : (txt ps)[m]? = some 40) (hp : ∀ c, (txt ps)[m - 1]? = some c → ¬ (97 ≤ c.toNat ∧ c.toNat ≤ 122)) :
  ∃ a b c, txt ps = a ++ 40 :: (b ++ 41 :: c) ∧ a.length = m ∧ dp b = 0 ∧ (∀ i, i ≤ b.length → 0 ≤ dp (b.take i)) ∧ ∃ qs, lexOK qs ∧ txt qs = a ++ (b ++ c) ∧ tks qs + 2 = tks ps := by
 obtain ⟨g1, g2, g3⟩ := hG
 have hC := g1 (0, [10]) (by simp [rp]) [] (fun z hz => trivial)
 rw [List.append_nil] at hC
 obtain ⟨A, R, rfl, hA⟩ := at_par (q := lp) (.inl ⟨rfl, rfl⟩) g2 hm
 have hAne : A ≠ [] := by rintro rfl; simp [txt] at hA; omega
 obtain ⟨A', x, rfl, hx⟩ := pv_at hAne hC
 have hpv : pvP x := by
  rcases hx with hx | ⟨s, c, rfl, hc⟩
  ·exact hx
  ·exfalso
   refine hp c ?_ hc
   have e : txt (A' ++ [(1, s ++ [c])] ++ lp :: R) = (txt A' ++ s) ++ c :: txt (lp :: R) := by rw [txt_append, txt_append, txt_one]; simp
   have el : m - 1 = (txt A' ++ s).length := by rw [← hA, txt_append, txt_one]; simp only [List.length_append, List.length_singleton]; omega
   rw [e, el, List.getElem?_append_right (Nat.le_refl _), Nat.sub_self]; rfl
 have hdA : 0 ≤ dp (txt (A' ++ [x])) := by
  have := g3.2 m
  rw [txt_append, List.take_append, ← hA, Nat.sub_self, List.take_zero, List.append_nil, List.take_length] at this
  exact this
 have hd : 1 + dp (txt R) ≤ 0 := by
  have := g3.1
  rw [txt_append, dp_app, txt_cons] at this
  have e : dp (lp.2 ++ txt R) = 1 + dp (txt R) := rfl
  omega
 obtain ⟨j, j1, j2, j3⟩ := close_ex (txt R) 1 (by decide) hd
 obtain ⟨B, C, rfl, hB⟩ := at_par (q := rp) (.inr ⟨rfl, rfl⟩) (fun p hp => g2 p (by simp [hp])) j1
 refine ⟨txt (A' ++ [x]), txt B, txt C, ?_, hA, ?_, fun i hi => ?_, A' ++ x :: (B ++ C), ?_, ?_, ?_⟩
 ·rw [txt_append, txt_cons lp, txt_append B, txt_cons rp]; rfl
 ·rw [txt_append, txt_cons, show rp.2 ++ txt C = 41 :: txt C from rfl] at j2
  rw [List.take_append, ← hB, List.take_of_length_le (by omega), dp_app, show (txt B).length + 1 - (txt B).length = 1 by omega] at j2
  have : dp ((41 :: txt C).take 1) = -1 := by simp [dp, dpc]
  omega
 ·have := j3 i (by omega)
  rw [txt_append, List.take_append, show i - (txt B).length = 0 by omega, List.take_zero, List.append_nil] at this
  omega
 ·have hR : lexOK (B ++ rp :: C) := (lex_tail hL).2
  have hBC : lexOK (B ++ C) := lex_next hR (nx_at (x := x) (a := lp :: B) (by
   have := Ch.app (a := A' ++ [x]) hC rfl
   exact this))
  have hxs : lexOK (x :: (B ++ C)) := ⟨pc_pv hpv _, hBC⟩
  rw [List.append_assoc] at hL
  have hxne := pc_ne (pc_pv hpv 0)
  refine lex_swap hL hxs ?_
  rw [List.singleton_append, txt_cons x, txt_cons x, headI_app hxne, headI_app hxne]
 ·rw [txt_append, txt_cons, txt_append, txt_append, txt_one]; simp
 ·simp only [tks, List.append_assoc, List.singleton_append]
  have e1 : ∀ l : List Pc, tk0 (lp :: l) = ⟨3, [40], 0⟩ :: tk0 l := fun l => tk0_cons (by simp [lp]) l
  have e2 : ∀ l : List Pc, tk0 (rp :: l) = ⟨3, [41], 0⟩ :: tk0 l := fun l => tk0_cons (by simp [rp]) l
  have e3 : ∀ l : List Pc, tk0 (x :: l) = tk0 [x] ++ tk0 l := fun l => by rw [← tk0_append]; rfl
  rw [tk0_append, e3, tk0_append, tk0_append, e3 (lp :: _), e1, tk0_append, e2]
  simp only [List.length_append, List.length_cons]
  omega
theorem parse_cut {p : List Rul} (hl : (txt (prgP p)).length ≤ 8000) {qs : List Pc} (h1 : lexOK qs) (h2 : tks qs + 2 = tks (prgP p)) (h3 : (txt qs).length ≤ (txt (prgP p)).length) : (parseR (txt qs)).2.2 ≠ 0 ∨ (parseR (txt qs)).1 ≠ p := by
 obtain ⟨l, l1, l2⟩ := lex_pieces qs 0 h1
 have ht := lex_tokens (by omega) l1
 have hlen : l.length = tks qs := by rw [tks, ← l2, List.length_map]
 unfold parseR
 rw [ht, if_pos rfl]
 unfold parsT
 cases hq : prgT l with
 | er r => exact .inl (by simp)
 | ok q r =>
  simp only []
  split
  ·right
   rintro rfl
   obtain ⟨m1, _⟩ := prgT_min hq
   simp only [] at h2
   omega
  ·exact .inl (by simp)
end Go.Proofs.YtpggidmbnjfmaaaDoor
end
