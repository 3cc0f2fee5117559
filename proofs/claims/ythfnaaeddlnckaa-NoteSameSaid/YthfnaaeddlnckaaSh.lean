/- The trees of what a statement reads, as values of the structures of XApi. Printed by gen_sh.py. -/
import Derived.Test.YthfnaaeddlnckaaTree
import Derived.Test.YthfnaaeddlnckaaApi
import Derived.Test.YthfnaaeddlnckaaProg
set_option linter.unusedSimpArgs false
set_option linter.unusedVariables false
set_option maxRecDepth 8000
namespace Go.Proofs.Ythfnaaeddlnckaa
open E

def inI (x : Int) : Prop := -9223372036854775808 ≤ x ∧ x ≤ 9223372036854775807
structure RefS where
  re : Int
  rl : Int
def RefS.c (x : RefS) : List T := [.int .i64 x.re, .int .i64 x.rl]
attribute [simp] RefS.c
def inS (s : List UInt8) : Prop := s.length ≤ 9223372036854775807
theorem sh_i {n : Nat} {ts : List T} (h : Sh Try.prog n 3 ts) : ∃ x, ts = [.int .i64 x] ∧ inI x := by
  cases n with
  | zero => exact h.elim
  | succ n =>
    simp only [Sh, Try.underlying3] at h
    obtain ⟨x, rfl, hw⟩ := h
    refine ⟨x, rfl, ?_⟩
    simp [Lit.wf, IntKind.min, IntKind.max, IntKind.signed, IntKind.bits] at hw
    simp [inI]; omega
theorem sh_s {n : Nat} {ts : List T} (h : Sh Try.prog n 9 ts) : ∃ s, ts = [.str s] ∧ inS s := by
  cases n with
  | zero => exact h.elim
  | succ n =>
    simp only [Sh, Try.underlying9] at h
    obtain ⟨s, rfl, hw⟩ := h
    exact ⟨s, rfl, by simpa [inS, maxLen] using hw⟩
theorem sh_b {n : Nat} {ts : List T} (h : Sh Try.prog n 4 ts) : ∃ b, ts = [.bool b] := by
  cases n with
  | zero => exact h.elim
  | succ n =>
    simp only [Sh, Try.underlying4] at h
    exact h
theorem sh_l {α : Type} {n : Nat} {t e : TypeId} {ts : List T} (hu : Try.prog.underlying t = some (.slice e)) (c : α → List T) (wf : α → Prop) (he : ∀ n ts, Sh Try.prog n e ts → ∃ x, ts = c x ∧ wf x) (hk : Try.prog.cellsOf t = 1) (h : Sh Try.prog n t (ts.take (Try.prog.cellsOf t))) : ∃ l : List α, ts.take 1 = [.sl (l.map c)] ∧ ∀ x ∈ l, wf x := by
  rw [hk] at h
  cases n with
  | zero => exact h.elim
  | succ n =>
    simp only [Sh, hu] at h
    obtain ⟨es, hts, hes⟩ := h
    rw [hts]
    clear hts
    suffices hs : ∃ l : List α, es = l.map c ∧ ∀ x ∈ l, wf x by obtain ⟨l, rfl, hl⟩ := hs; exact ⟨l, rfl, hl⟩
    induction es with
    | nil => exact ⟨[], rfl, by simp⟩
    | cons r es ih =>
      obtain ⟨x, rfl, hx⟩ := he n r (hes r (by simp))
      obtain ⟨l, rfl, hl⟩ := ih (fun r hr => hes r (by simp [hr]))
      exact ⟨x :: l, rfl, by simp; exact ⟨hx, hl⟩⟩

def Account.wf (x : Account) : Prop := inI x.code ∧ inI x.kind ∧ inI x.basis ∧ inI x.parent
theorem sh_Account {n : Nat} {ts : List T} (h : Sh Try.prog n 78 ts) : ∃ x : Account, ts = x.c ∧ x.wf := by
  cases n with
  | zero => exact h.elim
  | succ n =>
    have hc : Try.prog.cellsOf 78 = 4 := by kernel_rfl
    simp only [Sh, Try.underlying78, hc, List.forall_mem_cons, List.not_mem_nil, false_imp_iff, implies_true, and_true] at h
    obtain ⟨hl, h0, h1, h2, h3⟩ := h
    obtain ⟨c0, c1, c2, c3, rfl⟩ : ∃ c0 c1 c2 c3, ts = [c0, c1, c2, c3] := by
      match ts, hl with
      | [c0, c1, c2, c3], _ => exact ⟨_, _, _, _, rfl⟩
    rw [show Try.prog.cellsOf 3 = 1 by kernel_rfl] at h0
    obtain ⟨x0, e0, w0⟩ := sh_i h0
    rw [show Try.prog.cellsOf 3 = 1 by kernel_rfl] at h1
    obtain ⟨x1, e1, w1⟩ := sh_i h1
    rw [show Try.prog.cellsOf 3 = 1 by kernel_rfl] at h2
    obtain ⟨x2, e2, w2⟩ := sh_i h2
    rw [show Try.prog.cellsOf 3 = 1 by kernel_rfl] at h3
    obtain ⟨x3, e3, w3⟩ := sh_i h3
    have e0' := e0
    have e1' := e1
    have e2' := e2
    have e3' := e3
    refine ⟨⟨x0, x1, x2, x3⟩, ?_, ⟨w0, w1, w2, w3⟩⟩
    simp at e0 e1 e2 e3
    simp [*]

def Link.wf (x : Link) : Prop := inI x.frm ∧ inI x.to ∧ inI x.since
theorem sh_Link {n : Nat} {ts : List T} (h : Sh Try.prog n 124 ts) : ∃ x : Link, ts = x.c ∧ x.wf := by
  cases n with
  | zero => exact h.elim
  | succ n =>
    have hc : Try.prog.cellsOf 124 = 3 := by kernel_rfl
    simp only [Sh, Try.underlying124, hc, List.forall_mem_cons, List.not_mem_nil, false_imp_iff, implies_true, and_true] at h
    obtain ⟨hl, h0, h1, h2⟩ := h
    obtain ⟨c0, c1, c2, rfl⟩ : ∃ c0 c1 c2, ts = [c0, c1, c2] := by
      match ts, hl with
      | [c0, c1, c2], _ => exact ⟨_, _, _, rfl⟩
    rw [show Try.prog.cellsOf 3 = 1 by kernel_rfl] at h0
    obtain ⟨x0, e0, w0⟩ := sh_i h0
    rw [show Try.prog.cellsOf 3 = 1 by kernel_rfl] at h1
    obtain ⟨x1, e1, w1⟩ := sh_i h1
    rw [show Try.prog.cellsOf 3 = 1 by kernel_rfl] at h2
    obtain ⟨x2, e2, w2⟩ := sh_i h2
    have e0' := e0
    have e1' := e1
    have e2' := e2
    refine ⟨⟨x0, x1, x2⟩, ?_, ⟨w0, w1, w2⟩⟩
    simp at e0 e1 e2
    simp [*]

def Ent.wf (x : Ent) : Prop := inS x.name ∧ inS x.cur ∧ (∀ y ∈ x.chart, y.wf) ∧ (∀ y ∈ x.links, y.wf)
theorem sh_Ent {n : Nat} {ts : List T} (h : Sh Try.prog n 99 ts) : ∃ x : Ent, ts = x.c ∧ x.wf := by
  cases n with
  | zero => exact h.elim
  | succ n =>
    have hc : Try.prog.cellsOf 99 = 5 := by kernel_rfl
    simp only [Sh, Try.underlying99, hc, List.forall_mem_cons, List.not_mem_nil, false_imp_iff, implies_true, and_true] at h
    obtain ⟨hl, h0, h1, h2, h3, h4⟩ := h
    obtain ⟨c0, c1, c2, c3, c4, rfl⟩ : ∃ c0 c1 c2 c3 c4, ts = [c0, c1, c2, c3, c4] := by
      match ts, hl with
      | [c0, c1, c2, c3, c4], _ => exact ⟨_, _, _, _, _, rfl⟩
    rw [show Try.prog.cellsOf 9 = 1 by kernel_rfl] at h0
    obtain ⟨x0, e0, w0⟩ := sh_s h0
    rw [show Try.prog.cellsOf 9 = 1 by kernel_rfl] at h1
    obtain ⟨x1, e1, w1⟩ := sh_s h1
    obtain ⟨x2, e2, w2⟩ := sh_l (by kernel_rfl) Account.c Account.wf (fun n ts h => sh_Account h) (by kernel_rfl) h2
    obtain ⟨x3, e3, w3⟩ := sh_l (by kernel_rfl) Link.c Link.wf (fun n ts h => sh_Link h) (by kernel_rfl) h3
    rw [show Try.prog.cellsOf 4 = 1 by kernel_rfl] at h4
    obtain ⟨x4, e4⟩ := sh_b h4
    have e0' := e0
    have e1' := e1
    have e2' := e2
    have e3' := e3
    have e4' := e4
    refine ⟨⟨x0, x1, x2, x3, x4⟩, ?_, ⟨w0, w1, w2, w3⟩⟩
    simp at e0 e1 e2 e3 e4
    simp [*]

def Cal.wf (x : Cal) : Prop := inI x.year ∧ inI x.month ∧ inI x.periods
theorem sh_Cal {n : Nat} {ts : List T} (h : Sh Try.prog n 26 ts) : ∃ x : Cal, ts = x.c ∧ x.wf := by
  cases n with
  | zero => exact h.elim
  | succ n =>
    have hc : Try.prog.cellsOf 26 = 3 := by kernel_rfl
    simp only [Sh, Try.underlying26, hc, List.forall_mem_cons, List.not_mem_nil, false_imp_iff, implies_true, and_true] at h
    obtain ⟨hl, h0, h1, h2⟩ := h
    obtain ⟨c0, c1, c2, rfl⟩ : ∃ c0 c1 c2, ts = [c0, c1, c2] := by
      match ts, hl with
      | [c0, c1, c2], _ => exact ⟨_, _, _, rfl⟩
    rw [show Try.prog.cellsOf 3 = 1 by kernel_rfl] at h0
    obtain ⟨x0, e0, w0⟩ := sh_i h0
    rw [show Try.prog.cellsOf 3 = 1 by kernel_rfl] at h1
    obtain ⟨x1, e1, w1⟩ := sh_i h1
    rw [show Try.prog.cellsOf 3 = 1 by kernel_rfl] at h2
    obtain ⟨x2, e2, w2⟩ := sh_i h2
    have e0' := e0
    have e1' := e1
    have e2' := e2
    refine ⟨⟨x0, x1, x2⟩, ?_, ⟨w0, w1, w2⟩⟩
    simp at e0 e1 e2
    simp [*]

def RefS.wf (x : RefS) : Prop := inI x.re ∧ inI x.rl
theorem sh_RefS {n : Nat} {ts : List T} (h : Sh Try.prog n 60 ts) : ∃ x : RefS, ts = x.c ∧ x.wf := by
  cases n with
  | zero => exact h.elim
  | succ n =>
    have hc : Try.prog.cellsOf 60 = 2 := by kernel_rfl
    simp only [Sh, Try.underlying60, hc, List.forall_mem_cons, List.not_mem_nil, false_imp_iff, implies_true, and_true] at h
    obtain ⟨hl, h0, h1⟩ := h
    obtain ⟨c0, c1, rfl⟩ : ∃ c0 c1, ts = [c0, c1] := by
      match ts, hl with
      | [c0, c1], _ => exact ⟨_, _, rfl⟩
    rw [show Try.prog.cellsOf 3 = 1 by kernel_rfl] at h0
    obtain ⟨x0, e0, w0⟩ := sh_i h0
    rw [show Try.prog.cellsOf 3 = 1 by kernel_rfl] at h1
    obtain ⟨x1, e1, w1⟩ := sh_i h1
    have e0' := e0
    have e1' := e1
    refine ⟨⟨x0, x1⟩, ?_, ⟨w0, w1⟩⟩
    simp at e0 e1
    simp [*]

def Roles.wf (x : Roles) : Prop := inI x.inv ∧ inI x.gdw ∧ inI x.asc ∧ inI x.ivt ∧ inI x.rsv ∧ inI x.mnt ∧ inI x.rtn ∧ inI x.acq ∧ inI x.own ∧ inI x.dsp ∧ inI x.asp ∧ inI x.dvd ∧ inI x.mnp ∧ inI x.dif ∧ inI x.mrg
theorem sh_Roles {n : Nat} {ts : List T} (h : Sh Try.prog n 29 ts) : ∃ x : Roles, ts = x.c ∧ x.wf := by
  cases n with
  | zero => exact h.elim
  | succ n =>
    have hc : Try.prog.cellsOf 29 = 15 := by kernel_rfl
    simp only [Sh, Try.underlying29, hc, List.forall_mem_cons, List.not_mem_nil, false_imp_iff, implies_true, and_true] at h
    obtain ⟨hl, h0, h1, h2, h3, h4, h5, h6, h7, h8, h9, h10, h11, h12, h13, h14⟩ := h
    obtain ⟨c0, c1, c2, c3, c4, c5, c6, c7, c8, c9, c10, c11, c12, c13, c14, rfl⟩ : ∃ c0 c1 c2 c3 c4 c5 c6 c7 c8 c9 c10 c11 c12 c13 c14, ts = [c0, c1, c2, c3, c4, c5, c6, c7, c8, c9, c10, c11, c12, c13, c14] := by
      match ts, hl with
      | [c0, c1, c2, c3, c4, c5, c6, c7, c8, c9, c10, c11, c12, c13, c14], _ => exact ⟨_, _, _, _, _, _, _, _, _, _, _, _, _, _, _, rfl⟩
    rw [show Try.prog.cellsOf 3 = 1 by kernel_rfl] at h0
    obtain ⟨x0, e0, w0⟩ := sh_i h0
    rw [show Try.prog.cellsOf 3 = 1 by kernel_rfl] at h1
    obtain ⟨x1, e1, w1⟩ := sh_i h1
    rw [show Try.prog.cellsOf 3 = 1 by kernel_rfl] at h2
    obtain ⟨x2, e2, w2⟩ := sh_i h2
    rw [show Try.prog.cellsOf 3 = 1 by kernel_rfl] at h3
    obtain ⟨x3, e3, w3⟩ := sh_i h3
    rw [show Try.prog.cellsOf 3 = 1 by kernel_rfl] at h4
    obtain ⟨x4, e4, w4⟩ := sh_i h4
    rw [show Try.prog.cellsOf 3 = 1 by kernel_rfl] at h5
    obtain ⟨x5, e5, w5⟩ := sh_i h5
    rw [show Try.prog.cellsOf 3 = 1 by kernel_rfl] at h6
    obtain ⟨x6, e6, w6⟩ := sh_i h6
    rw [show Try.prog.cellsOf 3 = 1 by kernel_rfl] at h7
    obtain ⟨x7, e7, w7⟩ := sh_i h7
    rw [show Try.prog.cellsOf 3 = 1 by kernel_rfl] at h8
    obtain ⟨x8, e8, w8⟩ := sh_i h8
    rw [show Try.prog.cellsOf 3 = 1 by kernel_rfl] at h9
    obtain ⟨x9, e9, w9⟩ := sh_i h9
    rw [show Try.prog.cellsOf 3 = 1 by kernel_rfl] at h10
    obtain ⟨x10, e10, w10⟩ := sh_i h10
    rw [show Try.prog.cellsOf 3 = 1 by kernel_rfl] at h11
    obtain ⟨x11, e11, w11⟩ := sh_i h11
    rw [show Try.prog.cellsOf 3 = 1 by kernel_rfl] at h12
    obtain ⟨x12, e12, w12⟩ := sh_i h12
    rw [show Try.prog.cellsOf 3 = 1 by kernel_rfl] at h13
    obtain ⟨x13, e13, w13⟩ := sh_i h13
    rw [show Try.prog.cellsOf 3 = 1 by kernel_rfl] at h14
    obtain ⟨x14, e14, w14⟩ := sh_i h14
    have e0' := e0
    have e1' := e1
    have e2' := e2
    have e3' := e3
    have e4' := e4
    have e5' := e5
    have e6' := e6
    have e7' := e7
    have e8' := e8
    have e9' := e9
    have e10' := e10
    have e11' := e11
    have e12' := e12
    have e13' := e13
    have e14' := e14
    refine ⟨⟨x0, x1, x2, x3, x4, x5, x6, x7, x8, x9, x10, x11, x12, x13, x14⟩, ?_, ⟨w0, w1, w2, w3, w4, w5, w6, w7, w8, w9, w10, w11, w12, w13, w14⟩⟩
    simp at e0 e1 e2 e3 e4 e5 e6 e7 e8 e9 e10 e11 e12 e13 e14
    simp [*]

def Group.wf (x : Group) : Prop := inS x.cur ∧ x.cal.wf ∧ (∀ y ∈ x.chart, y.wf) ∧ x.roles.wf ∧ (∀ y ∈ x.ents, y.wf)
theorem sh_Group {n : Nat} {ts : List T} (h : Sh Try.prog n 32 ts) : ∃ x : Group, ts = x.c ∧ x.wf := by
  cases n with
  | zero => exact h.elim
  | succ n =>
    have hc : Try.prog.cellsOf 32 = 21 := by kernel_rfl
    simp only [Sh, Try.underlying32, hc, List.forall_mem_cons, List.not_mem_nil, false_imp_iff, implies_true, and_true] at h
    obtain ⟨hl, h0, h1, h2, h3, h4⟩ := h
    obtain ⟨c0, c1, c2, c3, c4, c5, c6, c7, c8, c9, c10, c11, c12, c13, c14, c15, c16, c17, c18, c19, c20, rfl⟩ : ∃ c0 c1 c2 c3 c4 c5 c6 c7 c8 c9 c10 c11 c12 c13 c14 c15 c16 c17 c18 c19 c20, ts = [c0, c1, c2, c3, c4, c5, c6, c7, c8, c9, c10, c11, c12, c13, c14, c15, c16, c17, c18, c19, c20] := by
      match ts, hl with
      | [c0, c1, c2, c3, c4, c5, c6, c7, c8, c9, c10, c11, c12, c13, c14, c15, c16, c17, c18, c19, c20], _ => exact ⟨_, _, _, _, _, _, _, _, _, _, _, _, _, _, _, _, _, _, _, _, _, rfl⟩
    rw [show Try.prog.cellsOf 9 = 1 by kernel_rfl] at h0
    obtain ⟨x0, e0, w0⟩ := sh_s h0
    rw [show Try.prog.cellsOf 26 = 3 by kernel_rfl] at h1
    obtain ⟨x1, e1, w1⟩ := sh_Cal h1
    obtain ⟨x2, e2, w2⟩ := sh_l (by kernel_rfl) Account.c Account.wf (fun n ts h => sh_Account h) (by kernel_rfl) h2
    rw [show Try.prog.cellsOf 29 = 15 by kernel_rfl] at h3
    obtain ⟨x3, e3, w3⟩ := sh_Roles h3
    obtain ⟨x4, e4, w4⟩ := sh_l (by kernel_rfl) Ent.c Ent.wf (fun n ts h => sh_Ent h) (by kernel_rfl) h4
    have e0' := e0
    have e1' := e1
    have e2' := e2
    have e3' := e3
    have e4' := e4
    refine ⟨⟨x0, x1, x2, x3, x4⟩, ?_, ⟨w0, w1, w2, w3, w4⟩⟩
    simp at e0 e1 e2 e3 e4
    simp [*]

def Item.wf (x : Item) : Prop := (inI x.re ∧ inI x.rl) ∧ inI x.ent ∧ inI x.acc ∧ inI x.par ∧ inI x.date ∧ inI x.amt
theorem sh_Item {n : Nat} {ts : List T} (h : Sh Try.prog n 62 ts) : ∃ x : Item, ts = x.c ∧ x.wf := by
  cases n with
  | zero => exact h.elim
  | succ n =>
    have hc : Try.prog.cellsOf 62 = 7 := by kernel_rfl
    simp only [Sh, Try.underlying62, hc, List.forall_mem_cons, List.not_mem_nil, false_imp_iff, implies_true, and_true] at h
    obtain ⟨hl, h0, h1, h2, h3, h4, h5⟩ := h
    obtain ⟨c0, c1, c2, c3, c4, c5, c6, rfl⟩ : ∃ c0 c1 c2 c3 c4 c5 c6, ts = [c0, c1, c2, c3, c4, c5, c6] := by
      match ts, hl with
      | [c0, c1, c2, c3, c4, c5, c6], _ => exact ⟨_, _, _, _, _, _, _, rfl⟩
    rw [show Try.prog.cellsOf 60 = 2 by kernel_rfl] at h0
    obtain ⟨x0, e0, w0⟩ := sh_RefS h0
    rw [show Try.prog.cellsOf 3 = 1 by kernel_rfl] at h1
    obtain ⟨x1, e1, w1⟩ := sh_i h1
    rw [show Try.prog.cellsOf 3 = 1 by kernel_rfl] at h2
    obtain ⟨x2, e2, w2⟩ := sh_i h2
    rw [show Try.prog.cellsOf 3 = 1 by kernel_rfl] at h3
    obtain ⟨x3, e3, w3⟩ := sh_i h3
    rw [show Try.prog.cellsOf 3 = 1 by kernel_rfl] at h4
    obtain ⟨x4, e4, w4⟩ := sh_i h4
    rw [show Try.prog.cellsOf 3 = 1 by kernel_rfl] at h5
    obtain ⟨x5, e5, w5⟩ := sh_i h5
    have e0' := e0
    have e1' := e1
    have e2' := e2
    have e3' := e3
    have e4' := e4
    have e5' := e5
    refine ⟨⟨x0.re, x0.rl, x1, x2, x3, x4, x5⟩, ?_, ⟨w0, w1, w2, w3, w4, w5⟩⟩
    simp at e0 e1 e2 e3 e4 e5
    simp [*]

def Part.wf (x : Part) : Prop := inI x.acc ∧ inI x.amt
theorem sh_Part {n : Nat} {ts : List T} (h : Sh Try.prog n 76 ts) : ∃ x : Part, ts = x.c ∧ x.wf := by
  cases n with
  | zero => exact h.elim
  | succ n =>
    have hc : Try.prog.cellsOf 76 = 2 := by kernel_rfl
    simp only [Sh, Try.underlying76, hc, List.forall_mem_cons, List.not_mem_nil, false_imp_iff, implies_true, and_true] at h
    obtain ⟨hl, h0, h1⟩ := h
    obtain ⟨c0, c1, rfl⟩ : ∃ c0 c1, ts = [c0, c1] := by
      match ts, hl with
      | [c0, c1], _ => exact ⟨_, _, rfl⟩
    rw [show Try.prog.cellsOf 3 = 1 by kernel_rfl] at h0
    obtain ⟨x0, e0, w0⟩ := sh_i h0
    rw [show Try.prog.cellsOf 3 = 1 by kernel_rfl] at h1
    obtain ⟨x1, e1, w1⟩ := sh_i h1
    have e0' := e0
    have e1' := e1
    refine ⟨⟨x0, x1⟩, ?_, ⟨w0, w1⟩⟩
    simp at e0 e1
    simp [*]

def Posting.wf (x : Posting) : Prop := inI x.kind ∧ inI x.ent ∧ inI x.oth ∧ inI x.rule ∧ (∀ y ∈ x.parts, y.wf)
theorem sh_Posting {n : Nat} {ts : List T} (h : Sh Try.prog n 55 ts) : ∃ x : Posting, ts = x.c ∧ x.wf := by
  cases n with
  | zero => exact h.elim
  | succ n =>
    have hc : Try.prog.cellsOf 55 = 5 := by kernel_rfl
    simp only [Sh, Try.underlying55, hc, List.forall_mem_cons, List.not_mem_nil, false_imp_iff, implies_true, and_true] at h
    obtain ⟨hl, h0, h1, h2, h3, h4⟩ := h
    obtain ⟨c0, c1, c2, c3, c4, rfl⟩ : ∃ c0 c1 c2 c3 c4, ts = [c0, c1, c2, c3, c4] := by
      match ts, hl with
      | [c0, c1, c2, c3, c4], _ => exact ⟨_, _, _, _, _, rfl⟩
    rw [show Try.prog.cellsOf 3 = 1 by kernel_rfl] at h0
    obtain ⟨x0, e0, w0⟩ := sh_i h0
    rw [show Try.prog.cellsOf 3 = 1 by kernel_rfl] at h1
    obtain ⟨x1, e1, w1⟩ := sh_i h1
    rw [show Try.prog.cellsOf 3 = 1 by kernel_rfl] at h2
    obtain ⟨x2, e2, w2⟩ := sh_i h2
    rw [show Try.prog.cellsOf 3 = 1 by kernel_rfl] at h3
    obtain ⟨x3, e3, w3⟩ := sh_i h3
    obtain ⟨x4, e4, w4⟩ := sh_l (by kernel_rfl) Part.c Part.wf (fun n ts h => sh_Part h) (by kernel_rfl) h4
    have e0' := e0
    have e1' := e1
    have e2' := e2
    have e3' := e3
    have e4' := e4
    refine ⟨⟨x0, x1, x2, x3, x4⟩, ?_, ⟨w0, w1, w2, w3, w4⟩⟩
    simp at e0 e1 e2 e3 e4
    simp [*]

def Bal.wf (x : Bal) : Prop := inI x.acc ∧ inI x.amt
theorem sh_Bal {n : Nat} {ts : List T} (h : Sh Try.prog n 163 ts) : ∃ x : Bal, ts = x.c ∧ x.wf := by
  cases n with
  | zero => exact h.elim
  | succ n =>
    have hc : Try.prog.cellsOf 163 = 2 := by kernel_rfl
    simp only [Sh, Try.underlying163, hc, List.forall_mem_cons, List.not_mem_nil, false_imp_iff, implies_true, and_true] at h
    obtain ⟨hl, h0, h1⟩ := h
    obtain ⟨c0, c1, rfl⟩ : ∃ c0 c1, ts = [c0, c1] := by
      match ts, hl with
      | [c0, c1], _ => exact ⟨_, _, rfl⟩
    rw [show Try.prog.cellsOf 3 = 1 by kernel_rfl] at h0
    obtain ⟨x0, e0, w0⟩ := sh_i h0
    rw [show Try.prog.cellsOf 3 = 1 by kernel_rfl] at h1
    obtain ⟨x1, e1, w1⟩ := sh_i h1
    have e0' := e0
    have e1' := e1
    refine ⟨⟨x0, x1⟩, ?_, ⟨w0, w1⟩⟩
    simp at e0 e1
    simp [*]

def Res.wf (x : Res) : Prop := inI x.per ∧ (∀ y ∈ x.items, y.wf) ∧ (∀ y ∈ x.posts, y.wf) ∧ (∀ y ∈ x.tots, y.wf)
theorem sh_Res {n : Nat} {ts : List T} (h : Sh Try.prog n 37 ts) : ∃ x : Res, ts = x.c ∧ x.wf := by
  cases n with
  | zero => exact h.elim
  | succ n =>
    have hc : Try.prog.cellsOf 37 = 4 := by kernel_rfl
    simp only [Sh, Try.underlying37, hc, List.forall_mem_cons, List.not_mem_nil, false_imp_iff, implies_true, and_true] at h
    obtain ⟨hl, h0, h1, h2, h3⟩ := h
    obtain ⟨c0, c1, c2, c3, rfl⟩ : ∃ c0 c1 c2 c3, ts = [c0, c1, c2, c3] := by
      match ts, hl with
      | [c0, c1, c2, c3], _ => exact ⟨_, _, _, _, rfl⟩
    rw [show Try.prog.cellsOf 3 = 1 by kernel_rfl] at h0
    obtain ⟨x0, e0, w0⟩ := sh_i h0
    obtain ⟨x1, e1, w1⟩ := sh_l (by kernel_rfl) Item.c Item.wf (fun n ts h => sh_Item h) (by kernel_rfl) h1
    obtain ⟨x2, e2, w2⟩ := sh_l (by kernel_rfl) Posting.c Posting.wf (fun n ts h => sh_Posting h) (by kernel_rfl) h2
    obtain ⟨x3, e3, w3⟩ := sh_l (by kernel_rfl) Bal.c Bal.wf (fun n ts h => sh_Bal h) (by kernel_rfl) h3
    have e0' := e0
    have e1' := e1
    have e2' := e2
    have e3' := e3
    refine ⟨⟨x0, x1, x2, x3⟩, ?_, ⟨w0, w1, w2, w3⟩⟩
    simp at e0 e1 e2 e3
    simp [*]

end Go.Proofs.Ythfnaaeddlnckaa
