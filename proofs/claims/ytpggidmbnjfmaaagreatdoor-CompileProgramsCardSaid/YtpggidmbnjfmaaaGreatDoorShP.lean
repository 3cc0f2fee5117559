/- Readings of programs, expressions, names and accounts, as a statement has them. -/
import Derived.Test.YtpggidmbnjfmaaaGreatDoorTree
import Derived.Test.YtpggidmbnjfmaaaGreatDoorApi
import Derived.Test.YtpggidmbnjfmaaaGreatDoorSyd
import Derived.Test.YtpggidmbnjfmaaaGreatDoorProg
set_option linter.unusedSimpArgs false
set_option linter.unusedVariables false
set_option maxRecDepth 8000
namespace Go.Proofs.YtpggidmbnjfmaaaGreatDoor
open E

def inZ (x : Int) : Prop := -9223372036854775808 ≤ x ∧ x ≤ 9223372036854775807
def inL (s : List UInt8) : Prop := s.length ≤ 9223372036854775807
theorem sh_i {n : Nat} {ts : List T} (h : Sh Tryz.prog n 3 ts) : ∃ x, ts = [.int .i64 x] ∧ inZ x := by
 cases n with
 | zero => exact h.elim
 | succ n =>
  simp only [Sh, Tryz.underlying3] at h
  obtain ⟨x, rfl, hw⟩ := h
  refine ⟨x, rfl, ?_⟩
  simp [Lit.wf, IntKind.min, IntKind.max, IntKind.signed, IntKind.bits] at hw
  simp [inZ]; omega
theorem sh_s {n : Nat} {ts : List T} (h : Sh Tryz.prog n 9 ts) : ∃ s, ts = [.str s] ∧ inL s := by
 cases n with
 | zero => exact h.elim
 | succ n =>
  simp only [Sh, Tryz.underlying9] at h
  obtain ⟨s, rfl, hw⟩ := h
  exact ⟨s, rfl, by simpa [inL, maxLen] using hw⟩
theorem sh_b {n : Nat} {ts : List T} (h : Sh Tryz.prog n 4 ts) : ∃ b, ts = [.bool b] := by
 cases n with
 | zero => exact h.elim
 | succ n =>
  simp only [Sh, Tryz.underlying4] at h
  exact h
theorem sh_l {α : Type} {n : Nat} {t e : TypeId} {ts : List T} (hu : Tryz.prog.underlying t = some (.slice e)) (c : α → List T) (wf : α → Prop) (he : ∀ m, m < n → ∀ ts, Sh Tryz.prog m e ts → ∃ x, ts = c x ∧ wf x) (h : Sh Tryz.prog n t ts) : ∃ l : List α, ts = [.sl (l.map c)] ∧ ∀ x ∈ l, wf x := by
 cases n with
 | zero => exact h.elim
 | succ n =>
  simp only [Sh, hu] at h
  obtain ⟨es, hts, hes⟩ := h
  rw [hts]
  clear hts
  suffices hs : ∃ l : List α, es = l.map c ∧ ∀ x ∈ l, wf x by obtain ⟨l, rfl, hl⟩ := hs; exact ⟨l, rfl, hl⟩
  induction es with
  | nil => exact ⟨[], rfl, by simp⟩
  | cons r es ih =>
   obtain ⟨x, rfl, hx⟩ := he n (by omega) r (hes r (by simp))
   obtain ⟨l, rfl, hl⟩ := ih (fun r hr => hes r (by simp [hr]))
   exact ⟨x :: l, rfl, by simp; exact ⟨hx, hl⟩⟩

namespace Xp
mutual
def wf : Xp → Prop
 | .mk k v f t n xs => (inZ k ∧ inZ v ∧ inZ f ∧ inZ t ∧ inL n) ∧ wfs xs
def wfs : List Xp → Prop
 | [] => True
 | x :: ys => wf x ∧ wfs ys
end
theorem wfs_of {l : List Xp} (h : ∀ x ∈ l, wf x) : wfs l := by
 induction l with
 | nil => trivial
 | cons x l ih => exact ⟨h x (by simp), ih fun y hy => h y (by simp [hy])⟩
theorem wfs_mem : ∀ {l : List Xp}, wfs l → ∀ x ∈ l, wf x
 | [], _, x, h => by cases h
 | y :: l, h, x, hx => by
  rw [wfs] at h
  rcases List.mem_cons.1 hx with rfl | hx
  ·exact h.1
  ·exact wfs_mem h.2 x hx
theorem ok_of : ∀ {x : Xp}, x.wf → x.ok := by
 intro x
 refine Xp.ind (P := fun x => x.wf → x.ok) (fun k v f t n xs ih h => ?_) x
 rw [wf] at h
 rw [ok]
 refine ⟨by simpa [inL, maxLen] using h.1.2.2.2.2, ?_⟩
 have hm := wfs_mem h.2
 clear h
 induction xs with
 | nil => trivial
 | cons y ys ih2 => exact ⟨ih y (by simp) (hm y (by simp)), ih2 (fun a ha => ih a (by simp [ha])) (fun a ha => hm a (by simp [ha]))⟩
end Xp
def Stm.wf (s : Stm) : Prop := inZ s.kind ∧ inZ s.acc ∧ inL s.name ∧ s.ex.wf
def Rul.wf (r : Rul) : Prop := inL r.name ∧ inZ r.to ∧ ∀ s ∈ r.stmts, s.wf

theorem sh_Xp : ∀ (n : Nat) (ts : List T), Sh Tryz.prog n 69 ts → ∃ x : Xp, ts = x.c ∧ x.wf := by
 intro n
 induction n using Nat.strongRecOn with
 | ind n ih =>
  intro ts h
  cases n with
  | zero => exact h.elim
  | succ n =>
   have hc : Tryz.prog.cellsOf 69 = 6 := by kernel_rfl
   simp only [Sh, Tryz.underlying69, hc, List.forall_mem_cons, List.not_mem_nil, false_imp_iff, implies_true, and_true] at h
   obtain ⟨hl, h0, h1, h2, h3, h4, h5⟩ := h
   obtain ⟨c0, c1, c2, c3, c4, c5, rfl⟩ : ∃ c0 c1 c2 c3 c4 c5, ts = [c0, c1, c2, c3, c4, c5] := by
    match ts, hl with
    | [c0, c1, c2, c3, c4, c5], _ => exact ⟨_, _, _, _, _, _, rfl⟩
   rw [show Tryz.prog.cellsOf 3 = 1 by kernel_rfl] at h0 h1 h2 h3
   rw [show Tryz.prog.cellsOf 9 = 1 by kernel_rfl] at h4
   rw [show Tryz.prog.cellsOf 67 = 1 by kernel_rfl] at h5
   obtain ⟨x0, e0, w0⟩ := sh_i h0
   obtain ⟨x1, e1, w1⟩ := sh_i h1
   obtain ⟨x2, e2, w2⟩ := sh_i h2
   obtain ⟨x3, e3, w3⟩ := sh_i h3
   obtain ⟨x4, e4, w4⟩ := sh_s h4
   obtain ⟨x5, e5, w5⟩ := sh_l (by kernel_rfl) Xp.c Xp.wf (fun m hm ts h => ih m (by omega) ts h) h5
   refine ⟨.mk x0 x1 x2 x3 x4 x5, ?_, ⟨⟨w0, w1, w2, w3, w4⟩, Xp.wfs_of w5⟩⟩
   rw [Xp.c_mk]
   simp at e0 e1 e2 e3 e4 e5
   simp [*]
theorem sh_Stm (n : Nat) (ts : List T) (h : Sh Tryz.prog n 71 ts) : ∃ x : Stm, ts = x.c ∧ x.wf := by
 cases n with
 | zero => exact h.elim
 | succ n =>
  have hc : Tryz.prog.cellsOf 71 = 9 := by kernel_rfl
  simp only [Sh, Tryz.underlying71, hc, List.forall_mem_cons, List.not_mem_nil, false_imp_iff, implies_true, and_true] at h
  obtain ⟨hl, h0, h1, h2, h3⟩ := h
  obtain ⟨c0, c1, c2, r, rfl⟩ : ∃ c0 c1 c2 r, ts = c0 :: c1 :: c2 :: r := by
   match ts, hl with
   | c0 :: c1 :: c2 :: r, _ => exact ⟨_, _, _, _, rfl⟩
  rw [show Tryz.prog.cellsOf 3 = 1 by kernel_rfl] at h0 h1
  rw [show Tryz.prog.cellsOf 9 = 1 by kernel_rfl] at h2
  rw [show Tryz.prog.cellsOf 69 = 6 by kernel_rfl] at h3
  obtain ⟨x0, e0, w0⟩ := sh_i h0
  obtain ⟨x1, e1, w1⟩ := sh_i h1
  obtain ⟨x2, e2, w2⟩ := sh_s h2
  obtain ⟨x3, e3, w3⟩ := sh_Xp n _ h3
  refine ⟨⟨x0, x1, x2, x3⟩, ?_, ⟨w0, w1, w2, w3⟩⟩
  simp at e0 e1 e2 hl
  rw [List.take_of_length_le (by simp; omega)] at e3
  simp at e3
  simp [Stm.c, *]
theorem sh_Rul (n : Nat) (ts : List T) (h : Sh Tryz.prog n 66 ts) : ∃ x : Rul, ts = x.c ∧ x.wf := by
 cases n with
 | zero => exact h.elim
 | succ n =>
  have hc : Tryz.prog.cellsOf 66 = 4 := by kernel_rfl
  simp only [Sh, Tryz.underlying66, hc, List.forall_mem_cons, List.not_mem_nil, false_imp_iff, implies_true, and_true] at h
  obtain ⟨hl, h0, h1, h2, h3⟩ := h
  obtain ⟨c0, c1, c2, c3, rfl⟩ : ∃ c0 c1 c2 c3, ts = [c0, c1, c2, c3] := by
   match ts, hl with
   | [c0, c1, c2, c3], _ => exact ⟨_, _, _, _, rfl⟩
  rw [show Tryz.prog.cellsOf 9 = 1 by kernel_rfl] at h0
  rw [show Tryz.prog.cellsOf 4 = 1 by kernel_rfl] at h1
  rw [show Tryz.prog.cellsOf 64 = 1 by kernel_rfl] at h2
  rw [show Tryz.prog.cellsOf 3 = 1 by kernel_rfl] at h3
  obtain ⟨x0, e0, w0⟩ := sh_s h0
  obtain ⟨x1, e1⟩ := sh_b h1
  obtain ⟨x2, e2, w2⟩ := sh_l (by kernel_rfl) Stm.c Stm.wf (fun m hm ts h => sh_Stm m ts h) h2
  obtain ⟨x3, e3, w3⟩ := sh_i h3
  refine ⟨⟨x0, x1, x2, x3⟩, ?_, ⟨w0, w3, w2⟩⟩
  simp at e0 e1 e2 e3
  simp [Rul.c, *]
theorem sh_Prg (n : Nat) (ts : List T) (h : Sh Tryz.prog n 23 ts) : ∃ p : List Rul, ts = [.sl (p.map Rul.c)] ∧ ∀ r ∈ p, r.wf :=
 sh_l (by kernel_rfl) Rul.c Rul.wf (fun m hm ts h => sh_Rul m ts h) h
def Account.wf (x : Account) : Prop := inZ x.code ∧ inZ x.kind ∧ inZ x.basis ∧ inZ x.parent
theorem sh_Account (n : Nat) (ts : List T) (h : Sh Tryz.prog n 165 ts) : ∃ x : Account, ts = x.c ∧ x.wf := by
 cases n with
 | zero => exact h.elim
 | succ n =>
  have hc : Tryz.prog.cellsOf 165 = 4 := by kernel_rfl
  simp only [Sh, Tryz.underlying165, hc, List.forall_mem_cons, List.not_mem_nil, false_imp_iff, implies_true, and_true] at h
  obtain ⟨hl, h0, h1, h2, h3⟩ := h
  obtain ⟨c0, c1, c2, c3, rfl⟩ : ∃ c0 c1 c2 c3, ts = [c0, c1, c2, c3] := by
   match ts, hl with
   | [c0, c1, c2, c3], _ => exact ⟨_, _, _, _, rfl⟩
  rw [show Tryz.prog.cellsOf 3 = 1 by kernel_rfl] at h0 h1 h2 h3
  obtain ⟨x0, e0, w0⟩ := sh_i h0
  obtain ⟨x1, e1, w1⟩ := sh_i h1
  obtain ⟨x2, e2, w2⟩ := sh_i h2
  obtain ⟨x3, e3, w3⟩ := sh_i h3
  refine ⟨⟨x0, x1, x2, x3⟩, ?_, ⟨w0, w1, w2, w3⟩⟩
  simp at e0 e1 e2 e3
  simp [Account.c, *]
theorem sh_AL (n : Nat) (ts : List T) (h : Sh Tryz.prog n 24 ts) : ∃ l : List Account, ts = [.sl (l.map Account.c)] ∧ ∀ s ∈ l, s.wf :=
 sh_l (by kernel_rfl) Account.c Account.wf (fun m hm ts h => sh_Account m ts h) h
theorem argV_at {t : TypeId} {ts : List T} {x : T} (h : isAgg Tryz.prog t = false) (hx : ts = [x]) : argV Tryz.prog t ts = .t x := by
 subst hx
 rw [argV, h]; rfl
theorem arg_Prg {ts : List T} (h : ∃ n, Sh Tryz.prog n 23 ts) : ∃ p : List Rul, argV Tryz.prog 23 ts = Rul.l p ∧ ∀ r ∈ p, r.wf := by
 obtain ⟨n, h⟩ := h
 obtain ⟨x, e, w⟩ := sh_Prg n _ h
 exact ⟨x, argV_at (by kernel_rfl) e, w⟩
theorem arg_AL {ts : List T} (h : ∃ n, Sh Tryz.prog n 24 ts) : ∃ l : List Account, argV Tryz.prog 24 ts = Account.l l ∧ ∀ s ∈ l, s.wf := by
 obtain ⟨n, h⟩ := h
 obtain ⟨x, e, w⟩ := sh_AL n _ h
 exact ⟨x, argV_at (by kernel_rfl) e, w⟩
end Go.Proofs.YtpggidmbnjfmaaaGreatDoor
