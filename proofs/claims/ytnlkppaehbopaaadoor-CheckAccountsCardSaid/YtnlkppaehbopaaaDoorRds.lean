/- Chapter 33: which accounts a program reads: both Reads. -/
import Derived.Test.YtnlkppaehbopaaaDoorIdr
import Derived.Test.YtnlkppaehbopaaaDoorExp
set_option linter.unusedSimpArgs false
set_option linter.unusedVariables false
set_option maxHeartbeats 4000000
set_option maxRecDepth 8000
namespace Go.Proofs.YtnlkppaehbopaaaDoor
open E

def rdO (k f t n : Int) : Bool := (k == 21 || k == 22) && decide (f ≤ n) && decide (n ≤ t)
namespace Xp
mutual
/-- Whether an account lies in a range of an expression. -/
def rd (n : Int) : Xp → Bool
  | .mk k _ f t _ xs => rdO k f t n || rds n xs
def rds (n : Int) : List Xp → Bool
  | [] => false
  | x :: xs => rd n x || rds n xs
end
theorem rds_any (n : Int) (l : List Xp) : rds n l = l.any (rd n) := by
  induction l with
  | nil => rfl
  | cons x l ih => rw [rds, ih]; rfl
end Xp
/-- Boxes that name no others than those there are. -/
def OkB (B : List Bx) : Prop := ∀ n m, B.length ≤ n → LeBs n m B B
theorem okS_of {B : List Bx} (h : OkB B) : OkS ⟨B, []⟩ := ⟨h _ _ (Nat.le_refl _), trivial⟩
theorem OkB.more {B : List Bx} (h : OkB B) (l : List Bx) (hl : ∀ n m, B.length + l.length ≤ n → LeBs n m l l) : OkB (B ++ l) := fun n m hn => by
  rw [List.length_append] at hn
  exact (LeBs.app' (h n m (by omega))).2 (hl n m hn)
theorem app_lt {B : List Bx} {b : Nat} {x : Bx} (h : B[b]? = some x) (l : List Bx) : (B ++ l)[b]? = some x := by
  rw [List.getElem?_append_left (List.getElem?_eq_some_iff.1 h).1]; exact h

theorem w_rd1 (b : Nat) (n : Int) (x : Xp) (B : List Bx) (hb : B[b]? = some (.cells [vI n])) (hB : OkB B) (h : Pure Tryd.prog 40 [x.v, vI n] (vB (x.rd n))) :
    FnS Tryd.prog 64 [x.v, .ptr b 0] ⟨B, []⟩ (vB (x.rd n)) ⟨B, []⟩ := by
  have hg := app_lt hb
  have hg0 := get0 B
  have hle := fun l l' n m h => LeBs.app' (l := l) (l' := l') (hB n m h)
  have hdr := fun l n m h => LeBs.drop' (n := n) (m := m) l (hB n m h)
  have hbl := (List.getElem?_eq_some_iff.1 hb).1
  generalize x.rd n = r at *
  have hlc := len_c x
  have htc := take_c x
  (refine FnS.of_code mix Tryd.call64 k_64 (by simp) (fun hB => ?_); (try simp at hB); (try simp -implicitDefEqProofs [c_check_readsS1_64]))
  ((try simp at h); (try simp -implicitDefEqProofs [hg, hg0, hle, hdr, hlc, htc]); repeat' first | ((first | with_reducible refine gdK_em (fun hc => ?_) (fun hc => ?_) | with_reducible refine cdK_em (fun hc => ?_) (fun hc => ?_) | with_reducible refine pickK_em (fun hc => ?_) (fun hc => ?_)) <;> (have hc' := hc; (try simp at hc'); simp -implicitDefEqProofs [hc, hc', hg, hg0, hle, hdr, hlc, htc])) | (with_reducible apply callK_pure <;> first | (simp only [eras, era, eras_map]; first | with_reducible exact h | simpa using h) | (simp -implicitDefEqProofs [hg, hg0, hle, hdr, hlc, htc])))
theorem w_reads (n : Int) : ∀ (x : Xp), Pure Tryd.prog 40 [x.v, vI n] (vB (x.rd n)) := by
  refine Xp.ind fun kd vl fr to nm xs ih => ?_
  have hB : OkB [.cells ((Xp.mk kd vl fr to nm xs).c.map V.t), .cells [vI n]] := fun n m _ => ⟨⟨LeL_refl _, okNs_all (fun v hv => by obtain ⟨t, _, rfl⟩ := List.mem_map.1 hv; rfl)⟩, ⟨LeL_refl _, rfl⟩, trivial⟩
  have hcon := w_ConX ⟨_, []⟩ (okS_of hB) xs 64 [.ptr 1 0] rfl (Xp.rd n) (fun x hx => w_rd1 1 n x _ rfl hB (ih x hx))
  rw [Xp.rd, Xp.rds_any]
  generalize xs.any (Xp.rd n) = anyb at *
  rw [Xp.v]
  simp only [Xp.c_mk, List.map_cons, List.map_nil] at hcon ⊢
  unfold rdO
  by_cases hk : (kd == 21 || kd == 22) = true
  · rw [hk]
    have hk' : kd = 21 ∨ kd = 22 := by simpa using hk
    by_cases h1 : fr ≤ n
    · by_cases h2 : n ≤ to
      · have e1 : decide (fr ≤ n) = true := by simpa using h1
        have e2 : decide (n ≤ to) = true := by simpa using h2
        rw [e1, e2]
        rcases hk' with rfl | rfl
        all_goals
          (refine Pure.of_code mix Tryd.call40 k_40 (by simp) (fun hB => ?_); (try simp at hB); (try simp -implicitDefEqProofs [c_check_reads_40]))
          ((try simp -implicitDefEqProofs [h1, h2, e1, e2]); repeat' first | ((first | with_reducible refine gdK_em (fun hc => ?_) (fun hc => ?_) | with_reducible refine cdK_em (fun hc => ?_) (fun hc => ?_) | with_reducible refine pickK_em (fun hc => ?_) (fun hc => ?_)) <;> (have hc' := hc; (try simp at hc'); simp -implicitDefEqProofs [hc, hc', h1, h2, e1, e2])))
      · have e1 : decide (fr ≤ n) = true := by simpa using h1
        have e2 : decide (n ≤ to) = false := by simpa using h2
        rw [e1, e2]
        rcases hk' with rfl | rfl
        all_goals
          (refine Pure.of_code mix Tryd.call40 k_40 (by simp) (fun hB => ?_); (try simp at hB); (try simp -implicitDefEqProofs [c_check_reads_40]))
          ((try simp -implicitDefEqProofs [h1, h2, e1, e2]); repeat' first | ((first | with_reducible refine gdK_em (fun hc => ?_) (fun hc => ?_) | with_reducible refine cdK_em (fun hc => ?_) (fun hc => ?_) | with_reducible refine pickK_em (fun hc => ?_) (fun hc => ?_)) <;> (have hc' := hc; (try simp at hc'); simp -implicitDefEqProofs [hc, hc', h1, h2, e1, e2])))
          refine callK_fn hcon (fun hd => by cases hd) ?_
          ((try simp -implicitDefEqProofs); repeat' first | ((first | with_reducible refine gdK_em (fun hc => ?_) (fun hc => ?_) | with_reducible refine cdK_em (fun hc => ?_) (fun hc => ?_) | with_reducible refine pickK_em (fun hc => ?_) (fun hc => ?_)) <;> (have hc' := hc; (try simp at hc'); simp -implicitDefEqProofs [hc, hc'])))
    · have e1 : decide (fr ≤ n) = false := by simpa using h1
      rw [e1]
      rcases hk' with rfl | rfl
      all_goals
        (refine Pure.of_code mix Tryd.call40 k_40 (by simp) (fun hB => ?_); (try simp at hB); (try simp -implicitDefEqProofs [c_check_reads_40]))
        ((try simp -implicitDefEqProofs [h1, e1]); repeat' first | ((first | with_reducible refine gdK_em (fun hc => ?_) (fun hc => ?_) | with_reducible refine cdK_em (fun hc => ?_) (fun hc => ?_) | with_reducible refine pickK_em (fun hc => ?_) (fun hc => ?_)) <;> (have hc' := hc; (try simp at hc'); simp -implicitDefEqProofs [hc, hc', h1, e1])))
        refine callK_fn hcon (fun hd => by cases hd) ?_
        ((try simp -implicitDefEqProofs); repeat' first | ((first | with_reducible refine gdK_em (fun hc => ?_) (fun hc => ?_) | with_reducible refine cdK_em (fun hc => ?_) (fun hc => ?_) | with_reducible refine pickK_em (fun hc => ?_) (fun hc => ?_)) <;> (have hc' := hc; (try simp at hc'); simp -implicitDefEqProofs [hc, hc'])))
  · rw [Bool.not_eq_true] at hk
    rw [hk]
    have hk' : (kd == 21) = false ∧ (kd == 22) = false := by simpa using hk
    obtain ⟨k1, k2⟩ := hk'
    (refine Pure.of_code mix Tryd.call40 k_40 (by simp) (fun hB => ?_); (try simp at hB); (try simp -implicitDefEqProofs [c_check_reads_40]))
    ((try simp -implicitDefEqProofs [k1, k2]); repeat' first | ((first | with_reducible refine gdK_em (fun hc => ?_) (fun hc => ?_) | with_reducible refine cdK_em (fun hc => ?_) (fun hc => ?_) | with_reducible refine pickK_em (fun hc => ?_) (fun hc => ?_)) <;> (have hc' := hc; (try simp at hc'); simp -implicitDefEqProofs [hc, hc', k1, k2])))
    refine callK_fn hcon (fun hd => by cases hd) ?_
    ((try simp -implicitDefEqProofs); repeat' first | ((first | with_reducible refine gdK_em (fun hc => ?_) (fun hc => ?_) | with_reducible refine cdK_em (fun hc => ?_) (fun hc => ?_) | with_reducible refine pickK_em (fun hc => ?_) (fun hc => ?_)) <;> (have hc' := hc; (try simp at hc'); simp -implicitDefEqProofs [hc, hc'])))
def rdS (n : Int) (s : Stm) : Bool := s.ex.rd n
def rdR (n : Int) (r : Rul) : Bool := r.stmts.any (rdS n)
def rdP (n : Int) (p : List Rul) : Bool := p.any (rdR n)
theorem w_rd2 (b : Nat) (n : Int) (s : Stm) (B : List Bx) (hb : B[b]? = some (.cells [vI n])) (hB : OkB B) :
    FnS Tryd.prog 39 [s.v, .ptr b 0] ⟨B, []⟩ (vB (rdS n s)) ⟨B, []⟩ := by
  have h := w_reads n s.ex
  unfold rdS
  obtain ⟨kd, acc, nm, x⟩ := s
  have hg := app_lt hb
  have hg0 := get0 B
  have hle := fun l l' n m h => LeBs.app' (l := l) (l' := l') (hB n m h)
  have hdr := fun l n m h => LeBs.drop' (n := n) (m := m) l (hB n m h)
  have hbl := (List.getElem?_eq_some_iff.1 hb).1
  simp only [] at h ⊢
  generalize x.rd n = r at *
  have hcc : Stm.c ⟨kd, acc, nm, x⟩ = .int .i64 kd :: .int .i64 acc :: .str nm :: x.c := rfl
  have hlc := len_c x
  have htc := take_c x
  (refine FnS.of_code mix Tryd.call39 k_39 (by simp) (fun hB => ?_); (try simp at hB); (try simp -implicitDefEqProofs [c_check_ReadsS1S1_39]))
  ((try simp at h); (try simp -implicitDefEqProofs [hg, hg0, hle, hdr, hcc, hlc, htc]); repeat' first | ((first | with_reducible refine gdK_em (fun hc => ?_) (fun hc => ?_) | with_reducible refine cdK_em (fun hc => ?_) (fun hc => ?_) | with_reducible refine pickK_em (fun hc => ?_) (fun hc => ?_)) <;> (have hc' := hc; (try simp at hc'); simp -implicitDefEqProofs [hc, hc', hg, hg0, hle, hdr, hcc, hlc, htc])) | (with_reducible apply callK_pure <;> first | (simp only [eras, era, eras_map]; first | with_reducible exact h | simpa using h) | (simp -implicitDefEqProofs [hg, hg0, hle, hdr, hcc, hlc, htc])))
theorem w_rd3 (b : Nat) (n : Int) (r : Rul) (B : List Bx) (hb : B[b]? = some (.cells [vI n])) (hB : OkB B) :
    FnS Tryd.prog 37 [r.v, .ptr b 0] ⟨B, []⟩ (vB (rdR n r)) ⟨B, []⟩ := by
  obtain ⟨nm, pr, ss, to⟩ := r
  unfold rdR
  simp only []
  have hB2 : OkB (B ++ [.cells [vS nm, vB pr, Stm.l ss, vI to]]) := hB.more _ (fun n m _ => ⟨⟨LeL_refl _, rfl⟩, trivial⟩)
  have hbl := (List.getElem?_eq_some_iff.1 hb).1
  have hcon := w_ConS ⟨_, []⟩ (okS_of hB2) ss 39 [.ptr b 0] (by simp [okNs, okN]; omega) (rdS n) (fun s hs => w_rd2 b n s _ (app_lt hb _) hB2)
  generalize ss.any (rdS n) = anyb at *
  have hg := app_lt hb
  have hg0 := get0 B
  have hle := fun l l' n m h => LeBs.app' (l := l) (l' := l') (hB n m h)
  have hdr := fun l n m h => LeBs.drop' (n := n) (m := m) l (hB n m h)
  have hrc : Rul.c ⟨nm, pr, ss, to⟩ = [T.str nm, T.bool pr, T.sl (ss.map Stm.c), T.int .i64 to] := rfl
  (refine FnS.of_code mix Tryd.call37 k_37 (by simp) (fun hB => ?_); (try simp at hB); (try simp -implicitDefEqProofs [c_check_ReadsS1_37]))
  ((try simp -implicitDefEqProofs [hg, hg0, hle, hdr, hrc]); repeat' first | ((first | with_reducible refine gdK_em (fun hc => ?_) (fun hc => ?_) | with_reducible refine cdK_em (fun hc => ?_) (fun hc => ?_) | with_reducible refine pickK_em (fun hc => ?_) (fun hc => ?_)) <;> (have hc' := hc; (try simp at hc'); simp -implicitDefEqProofs [hc, hc', hg, hg0, hle, hdr, hrc])))
  refine callK_fn hcon (fun hd => by cases hd) ?_
  ((try simp -implicitDefEqProofs [hg, hg0, hle, hdr, hrc]); repeat' first | ((first | with_reducible refine gdK_em (fun hc => ?_) (fun hc => ?_) | with_reducible refine cdK_em (fun hc => ?_) (fun hc => ?_) | with_reducible refine pickK_em (fun hc => ?_) (fun hc => ?_)) <;> (have hc' := hc; (try simp at hc'); simp -implicitDefEqProofs [hc, hc', hg, hg0, hle, hdr, hrc])))
theorem w_Reads (p : List Rul) (n : Int) : Pure Tryd.prog 18 [Rul.l p, vI n] (vB (rdP n p)) := by
  have hB : OkB [.cells [vI n]] := fun n m _ => ⟨⟨LeL_refl _, rfl⟩, trivial⟩
  have hcon := w_ConR ⟨_, []⟩ (okS_of hB) p 37 [.ptr 0 0] rfl (rdR n) (fun r hr => w_rd3 0 n r _ rfl hB)
  unfold rdP
  generalize p.any (rdR n) = anyb at *
  (refine Pure.of_code mix Tryd.call18 k_18 (by simp) (fun hB => ?_); (try simp at hB); (try simp -implicitDefEqProofs [c_check_Reads_18]))
  ((try simp -implicitDefEqProofs); repeat' first | ((first | with_reducible refine gdK_em (fun hc => ?_) (fun hc => ?_) | with_reducible refine cdK_em (fun hc => ?_) (fun hc => ?_) | with_reducible refine pickK_em (fun hc => ?_) (fun hc => ?_)) <;> (have hc' := hc; (try simp at hc'); simp -implicitDefEqProofs [hc, hc'])))
  refine callK_fn hcon (fun hd => by cases hd) ?_
  ((try simp -implicitDefEqProofs); repeat' first | ((first | with_reducible refine gdK_em (fun hc => ?_) (fun hc => ?_) | with_reducible refine cdK_em (fun hc => ?_) (fun hc => ?_) | with_reducible refine pickK_em (fun hc => ?_) (fun hc => ?_)) <;> (have hc' := hc; (try simp at hc'); simp -implicitDefEqProofs [hc, hc'])))
/-! ### The reference's -/
theorem w_rreads (n : Int) : ∀ (x : Xp), Pure Tryd.prog 41 [x.v, vI n] (vB (x.rd n)) := by
  refine Xp.ind fun kd vl fr to nm xs ih => ?_
  rw [Xp.rd, Xp.rds_any]
  rw [Xp.v, Xp.c_mk]
  generalize hO : rdO kd fr to n = o
  unfold rdO at hO
  generalize hR : (o || xs.any (Xp.rd n)) = R
  have loop : ∀ (b21 b22 c1 c2 : Bool), (kd == 21) = b21 → (kd == 22) = b22 → decide (fr ≤ n) = c1 → decide (n ≤ to) = c2 → Pure Tryd.prog 41 [.agg ([T.int .i64 kd, .int .i64 vl, .int .i64 fr, .int .i64 to, .str nm, .sl (xs.map Xp.c)].map V.t), vI n] (vB R) := by
    intro b21 b22 c1 c2 h21 h22 hc1 hc2
    rw [h21, h22, hc1, hc2] at hO
    subst hO
    by_cases ho : ((b21 || b22) && c1 && c2) = true
    · rw [ho, Bool.true_or] at hR
      subst hR
      (refine Pure.of_code mix Tryd.call41 k_41 (by simp) (fun hB => ?_); (try simp at hB); (try simp -implicitDefEqProofs [c_tallystoneref33_reads_41]))
      cases b21
      · cases b22
        · simp at ho
        · cases c1
          · simp at ho
          · cases c2
            · simp at ho
            · ((try simp -implicitDefEqProofs [h21, h22, hc1, hc2]); repeat' first | ((first | with_reducible refine gdK_em (fun hc => ?_) (fun hc => ?_) | with_reducible refine cdK_em (fun hc => ?_) (fun hc => ?_) | with_reducible refine pickK_em (fun hc => ?_) (fun hc => ?_)) <;> (have hc' := hc; (try simp at hc'); simp -implicitDefEqProofs [hc, hc', h21, h22, hc1, hc2])))
      · cases c1
        · simp at ho
        · cases c2
          · simp at ho
          · ((try simp -implicitDefEqProofs [h21, h22, hc1, hc2]); repeat' first | ((first | with_reducible refine gdK_em (fun hc => ?_) (fun hc => ?_) | with_reducible refine cdK_em (fun hc => ?_) (fun hc => ?_) | with_reducible refine pickK_em (fun hc => ?_) (fun hc => ?_)) <;> (have hc' := hc; (try simp at hc'); simp -implicitDefEqProofs [hc, hc', h21, h22, hc1, hc2])))
    · rw [Bool.not_eq_true] at ho
      rw [ho, Bool.false_or] at hR
      (refine Pure.of_code mix Tryd.call41 k_41 (by simp) (fun hB => ?_); (try simp at hB); (try simp -implicitDefEqProofs [c_tallystoneref33_reads_41]))
      have fin : True := trivial
      cases b21 <;> cases b22 <;> cases c1 <;> cases c2 <;> first
        | (exfalso; revert ho; decide)
        | skip
      all_goals
        ((try simp -implicitDefEqProofs [h21, h22, hc1, hc2]); repeat' first | ((first | with_reducible refine gdK_em (fun hc => ?_) (fun hc => ?_) | with_reducible refine cdK_em (fun hc => ?_) (fun hc => ?_) | with_reducible refine pickK_em (fun hc => ?_) (fun hc => ?_)) <;> (have hc' := hc; (try simp at hc'); simp -implicitDefEqProofs [hc, hc', h21, h22, hc1, hc2])))
        refine loop_rule (X := Nat) (fun k => k ≤ xs.length ∧ (xs.drop k).any (Xp.rd n) = R) (fun k => [(1, vI n), (2, .ptr 0 0), (5, vI k)]) (fun _ => ⟨[.cells [vI kd, vI vl, vI fr, vI to, vS nm, Xp.l xs]], []⟩) (fun k => xs.length - k) 0 ⟨by simp, by simpa using hR⟩ (by simp) ?_
        rintro k ⟨hk, hi⟩ hbd
        clear hbd
        rcases Nat.lt_or_ge k xs.length with h | h
        · have hx : xs[k]? = some xs[k] := by simp [h]
          have hrec := ih xs[k] (List.getElem_mem h)
          have e3 : IntKind.i64.wrap ((k : Int) + 1) = (k : Int) + 1 := wrap64 (by omega) (by simp [maxLen] at hB; omega)
          have hlc := len_c xs[k]
          have htc := take_c xs[k]
          rw [List.drop_eq_getElem_cons h, List.any_cons] at hi
          generalize Xp.rd n xs[k] = b at *
          cases b
          · rw [Bool.false_or] at hi
            ((try simp at hrec); (try simp -implicitDefEqProofs [h, e3, hlc, htc]); repeat' first | ((first | with_reducible refine gdK_em (fun hc => ?_) (fun hc => ?_) | with_reducible refine cdK_em (fun hc => ?_) (fun hc => ?_) | with_reducible refine pickK_em (fun hc => ?_) (fun hc => ?_)) <;> (have hc' := hc; (try simp at hc'); simp -implicitDefEqProofs [hc, hc', h, e3, hlc, htc])) | (with_reducible apply callK_pure <;> first | (simp only [eras, era, eras_map]; first | with_reducible exact hrec | simpa using hrec) | (simp -implicitDefEqProofs [h, e3, hlc, htc])))
            exact ⟨k + 1, ⟨by omega, hi⟩, by omega, by push_cast; rfl⟩
          · rw [Bool.true_or] at hi
            subst hi
            ((try simp at hrec); (try simp -implicitDefEqProofs [h, e3, hlc, htc]); repeat' first | ((first | with_reducible refine gdK_em (fun hc => ?_) (fun hc => ?_) | with_reducible refine cdK_em (fun hc => ?_) (fun hc => ?_) | with_reducible refine pickK_em (fun hc => ?_) (fun hc => ?_)) <;> (have hc' := hc; (try simp at hc'); simp -implicitDefEqProofs [hc, hc', h, e3, hlc, htc])) | (with_reducible apply callK_pure <;> first | (simp only [eras, era, eras_map]; first | with_reducible exact hrec | simpa using hrec) | (simp -implicitDefEqProofs [h, e3, hlc, htc])))
        · have : k = xs.length := by omega
          subst this
          rw [List.drop_length] at hi
          simp at hi
          subst hi
          ((try simp -implicitDefEqProofs); repeat' first | ((first | with_reducible refine gdK_em (fun hc => ?_) (fun hc => ?_) | with_reducible refine cdK_em (fun hc => ?_) (fun hc => ?_) | with_reducible refine pickK_em (fun hc => ?_) (fun hc => ?_)) <;> (have hc' := hc; (try simp at hc'); simp -implicitDefEqProofs [hc, hc'])))
  exact loop _ _ _ _ rfl rfl rfl rfl
theorem w_rReads (p : List Rul) (n : Int) (hp : p.length ≤ 1000) (hss : ∀ r ∈ p, r.stmts.length ≤ 1000) : Pure Tryd.prog 19 [Rul.l p, vI n] (vB (rdP n p)) := by
  generalize hR : rdP n p = R
  unfold rdP at hR
  (refine Pure.of_code mix Tryd.call19 k_19 (by simp) (fun hB => ?_); (try simp at hB); (try simp -implicitDefEqProofs [c_tallystoneref33_Reads_19]))
  refine loop_rule (X := Nat) (fun i => i ≤ p.length ∧ (p.drop i).any (rdR n) = R) (fun i => [(0, Rul.l p), (1, vI n), (5, vI i)]) (fun _ => ⟨[], []⟩) (fun i => p.length - i) 0 ⟨by simp, by simpa using hR⟩ (by simp) ?_
  rintro i ⟨hi, hd⟩ hbd
  clear hbd
  rcases Nat.lt_or_ge i p.length with h | h
  · have hx : p[i]? = some p[i] := by simp [h]
    have e3 : IntKind.i64.wrap ((i : Int) + 1) = (i : Int) + 1 := wrap64 (by omega) (by omega)
    have hsl := hss _ (List.getElem_mem h)
    rw [List.drop_eq_getElem_cons h, List.any_cons] at hd
    obtain ⟨nm, pr, ss, to, hr⟩ : ∃ nm pr ss to, p[i] = ⟨nm, pr, ss, to⟩ := ⟨_, _, _, _, rfl⟩
    have hrk : (p.map Rul.c)[i]? = some [.str nm, .bool pr, .sl (ss.map Stm.c), .int .i64 to] := by simp [h, hr, Rul.c]
    have hcc : p[i].c = [.str nm, .bool pr, .sl (ss.map Stm.c), .int .i64 to] := by rw [hr]; rfl
    rw [hr] at hsl hd
    unfold rdR at hd
    simp only [] at hsl hd
    have hd2 : (ss.any (rdS n) || (p.drop (i + 1)).any (rdR n)) = R := hd
    ((try simp -implicitDefEqProofs [h, hrk, hcc]); repeat' first | ((first | with_reducible refine gdK_em (fun hc => ?_) (fun hc => ?_) | with_reducible refine cdK_em (fun hc => ?_) (fun hc => ?_) | with_reducible refine pickK_em (fun hc => ?_) (fun hc => ?_)) <;> (have hc' := hc; (try simp at hc'); simp -implicitDefEqProofs [hc, hc', h, hrk, hcc])))
    refine loop_rule (X := Nat) (fun k => k ≤ ss.length ∧ ((ss.drop k).any (rdS n) || (p.drop (i + 1)).any (rdR n)) = R) (fun k => [(0, Rul.l p), (1, vI n), (5, vI i), (6, vI k)]) (fun _ => ⟨[], []⟩) (fun k => ss.length - k) 0 ⟨by simp, by simpa using hd2⟩ (by simp) ?_
    rintro k ⟨hk, hi2⟩ hbd
    clear hbd
    rcases Nat.lt_or_ge k ss.length with g | g
    · have e4 : IntKind.i64.wrap ((k : Int) + 1) = (k : Int) + 1 := wrap64 (by omega) (by omega)
      rw [List.drop_eq_getElem_cons g, List.any_cons] at hi2
      obtain ⟨kd, acc, sn, x, hs⟩ : ∃ kd acc sn x, ss[k] = ⟨kd, acc, sn, x⟩ := ⟨_, _, _, _, rfl⟩
      have hsk : (ss.map Stm.c)[k]? = some (.int .i64 kd :: .int .i64 acc :: .str sn :: x.c) := by simp [g, hs, Stm.c]
      have hc2 : Stm.c ⟨kd, acc, sn, x⟩ = (.int .i64 kd :: .int .i64 acc :: .str sn :: x.c) := rfl
      have hlc := len_c x
      have htc := take_c x
      have hrec := w_rreads n x
      rw [hs] at hi2
      have hrs : rdS n ⟨kd, acc, sn, x⟩ = x.rd n := rfl
      rw [hrs] at hi2
      generalize x.rd n = b at *
      cases b
      · rw [Bool.false_or] at hi2
        ((try simp at hrec); (try simp -implicitDefEqProofs [h, hrk, hcc, g, hs, hsk, hc2, hlc, htc, e4]); repeat' first | ((first | with_reducible refine gdK_em (fun hc => ?_) (fun hc => ?_) | with_reducible refine cdK_em (fun hc => ?_) (fun hc => ?_) | with_reducible refine pickK_em (fun hc => ?_) (fun hc => ?_)) <;> (have hc' := hc; (try simp at hc'); simp -implicitDefEqProofs [hc, hc', h, hrk, hcc, g, hs, hsk, hc2, hlc, htc, e4])) | (with_reducible apply callK_pure <;> first | (simp only [eras, era, eras_map]; first | with_reducible exact hrec | simpa using hrec) | (simp -implicitDefEqProofs [h, hrk, hcc, g, hs, hsk, hc2, hlc, htc, e4])))
        exact ⟨k + 1, ⟨by omega, hi2⟩, by omega, by push_cast; rfl⟩
      · rw [Bool.true_or, Bool.true_or] at hi2
        subst hi2
        ((try simp at hrec); (try simp -implicitDefEqProofs [h, hrk, hcc, g, hs, hsk, hc2, hlc, htc, e4]); repeat' first | ((first | with_reducible refine gdK_em (fun hc => ?_) (fun hc => ?_) | with_reducible refine cdK_em (fun hc => ?_) (fun hc => ?_) | with_reducible refine pickK_em (fun hc => ?_) (fun hc => ?_)) <;> (have hc' := hc; (try simp at hc'); simp -implicitDefEqProofs [hc, hc', h, hrk, hcc, g, hs, hsk, hc2, hlc, htc, e4])) | (with_reducible apply callK_pure <;> first | (simp only [eras, era, eras_map]; first | with_reducible exact hrec | simpa using hrec) | (simp -implicitDefEqProofs [h, hrk, hcc, g, hs, hsk, hc2, hlc, htc, e4])))
    · have : k = ss.length := by omega
      subst this
      rw [List.drop_length, List.any_nil, Bool.false_or] at hi2
      ((try simp -implicitDefEqProofs [h, hrk, hcc, e3]); repeat' first | ((first | with_reducible refine gdK_em (fun hc => ?_) (fun hc => ?_) | with_reducible refine cdK_em (fun hc => ?_) (fun hc => ?_) | with_reducible refine pickK_em (fun hc => ?_) (fun hc => ?_)) <;> (have hc' := hc; (try simp at hc'); simp -implicitDefEqProofs [hc, hc', h, hrk, hcc, e3])))
      exact ⟨i + 1, ⟨by omega, hi2⟩, by omega, by push_cast; rfl⟩
  · have : i = p.length := by omega
    subst this
    rw [List.drop_length] at hd
    simp at hd
    subst hd
    ((try simp -implicitDefEqProofs); repeat' first | ((first | with_reducible refine gdK_em (fun hc => ?_) (fun hc => ?_) | with_reducible refine cdK_em (fun hc => ?_) (fun hc => ?_) | with_reducible refine pickK_em (fun hc => ?_) (fun hc => ?_)) <;> (have hc' := hc; (try simp at hc'); simp -implicitDefEqProofs [hc, hc'])))
end Go.Proofs.YtnlkppaehbopaaaDoor
