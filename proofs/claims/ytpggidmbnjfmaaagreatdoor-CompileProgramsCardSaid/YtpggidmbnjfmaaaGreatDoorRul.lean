/- Chapter 33: the checker's statements and rules. -/
import Derived.Test.YtpggidmbnjfmaaaGreatDoorTyp
import Derived.Test.YtpggidmbnjfmaaaGreatDoorPrg
import Derived.Test.YtpggidmbnjfmaaaGreatDoorSyf
section
set_option linter.unusedSimpArgs false
set_option linter.unusedVariables false
set_option maxHeartbeats 4000000
set_option maxRecDepth 8000
namespace Go.Proofs.YtpggidmbnjfmaaaGreatDoor
open E

theorem w_acct (b : Nat) (M : List (List UInt8)) (pair : Bool) (code : Int) (l : List Account) (B : List Bx) (hB : Hlds b M B) :
  (knownB l code = true → FnS Tryz.prog 91 [vC b pair, vI code, Account.l l] ⟨B, []⟩ (.tup []) ⟨B, []⟩) ∧
  (knownB l code = false → FnP Tryz.prog 91 [vC b pair, vI code, Account.l l] ⟨B, []⟩ (mistV 8) ⟨B, []⟩) := by
 have hg := hB.app
 have hg0 := get0 B
 have hg1 := get1 B
 have hle := fun l l' n m h => LeBs.app' (l := l) (l' := l') (hB.le n m h)
 have hdr := fun l n m h => LeBs.drop' (n := n) (m := m) l (hB.le n m h)
 have hbl := hB.lt
 have hf := Cht.w_cFind l code
 unfold knownB mistV
 refine ⟨fun h => ?_, fun h => ?_⟩
 ·rw [h] at hf
  generalize (Cht.findS l code).getD Cht.acc0 = a at *
  obtain ⟨c1, c2, c3, c4⟩ := a
  simp only [Account.v, Account.c, List.map] at hf
  (refine FnS.of_code mix Tryz.call91 k_91 (by simp) (fun hB => ?_); (try simp at hB); (try simp -implicitDefEqProofs [qc_91]))
  ((try simp at hf); (try simp -implicitDefEqProofs [hg, hg0, hg1, hle, hdr]); repeat' first | ((with_reducible first | apply gdK_em | apply cdK_em | apply pickK_em) <;> (intro hc; have hc' := hc; (try simp at hc'); simp -implicitDefEqProofs [hc, hc', hg, hg0, hg1, hle, hdr])) | (with_reducible apply callK_pure <;> first | (simp only [eras, era, eras_map]; first | with_reducible exact hf | simpa using hf) | (simp -implicitDefEqProofs [hg, hg0, hg1, hle, hdr])))
 ·rw [h] at hf
  generalize (Cht.findS l code).getD Cht.acc0 = a at *
  obtain ⟨c1, c2, c3, c4⟩ := a
  simp only [Account.v, Account.c, List.map] at hf
  (refine FnP.of_code mix Tryz.call91 k_91 (by simp) (fun hB => ?_); (try simp at hB); (try simp -implicitDefEqProofs [qc_91]))
  ((try simp at hf); (try simp -implicitDefEqProofs [hg, hg0, hg1, hle, hdr]); repeat' first | ((with_reducible first | apply gdK_em | apply cdK_em | apply pickK_em) <;> (intro hc; have hc' := hc; (try simp at hc'); simp -implicitDefEqProofs [hc, hc', hg, hg0, hg1, hle, hdr])) | (with_reducible apply callK_pure <;> first | (simp only [eras, era, eras_map]; first | with_reducible exact hf | simpa using hf) | (simp -implicitDefEqProofs [hg, hg0, hg1, hle, hdr])))
theorem hlds_rule (R : List T) (M : List (List UInt8)) (pair : Bool) (tl : List Bx) (htl : ∀ n m, 4 + tl.length ≤ n → LeBs n m tl tl) : Hlds 2 M (.cells (R.map V.t) :: .cells [vI 0] :: .mp (mS boolX (setOf M)) :: .cells [.mp 2, vB pair] :: tl) := ⟨rfl, fun n m hn => by
 simp only [List.length_cons] at hn
 refine ⟨⟨LeL_refl _, ?_⟩, ⟨LeL_refl _, ?_⟩, ⟨rfl, ?_, ?_⟩, ⟨LeL_refl _, ?_⟩, htl n m (by omega)⟩
 ·exact okNs_all (fun v hv => by obtain ⟨t, _, rfl⟩ := List.mem_map.1 hv; rfl)
 ·simp [okNs, okN]
 ·exact okNs_all (fun v hv => by obtain ⟨p, hp', rfl⟩ := List.mem_map.1 hv; obtain ⟨q, _, rfl⟩ := List.mem_map.1 hp'; rfl)
 ·exact okNs_all (fun v hv => by obtain ⟨p, hp', rfl⟩ := List.mem_map.1 hv; obtain ⟨q, _, rfl⟩ := List.mem_map.1 hp'; rfl)
 ·simp [okNs, okN]; omega⟩
theorem le_cells (ts : List T) (n m : Nat) : LeBs n m [.cells (ts.map V.t)] [.cells (ts.map V.t)] :=
 ⟨⟨LeL_refl _, okNs_all (fun v hv => by obtain ⟨t, _, rfl⟩ := List.mem_map.1 hv; rfl)⟩, trivial⟩
theorem finI_own {known pair wrong : Bool} {e k f t : Int} : (finI known pair wrong e k f t).2 = 0 → (finI known pair wrong e k f t).1 = ownI k := by
 unfold finI
 by_cases h1 : e ≠ 0
 ·rw [if_pos h1]; exact fun h => absurd h h1
 rw [if_neg h1]
 by_cases h2 : wrong = true
 ·rw [if_pos h2]; exact fun h => absurd h (by decide)
 rw [if_neg h2]
 by_cases h3 : k = 2 ∧ known = false
 ·rw [if_pos h3]; exact fun h => absurd h (by decide)
 rw [if_neg h3]
 by_cases h4 : (k = 21 ∨ k = 22) ∧ t < f
 ·rw [if_pos h4]; exact fun h => absurd h (by decide)
 rw [if_neg h4]
 by_cases h5 : k = 22 ∧ pair = false
 ·rw [if_pos h5]; exact fun h => absurd h (by decide)
 rw [if_neg h5]
 exact fun _ => rfl
theorem inf_two (x : Xp) (q : List UInt8 → Bool) (pair : Bool) (h : (x.inf q pair).2 = 0) : (x.inf q pair).1 = 1 ∨ (x.inf q pair).1 = 2 := by
 obtain ⟨k, v, f, t, n, xs⟩ := x
 rw [Xp.inf] at h ⊢
 rw [finI_own h]
 unfold ownI; split <;> simp
theorem w_stmtOk (R : List T) (M : List (List UInt8)) (pair : Bool) (s : Stm) (l : List Account) (hp : s.ex.prop = true) (hML : M.length ≤ 1000)
  (hk : s.kind = 1 ∨ s.kind = 2 ∨ s.kind = 3) (h0 : stmE (knownB l) (memB M) pair s = 0) :
  FnS Tryz.prog 90 [vC 2 pair, s.v, Account.l l] ⟨[.cells (R.map V.t), .cells [vI 0], .mp (mS boolX (setOf M)), .cells [.mp 2, vB pair], .cells (s.c.map V.t)], []⟩ (.tup [])
   ⟨[.cells (R.map V.t), .cells [vI 0], .mp (mS boolX (setOf (M ++ namesOf [s]))), .cells [.mp 2, vB pair], .cells (s.c.map V.t)], []⟩ := by
 obtain ⟨kd, acc, nm, x⟩ := s
 unfold stmE at h0
 simp only [] at hk hp h0
 by_cases hi : (x.inf (memB M) pair).2 = 0
 case neg => rw [if_pos hi] at h0; exact absurd h0 hi
 rw [if_neg (by simpa using hi)] at h0
 have h12 := inf_two x _ _ hi
 have hlc := len_c x
 have htc := take_c x
 have hlR := hlds_rule R (M ++ namesOf [⟨kd, acc, nm, x⟩]) pair [.cells ((Stm.c ⟨kd, acc, nm, x⟩).map V.t)] (fun n m _ => le_cells _ n m)
 have hH := hlds_rule R M pair [.cells ((Stm.c ⟨kd, acc, nm, x⟩).map V.t), .cells [.mp 2, vB pair], .cells ((Stm.c ⟨kd, acc, nm, x⟩).map V.t)] (fun n m hn => ⟨(le_cells _ n m).1, ⟨LeL_refl _, by simp at hn; simp [okNs, okN]; omega⟩, le_cells _ n m⟩)
 have hex := (w_expr 2 M pair x hp _ hH).1 hi
 have hac := (w_acct 2 M pair acc l _ hH).1
 have hx1 : (x.inf (fun s => decide (s ∈ M)) pair) = x.inf (memB M) pair := rfl
 rw [hx1] at hex
 have hcc : Stm.c ⟨kd, acc, nm, x⟩ = .int .i64 kd :: .int .i64 acc :: .str nm :: x.c := rfl
 rw [hcc] at hlR hH hex hac
 have hle := hlR.le 5 0 (by simp)
 simp only [List.map_cons] at hle hex hac
 generalize (x.inf (memB M) pair).1 = t at *
 have ht : ((t == 2) != (kd == 2)) = false := by
  cases h : ((t == 2) != (kd == 2))
  ·rfl
  ·rw [h] at h0; simp at h0
 rw [ht] at h0
 simp only [Bool.false_eq_true, if_false] at h0
 rcases hk with rfl | rfl | rfl
 ·have ht2 : t = 1 := by rcases h12 with h | h <;> simp_all
  subst ht2
  have hnm : nm ∉ M := fun h => by simp [memB, h] at h0
  have hfm := findM_S boolX nm (setOf M)
  rw [aget_setOf, if_neg hnm] at hfm
  have hsm := setM_S boolX nm true (setOf M)
  rw [aset_setOf hnm] at hsm
  have hN : namesOf [⟨1, acc, nm, x⟩] = [nm] := rfl
  rw [hN] at hle ⊢
  simp [LeBs, leB] at hle
  (refine FnS.of_code mix Tryz.call90 k_90 (by simp) (fun hB => ?_); (try simp at hB); (try simp -implicitDefEqProofs [qc_90]))
  ((try simp -implicitDefEqProofs [hcc, hlc, htc]); repeat' first | ((with_reducible first | apply gdK_em | apply cdK_em | apply pickK_em) <;> (intro hc; have hc' := hc; (try simp at hc'); simp -implicitDefEqProofs [hc, hc', hcc, hlc, htc])))
  refine callKf hex ?_
  ((try simp -implicitDefEqProofs [hcc, hlc, htc, hfm, hsm, hle]); repeat' first | ((with_reducible first | apply gdK_em | apply cdK_em | apply pickK_em) <;> (intro hc; have hc' := hc; (try simp at hc'); simp -implicitDefEqProofs [hc, hc', hcc, hlc, htc, hfm, hsm, hle])))
  simp [maxLen]; omega
 ·have ht2 : t = 2 := by rcases h12 with h | h <;> simp_all
  subst ht2
  have hN : namesOf [⟨2, acc, nm, x⟩] = [] := rfl
  rw [hN, List.append_nil] at hle ⊢
  simp [LeBs, leB] at hle
  (refine FnS.of_code mix Tryz.call90 k_90 (by simp) (fun hB => ?_); (try simp at hB); (try simp -implicitDefEqProofs [qc_90]))
  ((try simp -implicitDefEqProofs [hcc, hlc, htc]); repeat' first | ((with_reducible first | apply gdK_em | apply cdK_em | apply pickK_em) <;> (intro hc; have hc' := hc; (try simp at hc'); simp -implicitDefEqProofs [hc, hc', hcc, hlc, htc])))
  refine callKf hex ?_
  ((try simp -implicitDefEqProofs [hcc, hlc, htc, hle]); repeat' first | ((with_reducible first | apply gdK_em | apply cdK_em | apply pickK_em) <;> (intro hc; have hc' := hc; (try simp at hc'); simp -implicitDefEqProofs [hc, hc', hcc, hlc, htc, hle])))
 ·have ht2 : t = 1 := by rcases h12 with h | h <;> simp_all
  subst ht2
  have hN : namesOf [⟨3, acc, nm, x⟩] = [] := rfl
  rw [hN, List.append_nil] at hle ⊢
  simp [LeBs, leB] at hle
  have hkn : knownB l acc = true := by
   cases h : knownB l acc
   ·rw [h] at h0; simp at h0
   ·rfl
  have hac := hac hkn
  (refine FnS.of_code mix Tryz.call90 k_90 (by simp) (fun hB => ?_); (try simp at hB); (try simp -implicitDefEqProofs [qc_90]))
  ((try simp -implicitDefEqProofs [hcc, hlc, htc]); repeat' first | ((with_reducible first | apply gdK_em | apply cdK_em | apply pickK_em) <;> (intro hc; have hc' := hc; (try simp at hc'); simp -implicitDefEqProofs [hc, hc', hcc, hlc, htc])))
  refine callKf hex ?_
  ((try simp -implicitDefEqProofs [hcc, hlc, htc, hle]); repeat' first | ((with_reducible first | apply gdK_em | apply cdK_em | apply pickK_em) <;> (intro hc; have hc' := hc; (try simp at hc'); simp -implicitDefEqProofs [hc, hc', hcc, hlc, htc, hle])))
  refine callKf hac ?_
  ((try simp -implicitDefEqProofs [hcc, hlc, htc, hle]); repeat' first | ((with_reducible first | apply gdK_em | apply cdK_em | apply pickK_em) <;> (intro hc; have hc' := hc; (try simp at hc'); simp -implicitDefEqProofs [hc, hc', hcc, hlc, htc, hle])))
theorem w_stmtPan (R : List T) (M : List (List UInt8)) (pair : Bool) (s : Stm) (l : List Account) (hp : s.ex.prop = true) (hML : M.length ≤ 1000)
  (hk : s.kind = 1 ∨ s.kind = 2 ∨ s.kind = 3) (h0 : stmE (knownB l) (memB M) pair s ≠ 0) :
  FnP Tryz.prog 90 [vC 2 pair, s.v, Account.l l] ⟨[.cells (R.map V.t), .cells [vI 0], .mp (mS boolX (setOf M)), .cells [.mp 2, vB pair], .cells (s.c.map V.t)], []⟩ (mistV (stmE (knownB l) (memB M) pair s))
   ⟨[.cells (R.map V.t), .cells [vI 0], .mp (mS boolX (setOf M)), .cells [.mp 2, vB pair], .cells (s.c.map V.t)], []⟩ := by
 obtain ⟨kd, acc, nm, x⟩ := s
 generalize hE : stmE (knownB l) (memB M) pair ⟨kd, acc, nm, x⟩ = E at *
 unfold stmE at hE
 simp only [] at hk hp hE
 have hlc := len_c x
 have htc := take_c x
 have hlR := hlds_rule R M pair [.cells ((Stm.c ⟨kd, acc, nm, x⟩).map V.t)] (fun n m _ => le_cells _ n m)
 have hH := hlds_rule R M pair [.cells ((Stm.c ⟨kd, acc, nm, x⟩).map V.t), .cells [.mp 2, vB pair], .cells ((Stm.c ⟨kd, acc, nm, x⟩).map V.t)] (fun n m hn => ⟨(le_cells _ n m).1, ⟨LeL_refl _, by simp at hn; simp [okNs, okN]; omega⟩, le_cells _ n m⟩)
 have hex := (w_expr 2 M pair x hp _ hH)
 have hac := (w_acct 2 M pair acc l _ hH).2
 have hx1 : (x.inf (fun s => decide (s ∈ M)) pair) = x.inf (memB M) pair := rfl
 rw [hx1] at hex
 have hcc : Stm.c ⟨kd, acc, nm, x⟩ = .int .i64 kd :: .int .i64 acc :: .str nm :: x.c := rfl
 rw [hcc] at hlR hH hex hac
 have hle := hlR.le 5 0 (by simp)
 simp only [List.map_cons] at hle hex hac
 simp [LeBs, leB] at hle
 by_cases hi : (x.inf (memB M) pair).2 = 0
 case neg =>
  rw [if_pos hi] at hE
  have hex := hex.2 hi
  rw [hE] at hex
  unfold mistV at hex ⊢
  rcases hk with rfl | rfl | rfl
  all_goals
   (refine FnP.of_code mix Tryz.call90 k_90 (by simp) (fun hB => ?_); (try simp at hB); (try simp -implicitDefEqProofs [qc_90]))
   ((try simp -implicitDefEqProofs [hcc, hlc, htc]); repeat' first | ((with_reducible first | apply gdK_em | apply cdK_em | apply pickK_em) <;> (intro hc; have hc' := hc; (try simp at hc'); simp -implicitDefEqProofs [hc, hc', hcc, hlc, htc])))
   refine callK_pan hex ?_
   ((try simp -implicitDefEqProofs [hcc, hlc, htc, hle]); repeat' first | ((with_reducible first | apply gdK_em | apply cdK_em | apply pickK_em) <;> (intro hc; have hc' := hc; (try simp at hc'); simp -implicitDefEqProofs [hc, hc', hcc, hlc, htc, hle])))
 rw [if_neg (by simpa using hi)] at hE
 have h12 := inf_two x _ _ hi
 have hex := hex.1 hi
 generalize (x.inf (memB M) pair).1 = t at *
 unfold mistV at hac ⊢
 by_cases ht : ((t == 2) != (kd == 2)) = true
 ·rw [if_pos ht] at hE
  subst hE
  rcases hk with rfl | rfl | rfl
  ·have ht2 : t = 2 := by rcases h12 with h | h <;> simp_all
   subst ht2
   (refine FnP.of_code mix Tryz.call90 k_90 (by simp) (fun hB => ?_); (try simp at hB); (try simp -implicitDefEqProofs [qc_90]))
   ((try simp -implicitDefEqProofs [hcc, hlc, htc]); repeat' first | ((with_reducible first | apply gdK_em | apply cdK_em | apply pickK_em) <;> (intro hc; have hc' := hc; (try simp at hc'); simp -implicitDefEqProofs [hc, hc', hcc, hlc, htc])))
   refine callKf hex ?_
   ((try simp -implicitDefEqProofs [hcc, hlc, htc, hle]); repeat' first | ((with_reducible first | apply gdK_em | apply cdK_em | apply pickK_em) <;> (intro hc; have hc' := hc; (try simp at hc'); simp -implicitDefEqProofs [hc, hc', hcc, hlc, htc, hle])))
  ·have ht2 : t = 1 := by rcases h12 with h | h <;> simp_all
   subst ht2
   (refine FnP.of_code mix Tryz.call90 k_90 (by simp) (fun hB => ?_); (try simp at hB); (try simp -implicitDefEqProofs [qc_90]))
   ((try simp -implicitDefEqProofs [hcc, hlc, htc]); repeat' first | ((with_reducible first | apply gdK_em | apply cdK_em | apply pickK_em) <;> (intro hc; have hc' := hc; (try simp at hc'); simp -implicitDefEqProofs [hc, hc', hcc, hlc, htc])))
   refine callKf hex ?_
   ((try simp -implicitDefEqProofs [hcc, hlc, htc, hle]); repeat' first | ((with_reducible first | apply gdK_em | apply cdK_em | apply pickK_em) <;> (intro hc; have hc' := hc; (try simp at hc'); simp -implicitDefEqProofs [hc, hc', hcc, hlc, htc, hle])))
  ·have ht2 : t = 2 := by rcases h12 with h | h <;> simp_all
   subst ht2
   (refine FnP.of_code mix Tryz.call90 k_90 (by simp) (fun hB => ?_); (try simp at hB); (try simp -implicitDefEqProofs [qc_90]))
   ((try simp -implicitDefEqProofs [hcc, hlc, htc]); repeat' first | ((with_reducible first | apply gdK_em | apply cdK_em | apply pickK_em) <;> (intro hc; have hc' := hc; (try simp at hc'); simp -implicitDefEqProofs [hc, hc', hcc, hlc, htc])))
   refine callKf hex ?_
   ((try simp -implicitDefEqProofs [hcc, hlc, htc, hle]); repeat' first | ((with_reducible first | apply gdK_em | apply cdK_em | apply pickK_em) <;> (intro hc; have hc' := hc; (try simp at hc'); simp -implicitDefEqProofs [hc, hc', hcc, hlc, htc, hle])))
 rw [if_neg ht] at hE
 have hfm := findM_S boolX nm (setOf M)
 rcases hk with rfl | rfl | rfl
 ·have ht2 : t = 1 := by rcases h12 with h | h <;> simp_all
  subst ht2
  by_cases hnm : nm ∈ M
  ·have hE9 : E = 9 := by rw [← hE, if_pos ⟨rfl, by simpa [memB] using hnm⟩]
   subst hE9
   rw [aget_setOf, if_pos hnm] at hfm
   (refine FnP.of_code mix Tryz.call90 k_90 (by simp) (fun hB => ?_); (try simp at hB); (try simp -implicitDefEqProofs [qc_90]))
   ((try simp -implicitDefEqProofs [hcc, hlc, htc]); repeat' first | ((with_reducible first | apply gdK_em | apply cdK_em | apply pickK_em) <;> (intro hc; have hc' := hc; (try simp at hc'); simp -implicitDefEqProofs [hc, hc', hcc, hlc, htc])))
   refine callKf hex ?_
   ((try simp -implicitDefEqProofs [hcc, hlc, htc, hle, hfm]); repeat' first | ((with_reducible first | apply gdK_em | apply cdK_em | apply pickK_em) <;> (intro hc; have hc' := hc; (try simp at hc'); simp -implicitDefEqProofs [hc, hc', hcc, hlc, htc, hle, hfm])))
  ·rw [if_neg (fun h => hnm (by simpa [memB] using h.2)), if_neg (by simp)] at hE
   exact absurd hE.symm h0
 ·rw [if_neg (by simp), if_neg (by simp)] at hE
  exact absurd hE.symm h0
 ·have ht2 : t = 1 := by rcases h12 with h | h <;> simp_all
  subst ht2
  cases hkn : knownB l acc
  ·have hE8 : E = 8 := by rw [← hE, if_neg (by simp), if_pos ⟨rfl, hkn⟩]
   subst hE8
   have hac := hac hkn
   (refine FnP.of_code mix Tryz.call90 k_90 (by simp) (fun hB => ?_); (try simp at hB); (try simp -implicitDefEqProofs [qc_90]))
   ((try simp -implicitDefEqProofs [hcc, hlc, htc]); repeat' first | ((with_reducible first | apply gdK_em | apply cdK_em | apply pickK_em) <;> (intro hc; have hc' := hc; (try simp at hc'); simp -implicitDefEqProofs [hc, hc', hcc, hlc, htc])))
   refine callKf hex ?_
   ((try simp -implicitDefEqProofs [hcc, hlc, htc, hle]); repeat' first | ((with_reducible first | apply gdK_em | apply cdK_em | apply pickK_em) <;> (intro hc; have hc' := hc; (try simp at hc'); simp -implicitDefEqProofs [hc, hc', hcc, hlc, htc, hle])))
   refine callK_pan hac ?_
   ((try simp -implicitDefEqProofs [hcc, hlc, htc, hle]); repeat' first | ((with_reducible first | apply gdK_em | apply cdK_em | apply pickK_em) <;> (intro hc; have hc' := hc; (try simp at hc'); simp -implicitDefEqProofs [hc, hc', hcc, hlc, htc, hle])))
  ·rw [if_neg (by simp), if_neg (by simp [hkn])] at hE
   exact absurd hE.symm h0
end Go.Proofs.YtpggidmbnjfmaaaGreatDoor
end

/- Chapter 33: the checker's rules. -/
section
set_option linter.unusedSimpArgs false
set_option linter.unusedVariables false
set_option maxHeartbeats 4000000
set_option maxRecDepth 8000
namespace Go.Proofs.YtpggidmbnjfmaaaGreatDoor
open E

theorem stmB_of {s : Stm} (h : stmB s = true) : s.ex.prop = true ∧ (s.kind = 1 ∨ s.kind = 2 ∨ s.kind = 3) := by
 unfold stmB shdB at h
 simp only [Bool.and_eq_true] at h
 refine ⟨h.2, ?_⟩
 have h1 := h.1.1
 by_cases a : s.kind = 1
 ·exact .inl a
 rw [if_neg a] at h1
 by_cases b : s.kind = 2
 ·exact .inr (.inl b)
 rw [if_neg b] at h1
 by_cases c : s.kind = 3
 ·exact .inr (.inr c)
 rw [if_neg c] at h1
 cases h1
theorem namesOf_len (ss : List Stm) : (namesOf ss).length ≤ ss.length := by
 unfold namesOf; rw [List.length_map]; exact List.length_filter_le _ _
theorem w_rule (r : Rul) (l : List Account) (hr : rulB r = true) : Pure Tryz.prog 48 [r.v, Account.l l] (vI (rulE (knownB l) r)) := by
 obtain ⟨nm, pair, ss, to⟩ := r
 unfold rulB at hr
 simp only [Bool.and_eq_true, decide_eq_true_eq, List.all_eq_true] at hr
 obtain ⟨⟨⟨hnm, hss⟩, hto⟩, hst⟩ := hr
 generalize hE : rulE (knownB l) ⟨nm, pair, ss, to⟩ = E
 unfold rulE at hE
 simp only [] at hE
 have hrc : Rul.c ⟨nm, pair, ss, to⟩ = [T.str nm, T.bool pair, T.sl (ss.map Stm.c), T.int .i64 to] := rfl
 show FnS _ _ _ _ _ _
 (refine FnS.of_codeD mix Tryz.call48 kd_48 (by simp) (fun hB => ?_); (try simp at hB); (try simp -implicitDefEqProofs))
 ((try simp -implicitDefEqProofs [hrc]); repeat' first | ((with_reducible first | apply gdK_em | apply cdK_em | apply pickK_em) <;> (intro hc; have hc' := hc; (try simp at hc'); simp -implicitDefEqProofs [hc, hc', hrc])))
 refine loop_rule (X := Nat) (fun k => k ≤ ss.length ∧ stmsE (knownB l) pair (namesOf (ss.take k)) (ss.drop k) = stmsE (knownB l) pair [] ss) (fun k => [(1, Account.l l), (2, .ptr 0 0), (4, .ptr 1 0), (5, .ptr 3 0), (14, Stm.l ss), (15, vI ss.length), (16, vI k)])
  (fun k => ⟨[.cells [vS nm, vB pair, Stm.l ss, vI to], .cells [vI 0], .mp (mS boolX (setOf (namesOf (ss.take k)))), .cells [.mp 2, vB pair]], []⟩) (fun k => ss.length - k) 0 ⟨by simp, by simp [namesOf]⟩ ?_ ?_
 ·simp [namesOf, setOf]
 rintro k ⟨hk, hi⟩ hbd
 clear hbd
 have hbt := hlds_rule [T.str nm, T.bool pair, T.sl (ss.map Stm.c), T.int .i64 to] (namesOf (ss.take k)) pair
 rcases Nat.lt_or_ge k ss.length with h | h
 ·have hx : ss[k]? = some ss[k] := by simp [h]
  have e3 : IntKind.i64.wrap ((k : Int) + 1) = (k : Int) + 1 := wrap64 (by omega) (by omega)
  have hn := namesOf_next hx
  rw [stmsE_at hx] at hi
  obtain ⟨hp, hkd⟩ := stmB_of (hst _ (List.getElem_mem h))
  have hlen : (namesOf (ss.take k)).length ≤ 1000 := by
   have := namesOf_len (ss.take k)
   simp at this; omega
  have q0 := w_stmtOk [T.str nm, T.bool pair, T.sl (ss.map Stm.c), T.int .i64 to] (namesOf (ss.take k)) pair ss[k] l hp hlen hkd
  have q1 := w_stmtPan [T.str nm, T.bool pair, T.sl (ss.map Stm.c), T.int .i64 to] (namesOf (ss.take k)) pair ss[k] l hp hlen hkd
  rw [← hn] at q0
  generalize hs : ss[k] = s at *
  generalize stmE (knownB l) (memB (namesOf (ss.take k))) pair s = e at *
  have hlc := len_sc s
  have htc := take_sc s
  simp only [List.map_cons, List.map_nil] at q0 q1
  by_cases he : e = 0
  ·rw [if_neg (by simpa using he)] at hi
   have q := q0 he
   ((try simp -implicitDefEqProofs [h, hs, hlc, htc, e3]); repeat' first | ((with_reducible first | apply gdK_em | apply cdK_em | apply pickK_em) <;> (intro hc; have hc' := hc; (try simp at hc'); simp -implicitDefEqProofs [hc, hc', h, hs, hlc, htc, e3])))
   refine callKf q ?_
   ((try simp -implicitDefEqProofs [h, hs, hlc, htc, e3]); repeat' first | ((with_reducible first | apply gdK_em | apply cdK_em | apply pickK_em) <;> (intro hc; have hc' := hc; (try simp at hc'); simp -implicitDefEqProofs [hc, hc', h, hs, hlc, htc, e3])))
   exact ⟨k + 1, ⟨by omega, by rw [hn]; exact hi⟩, by omega, ⟨rfl, okNs_all (fun v hv => by obtain ⟨p, _, rfl⟩ := List.mem_map.1 hv; rfl), okNs_all (fun v hv => by obtain ⟨p, _, rfl⟩ := List.mem_map.1 hv; rfl)⟩, by push_cast; rfl⟩
  ·rw [if_pos he] at hi
   have q := q1 he
   ((try simp -implicitDefEqProofs [h, hs, hlc, htc, e3]); repeat' first | ((with_reducible first | apply gdK_em | apply cdK_em | apply pickK_em) <;> (intro hc; have hc' := hc; (try simp at hc'); simp -implicitDefEqProofs [hc, hc', h, hs, hlc, htc, e3])))
   refine callK_pan q ?_
   ((try simp -implicitDefEqProofs [h, hs, hlc, htc, e3]); repeat' first | ((with_reducible first | apply gdK_em | apply cdK_em | apply pickK_em) <;> (intro hc; have hc' := hc; (try simp at hc'); simp -implicitDefEqProofs [hc, hc', h, hs, hlc, htc, e3])))
   refine ⟨_, DefP.of_rec Tryz.call88 (by kernel_rfl) (w_settle1 1 _ 0 _ rfl ?_), ?_⟩
   ·intro n m hn
    have hq := (hbt [.cells (s.c.map V.t)] (fun n m _ => le_cells _ n m)).le n m (by simpa using hn)
    exact ⟨hq.1, ⟨LeL_refl _, by simp [okNs, okN]⟩, hq.2.2⟩
   ·rw [← hi, if_pos he] at hE
    simp [hE]
 ·have : k = ss.length := by omega
  subst this
  rw [List.drop_length, stmsE] at hi
  rw [← hi, if_neg (by simp)] at hE
  rw [List.take_length] at hbt
  have hH := hbt [] (fun _ _ _ => trivial)
  have ha := w_acct 2 (namesOf ss) pair to l _ hH
  simp only [List.map_cons, List.map_nil] at ha hH
  ((try simp -implicitDefEqProofs [h]); repeat' first | ((with_reducible first | apply gdK_em | apply cdK_em | apply pickK_em) <;> (intro hc; have hc' := hc; (try simp at hc'); simp -implicitDefEqProofs [hc, hc', h])))
  cases hkn : knownB l to
  ·rw [hkn, if_neg (by simp)] at hE
   refine callK_pan (ha.2 hkn) ?_
   ((try simp -implicitDefEqProofs); repeat' first | ((with_reducible first | apply gdK_em | apply cdK_em | apply pickK_em) <;> (intro hc; have hc' := hc; (try simp at hc'); simp -implicitDefEqProofs [hc, hc'])))
   refine ⟨_, DefP.of_rec Tryz.call88 (by kernel_rfl) (w_settle1 1 _ 0 _ rfl ?_), ?_⟩
   ·intro n m hn
    have hq := hH.le n m (by simpa using hn)
    exact ⟨hq.1, ⟨LeL_refl _, by simp [okNs, okN]⟩, hq.2.2⟩
   ·simp [← hE]
  ·rw [hkn, if_pos rfl] at hE
   refine callKf (ha.1 hkn) ?_
   ((try simp -implicitDefEqProofs); repeat' first | ((with_reducible first | apply gdK_em | apply cdK_em | apply pickK_em) <;> (intro hc; have hc' := hc; (try simp at hc'); simp -implicitDefEqProofs [hc, hc'])))
   refine ⟨_, DefR.of_rec Tryz.call88 (by kernel_rfl) (w_settle0 1 _ hH.le), ?_⟩
   simp [← hE]
end Go.Proofs.YtpggidmbnjfmaaaGreatDoor
end

/- Chapter 33: check.Check. -/
section
set_option linter.unusedSimpArgs false
set_option linter.unusedVariables false
set_option maxHeartbeats 4000000
set_option maxRecDepth 8000
namespace Go.Proofs.YtpggidmbnjfmaaaGreatDoor
open E

theorem w_Check (p : List Rul) (l : List Account) (hc : ∀ r ∈ p, ∀ s ∈ r.stmts, s.ex.cnt ≤ 100000) (hl : l.length ≤ 1000000) :
  Pure Tryz.prog 19 [Rul.l p, Account.l l] (.tup [vI (chkR p l).1, vI (chkR p l).2]) := by
 generalize hR : V.tup [vI (chkR p l).1, vI (chkR p l).2] = R
 unfold chkR at hR
 have hv := w_Valid p hc
 have hcv := Cht.w_cValid l true hl
 rw [Cht.valid_agree] at hcv
 by_cases h1 : prgB p = true
 case neg =>
  rw [if_neg (fun h => h1 h.1)] at hR
  subst hR
  rw [Bool.not_eq_true] at h1
  rw [h1] at hv
  (refine Pure.of_code mix Tryz.call19 k_19 (by simp) (fun hB => ?_); (try simp at hB); (try simp -implicitDefEqProofs [qc_19]))
  ((try simp at hv); (try simp -implicitDefEqProofs); repeat' first | ((with_reducible first | apply gdK_em | apply cdK_em | apply pickK_em) <;> (intro hc; have hc' := hc; (try simp at hc'); simp -implicitDefEqProofs [hc, hc'])) | (with_reducible apply callK_pure <;> first | (simp only [eras, era, eras_map]; first | with_reducible exact hv | simpa using hv) | (simp -implicitDefEqProofs)))
 by_cases h2 : Cht.validR l true = true
 case neg =>
  rw [if_neg (fun h => h2 h.2)] at hR
  subst hR
  rw [Bool.not_eq_true] at h2
  rw [h1] at hv
  rw [h2] at hcv
  (refine Pure.of_code mix Tryz.call19 k_19 (by simp) (fun hB => ?_); (try simp at hB); (try simp -implicitDefEqProofs [qc_19]))
  ((try simp at hv); (try simp at hcv); (try simp -implicitDefEqProofs); repeat' first | ((with_reducible first | apply gdK_em | apply cdK_em | apply pickK_em) <;> (intro hc; have hc' := hc; (try simp at hc'); simp -implicitDefEqProofs [hc, hc'])) | (with_reducible apply callK_pure <;> first | (simp only [eras, era, eras_map]; first | with_reducible exact hv | with_reducible exact hcv | simpa using hv | simpa using hcv) | (simp -implicitDefEqProofs)))
 rw [if_pos ⟨h1, h2⟩] at hR
 rw [h2] at hcv
 have h3 := h1
 rw [h1] at hv
 unfold prgB at h3
 simp only [Bool.and_eq_true, decide_eq_true_eq, List.all_eq_true] at h3
 obtain ⟨hrs, hpl⟩ := h3
 (refine Pure.of_code mix Tryz.call19 k_19 (by simp) (fun hB => ?_); (try simp at hB); (try simp -implicitDefEqProofs [qc_19]))
 ((try simp at hv); (try simp at hcv); (try simp -implicitDefEqProofs); repeat' first | ((with_reducible first | apply gdK_em | apply cdK_em | apply pickK_em) <;> (intro hc; have hc' := hc; (try simp at hc'); simp -implicitDefEqProofs [hc, hc'])) | (with_reducible apply callK_pure <;> first | (simp only [eras, era, eras_map]; first | with_reducible exact hv | with_reducible exact hcv | simpa using hv | simpa using hcv) | (simp -implicitDefEqProofs)))
 refine loop_rule (X := Nat) (fun k => k ≤ p.length ∧ rulsE (knownB l) ((p.map (·.name)).take k) k (p.drop k) = rulsE (knownB l) [] 0 p) (fun k => [(1, Account.l l), (6, .mp 0), (19, Rul.l p), (20, vI p.length), (21, vI k)])
  (fun k => ⟨[.mp (mS boolX (setOf ((p.map (·.name)).take k)))], []⟩) (fun k => p.length - k) 0 ⟨by simp, by simp⟩ (by simp [setOf]) ?_
 rintro k ⟨hk, hi⟩ hbd
 clear hbd
 rcases Nat.lt_or_ge k p.length with h | h
 ·have hx : p[k]? = some p[k] := by simp [h]
  have e3 : IntKind.i64.wrap ((k : Int) + 1) = (k : Int) + 1 := wrap64 (by omega) (by omega)
  rw [rulsE_at hx] at hi
  have hrule := w_rule p[k] l (hrs _ (List.getElem_mem h))
  have htk := take_next hx
  have hN : (p.map (·.name)).take (k + 1) = (p.map (·.name)).take k ++ [p[k].name] := take_next (by simp [h])
  have hlen : ((p.map (·.name)).take k).length ≤ 1000 := by simp; omega
  obtain ⟨nm, pr, ss, to, hr⟩ : ∃ nm pr ss to, p[k] = ⟨nm, pr, ss, to⟩ := ⟨_, _, _, _, rfl⟩
  have hrk : (p.map Rul.c)[k]? = some [.str nm, .bool pr, .sl (ss.map Stm.c), .int .i64 to] := by simp [h, hr, Rul.c]
  have hcc : p[k].c = [.str nm, .bool pr, .sl (ss.map Stm.c), .int .i64 to] := by rw [hr]; rfl
  rw [hr] at hrule hi hN
  generalize hE : rulE (knownB l) ⟨nm, pr, ss, to⟩ = E at *
  simp only [Rul.v, Rul.c, List.map] at hrule hN
  simp only [] at hi
  generalize hM : (p.map (·.name)).take k = M at *
  have hfm := findM_S boolX nm (setOf M)
  rw [aget_setOf] at hfm
  have hsm := setM_S boolX nm true (setOf M)
  by_cases hin : nm ∈ M
  ·rw [if_pos hin] at hfm hi
   rw [← hi] at hR
   subst hR
   ((try simp -implicitDefEqProofs [h, hrk, hcc, hfm]); repeat' first | ((with_reducible first | apply gdK_em | apply cdK_em | apply pickK_em) <;> (intro hc; have hc' := hc; (try simp at hc'); simp -implicitDefEqProofs [hc, hc', h, hrk, hcc, hfm])))
  ·rw [if_neg hin] at hfm hi
   rw [aset_setOf hin] at hsm
   by_cases he : E = 0
   ·rw [if_neg (by simpa using he)] at hi
    subst he
    ((try simp -implicitDefEqProofs [h, hrk, hcc, hfm, hsm, e3]); repeat' first | ((with_reducible first | apply gdK_em | apply cdK_em | apply pickK_em) <;> (intro hc; have hc' := hc; (try simp at hc'); simp -implicitDefEqProofs [hc, hc', h, hrk, hcc, hfm, hsm, e3])))
    refine ⟨by unfold maxLen; omega, ?_⟩
    ((try simp at hrule); (try simp -implicitDefEqProofs [h, hrk, hcc, hfm, hsm, e3]); repeat' first | ((with_reducible first | apply gdK_em | apply cdK_em | apply pickK_em) <;> (intro hc; have hc' := hc; (try simp at hc'); simp -implicitDefEqProofs [hc, hc', h, hrk, hcc, hfm, hsm, e3])) | (with_reducible apply callK_pure <;> first | (simp only [eras, era, eras_map]; first | with_reducible exact hrule | simpa using hrule) | (simp -implicitDefEqProofs [h, hrk, hcc, hfm, hsm, e3])))
    exact ⟨k + 1, ⟨by omega, by rw [hN]; exact hi⟩, by omega, ⟨by rw [hN], okNs_all (fun v hv => by obtain ⟨p, _, rfl⟩ := List.mem_map.1 hv; rfl), okNs_all (fun v hv => by obtain ⟨p, _, rfl⟩ := List.mem_map.1 hv; rfl)⟩, by push_cast; rfl⟩
   ·rw [if_pos he] at hi
    rw [← hi] at hR
    subst hR
    have he' : (E == 0) = false := by simpa using he
    have he2 : (E != 0) = true := by simpa using he
    ((try simp -implicitDefEqProofs [h, hrk, hcc, hfm, hsm, e3]); repeat' first | ((with_reducible first | apply gdK_em | apply cdK_em | apply pickK_em) <;> (intro hc; have hc' := hc; (try simp at hc'); simp -implicitDefEqProofs [hc, hc', h, hrk, hcc, hfm, hsm, e3])))
    refine ⟨by unfold maxLen; omega, ?_⟩
    ((try simp at hrule); (try simp -implicitDefEqProofs [h, hrk, hcc, hfm, hsm, e3, he, he', he2]); repeat' first | ((with_reducible first | apply gdK_em | apply cdK_em | apply pickK_em) <;> (intro hc; have hc' := hc; (try simp at hc'); simp -implicitDefEqProofs [hc, hc', h, hrk, hcc, hfm, hsm, e3, he, he', he2])) | (with_reducible apply callK_pure <;> first | (simp only [eras, era, eras_map]; first | with_reducible exact hrule | simpa using hrule) | (simp -implicitDefEqProofs [h, hrk, hcc, hfm, hsm, e3, he, he', he2])))
 ·have : k = p.length := by omega
  subst this
  rw [List.drop_length, rulsE] at hi
  rw [← hi] at hR
  subst hR
  ((try simp -implicitDefEqProofs [h]); repeat' first | ((with_reducible first | apply gdK_em | apply cdK_em | apply pickK_em) <;> (intro hc; have hc' := hc; (try simp at hc'); simp -implicitDefEqProofs [hc, hc', h])))
  trace_state
end Go.Proofs.YtpggidmbnjfmaaaGreatDoor
end
