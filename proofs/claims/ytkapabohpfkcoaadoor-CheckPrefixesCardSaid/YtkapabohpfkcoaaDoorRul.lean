/- Chapter 33: the checker's statements and rules. -/
import Derived.Test.YtkapabohpfkcoaaDoorRsp
import Derived.Test.YtkapabohpfkcoaaDoorPrg
set_option linter.unusedSimpArgs false
set_option linter.unusedVariables false
set_option maxHeartbeats 4000000
set_option maxRecDepth 8000
namespace Go.Proofs.YtkapabohpfkcoaaDoor
open E

/-- A contract of account. -/
theorem w_acct (b : Nat) (M : List (List UInt8)) (pair : Bool) (code : Int) (l : List Account) (B : List Bx) (hB : Hlds b M B) :
    (knownB l code = true → FnS Tryd.prog 100 [vC b pair, vI code, Account.l l] ⟨B, []⟩ (.tup []) ⟨B, []⟩) ∧
    (knownB l code = false → FnP Tryd.prog 100 [vC b pair, vI code, Account.l l] ⟨B, []⟩ (mistV 8) ⟨B, []⟩) := by
  have hg := hB.app
  have hg0 := get0 B
  have hg1 := get1 B
  have hle := fun l l' n m h => LeBs.app' (l := l) (l' := l') (hB.le n m h)
  have hdr := fun l n m h => LeBs.drop' (n := n) (m := m) l (hB.le n m h)
  have hbl := hB.lt
  have hf := Cht.w_cFind l code
  unfold knownB mistV
  refine ⟨fun h => ?_, fun h => ?_⟩
  · rw [h] at hf
    generalize (Cht.findS l code).getD Cht.acc0 = a at *
    obtain ⟨c1, c2, c3, c4⟩ := a
    simp only [Account.v, Account.c, List.map] at hf
    (refine FnS.of_code mix Tryd.call100 k_100 (by simp) (fun hB => ?_); (try simp at hB); (try simp -implicitDefEqProofs [c_check_checker__account_100]))
    ((try simp at hf); (try simp -implicitDefEqProofs [hg, hg0, hg1, hle, hdr]); repeat' first | ((first | with_reducible refine gdK_em (fun hc => ?_) (fun hc => ?_) | with_reducible refine cdK_em (fun hc => ?_) (fun hc => ?_) | with_reducible refine pickK_em (fun hc => ?_) (fun hc => ?_)) <;> (have hc' := hc; (try simp at hc'); simp -implicitDefEqProofs [hc, hc', hg, hg0, hg1, hle, hdr])) | (with_reducible apply callK_pure <;> first | (simp only [eras, era, eras_map]; first | with_reducible exact hf | simpa using hf) | (simp -implicitDefEqProofs [hg, hg0, hg1, hle, hdr])))
  · rw [h] at hf
    generalize (Cht.findS l code).getD Cht.acc0 = a at *
    obtain ⟨c1, c2, c3, c4⟩ := a
    simp only [Account.v, Account.c, List.map] at hf
    (refine FnP.of_code mix Tryd.call100 k_100 (by simp) (fun hB => ?_); (try simp at hB); (try simp -implicitDefEqProofs [c_check_checker__account_100]))
    ((try simp at hf); (try simp -implicitDefEqProofs [hg, hg0, hg1, hle, hdr]); repeat' first | ((first | with_reducible refine gdK_em (fun hc => ?_) (fun hc => ?_) | with_reducible refine cdK_em (fun hc => ?_) (fun hc => ?_) | with_reducible refine pickK_em (fun hc => ?_) (fun hc => ?_)) <;> (have hc' := hc; (try simp at hc'); simp -implicitDefEqProofs [hc, hc', hg, hg0, hg1, hle, hdr])) | (with_reducible apply callK_pure <;> first | (simp only [eras, era, eras_map]; first | with_reducible exact hf | simpa using hf) | (simp -implicitDefEqProofs [hg, hg0, hg1, hle, hdr])))
/-- The boxes of rule where it calls stmt. -/
theorem hlds_rule (R : List T) (M : List (List UInt8)) (pair : Bool) (tl : List Bx) (htl : ∀ n m, 4 + tl.length ≤ n → LeBs n m tl tl) : Hlds 2 M (.cells (R.map V.t) :: .cells [vI 0] :: .mp (mS boolX (setOf M)) :: .cells [.mp 2, vB pair] :: tl) := ⟨rfl, fun n m hn => by
  simp only [List.length_cons] at hn
  refine ⟨⟨LeL_refl _, ?_⟩, ⟨LeL_refl _, ?_⟩, ⟨rfl, ?_, ?_⟩, ⟨LeL_refl _, ?_⟩, htl n m (by omega)⟩
  · exact okNs_all (fun v hv => by obtain ⟨t, _, rfl⟩ := List.mem_map.1 hv; rfl)
  · simp [okNs, okN]
  · exact okNs_all (fun v hv => by obtain ⟨p, hp', rfl⟩ := List.mem_map.1 hv; obtain ⟨q, _, rfl⟩ := List.mem_map.1 hp'; rfl)
  · exact okNs_all (fun v hv => by obtain ⟨p, hp', rfl⟩ := List.mem_map.1 hv; obtain ⟨q, _, rfl⟩ := List.mem_map.1 hp'; rfl)
  · simp [okNs, okN]; omega⟩
theorem le_cells (ts : List T) (n m : Nat) : LeBs n m [.cells (ts.map V.t)] [.cells (ts.map V.t)] :=
  ⟨⟨LeL_refl _, okNs_all (fun v hv => by obtain ⟨t, _, rfl⟩ := List.mem_map.1 hv; rfl)⟩, trivial⟩
theorem finI_own {known pair wrong : Bool} {e k f t : Int} : (finI known pair wrong e k f t).2 = 0 → (finI known pair wrong e k f t).1 = ownI k := by
  unfold finI
  by_cases h1 : e ≠ 0
  · rw [if_pos h1]; exact fun h => absurd h h1
  rw [if_neg h1]
  by_cases h2 : wrong = true
  · rw [if_pos h2]; exact fun h => absurd h (by decide)
  rw [if_neg h2]
  by_cases h3 : k = 2 ∧ known = false
  · rw [if_pos h3]; exact fun h => absurd h (by decide)
  rw [if_neg h3]
  by_cases h4 : (k = 21 ∨ k = 22) ∧ t < f
  · rw [if_pos h4]; exact fun h => absurd h (by decide)
  rw [if_neg h4]
  by_cases h5 : k = 22 ∧ pair = false
  · rw [if_pos h5]; exact fun h => absurd h (by decide)
  rw [if_neg h5]
  exact fun _ => rfl
theorem inf_two (x : Xp) (q : List UInt8 → Bool) (pair : Bool) (h : (x.inf q pair).2 = 0) : (x.inf q pair).1 = 1 ∨ (x.inf q pair).1 = 2 := by
  obtain ⟨k, v, f, t, n, xs⟩ := x
  rw [Xp.inf] at h ⊢
  rw [finI_own h]
  unfold ownI; split <;> simp
theorem w_stmtOk (R : List T) (M : List (List UInt8)) (pair : Bool) (s : Stm) (l : List Account) (hp : s.ex.prop = true) (hML : M.length ≤ 1000)
    (hk : s.kind = 1 ∨ s.kind = 2 ∨ s.kind = 3) (h0 : stmE (knownB l) (memB M) pair s = 0) :
    FnS Tryd.prog 99 [vC 2 pair, s.v, Account.l l] ⟨[.cells (R.map V.t), .cells [vI 0], .mp (mS boolX (setOf M)), .cells [.mp 2, vB pair], .cells (s.c.map V.t)], []⟩ (.tup [])
      ⟨[.cells (R.map V.t), .cells [vI 0], .mp (mS boolX (setOf (M ++ namesOf [s]))), .cells [.mp 2, vB pair], .cells (s.c.map V.t)], []⟩ := by
  obtain ⟨kd, acc, nm, x⟩ := s
  unfold stmE at h0
  simp only [] at hk hp h0
  by_cases hi : (x.inf (memB M) pair).2 = 0
  case neg => rw [if_pos hi] at h0; exact absurd h0 hi
  rw [if_neg (by simpa using hi)] at h0
  have h12 := inf_two x _ _ hi
  have hlc := len_c x
  have htc := take_c x
  have hlR := hlds_rule R (M ++ namesOf [⟨kd, acc, nm, x⟩]) pair [.cells ((Stm.c ⟨kd, acc, nm, x⟩).map V.t)] (fun n m _ => le_cells _ n m)
  have hH := hlds_rule R M pair [.cells ((Stm.c ⟨kd, acc, nm, x⟩).map V.t), .cells [.mp 2, vB pair], .cells ((Stm.c ⟨kd, acc, nm, x⟩).map V.t)] (fun n m hn => ⟨(le_cells _ n m).1, ⟨LeL_refl _, by simp at hn; simp [okNs, okN]; omega⟩, le_cells _ n m⟩)
  have hex := (w_expr 2 M pair x hp _ hH).1 hi
  have hac := (w_acct 2 M pair acc l _ hH).1
  have hx1 : (x.inf (fun s => decide (s ∈ M)) pair) = x.inf (memB M) pair := rfl
  rw [hx1] at hex
  have hcc : Stm.c ⟨kd, acc, nm, x⟩ = .int .i64 kd :: .int .i64 acc :: .str nm :: x.c := rfl
  rw [hcc] at hlR hH hex hac
  have hle := hlR.le 5 0 (by simp)
  simp only [List.map_cons] at hle hex hac
  generalize (x.inf (memB M) pair).1 = t at *
  have ht : ((t == 2) != (kd == 2)) = false := by
    cases h : ((t == 2) != (kd == 2))
    · rfl
    · rw [h] at h0; simp at h0
  rw [ht] at h0
  simp only [Bool.false_eq_true, if_false] at h0
  rcases hk with rfl | rfl | rfl
  · have ht2 : t = 1 := by rcases h12 with h | h <;> simp_all
    subst ht2
    have hnm : nm ∉ M := fun h => by simp [memB, h] at h0
    have hfm := findM_S boolX nm (setOf M)
    rw [aget_setOf, if_neg hnm] at hfm
    have hsm := setM_S boolX nm true (setOf M)
    rw [aset_setOf hnm] at hsm
    have hN : namesOf [⟨1, acc, nm, x⟩] = [nm] := rfl
    rw [hN] at hle ⊢
    simp [LeBs, leB] at hle
    (refine FnS.of_code mix Tryd.call99 k_99 (by simp) (fun hB => ?_); (try simp at hB); (try simp -implicitDefEqProofs [c_check_checker__stmt_99]))
    ((try simp -implicitDefEqProofs [hcc, hlc, htc]); repeat' first | ((first | with_reducible refine gdK_em (fun hc => ?_) (fun hc => ?_) | with_reducible refine cdK_em (fun hc => ?_) (fun hc => ?_) | with_reducible refine pickK_em (fun hc => ?_) (fun hc => ?_)) <;> (have hc' := hc; (try simp at hc'); simp -implicitDefEqProofs [hc, hc', hcc, hlc, htc])))
    refine callK_fn hex (fun hd => by cases hd) ?_
    ((try simp -implicitDefEqProofs [hcc, hlc, htc, hfm, hsm, hle]); repeat' first | ((first | with_reducible refine gdK_em (fun hc => ?_) (fun hc => ?_) | with_reducible refine cdK_em (fun hc => ?_) (fun hc => ?_) | with_reducible refine pickK_em (fun hc => ?_) (fun hc => ?_)) <;> (have hc' := hc; (try simp at hc'); simp -implicitDefEqProofs [hc, hc', hcc, hlc, htc, hfm, hsm, hle])))
    simp [maxLen]; omega
  · have ht2 : t = 2 := by rcases h12 with h | h <;> simp_all
    subst ht2
    have hN : namesOf [⟨2, acc, nm, x⟩] = [] := rfl
    rw [hN, List.append_nil] at hle ⊢
    simp [LeBs, leB] at hle
    (refine FnS.of_code mix Tryd.call99 k_99 (by simp) (fun hB => ?_); (try simp at hB); (try simp -implicitDefEqProofs [c_check_checker__stmt_99]))
    ((try simp -implicitDefEqProofs [hcc, hlc, htc]); repeat' first | ((first | with_reducible refine gdK_em (fun hc => ?_) (fun hc => ?_) | with_reducible refine cdK_em (fun hc => ?_) (fun hc => ?_) | with_reducible refine pickK_em (fun hc => ?_) (fun hc => ?_)) <;> (have hc' := hc; (try simp at hc'); simp -implicitDefEqProofs [hc, hc', hcc, hlc, htc])))
    refine callK_fn hex (fun hd => by cases hd) ?_
    ((try simp -implicitDefEqProofs [hcc, hlc, htc, hle]); repeat' first | ((first | with_reducible refine gdK_em (fun hc => ?_) (fun hc => ?_) | with_reducible refine cdK_em (fun hc => ?_) (fun hc => ?_) | with_reducible refine pickK_em (fun hc => ?_) (fun hc => ?_)) <;> (have hc' := hc; (try simp at hc'); simp -implicitDefEqProofs [hc, hc', hcc, hlc, htc, hle])))
  · have ht2 : t = 1 := by rcases h12 with h | h <;> simp_all
    subst ht2
    have hN : namesOf [⟨3, acc, nm, x⟩] = [] := rfl
    rw [hN, List.append_nil] at hle ⊢
    simp [LeBs, leB] at hle
    have hkn : knownB l acc = true := by
      cases h : knownB l acc
      · rw [h] at h0; simp at h0
      · rfl
    have hac := hac hkn
    (refine FnS.of_code mix Tryd.call99 k_99 (by simp) (fun hB => ?_); (try simp at hB); (try simp -implicitDefEqProofs [c_check_checker__stmt_99]))
    ((try simp -implicitDefEqProofs [hcc, hlc, htc]); repeat' first | ((first | with_reducible refine gdK_em (fun hc => ?_) (fun hc => ?_) | with_reducible refine cdK_em (fun hc => ?_) (fun hc => ?_) | with_reducible refine pickK_em (fun hc => ?_) (fun hc => ?_)) <;> (have hc' := hc; (try simp at hc'); simp -implicitDefEqProofs [hc, hc', hcc, hlc, htc])))
    refine callK_fn hex (fun hd => by cases hd) ?_
    ((try simp -implicitDefEqProofs [hcc, hlc, htc, hle]); repeat' first | ((first | with_reducible refine gdK_em (fun hc => ?_) (fun hc => ?_) | with_reducible refine cdK_em (fun hc => ?_) (fun hc => ?_) | with_reducible refine pickK_em (fun hc => ?_) (fun hc => ?_)) <;> (have hc' := hc; (try simp at hc'); simp -implicitDefEqProofs [hc, hc', hcc, hlc, htc, hle])))
    refine callK_fn hac (fun hd => by cases hd) ?_
    ((try simp -implicitDefEqProofs [hcc, hlc, htc, hle]); repeat' first | ((first | with_reducible refine gdK_em (fun hc => ?_) (fun hc => ?_) | with_reducible refine cdK_em (fun hc => ?_) (fun hc => ?_) | with_reducible refine pickK_em (fun hc => ?_) (fun hc => ?_)) <;> (have hc' := hc; (try simp at hc'); simp -implicitDefEqProofs [hc, hc', hcc, hlc, htc, hle])))
theorem w_stmtPan (R : List T) (M : List (List UInt8)) (pair : Bool) (s : Stm) (l : List Account) (hp : s.ex.prop = true) (hML : M.length ≤ 1000)
    (hk : s.kind = 1 ∨ s.kind = 2 ∨ s.kind = 3) (h0 : stmE (knownB l) (memB M) pair s ≠ 0) :
    FnP Tryd.prog 99 [vC 2 pair, s.v, Account.l l] ⟨[.cells (R.map V.t), .cells [vI 0], .mp (mS boolX (setOf M)), .cells [.mp 2, vB pair], .cells (s.c.map V.t)], []⟩ (mistV (stmE (knownB l) (memB M) pair s))
      ⟨[.cells (R.map V.t), .cells [vI 0], .mp (mS boolX (setOf M)), .cells [.mp 2, vB pair], .cells (s.c.map V.t)], []⟩ := by
  obtain ⟨kd, acc, nm, x⟩ := s
  generalize hE : stmE (knownB l) (memB M) pair ⟨kd, acc, nm, x⟩ = E at *
  unfold stmE at hE
  simp only [] at hk hp hE
  have hlc := len_c x
  have htc := take_c x
  have hlR := hlds_rule R M pair [.cells ((Stm.c ⟨kd, acc, nm, x⟩).map V.t)] (fun n m _ => le_cells _ n m)
  have hH := hlds_rule R M pair [.cells ((Stm.c ⟨kd, acc, nm, x⟩).map V.t), .cells [.mp 2, vB pair], .cells ((Stm.c ⟨kd, acc, nm, x⟩).map V.t)] (fun n m hn => ⟨(le_cells _ n m).1, ⟨LeL_refl _, by simp at hn; simp [okNs, okN]; omega⟩, le_cells _ n m⟩)
  have hex := (w_expr 2 M pair x hp _ hH)
  have hac := (w_acct 2 M pair acc l _ hH).2
  have hx1 : (x.inf (fun s => decide (s ∈ M)) pair) = x.inf (memB M) pair := rfl
  rw [hx1] at hex
  have hcc : Stm.c ⟨kd, acc, nm, x⟩ = .int .i64 kd :: .int .i64 acc :: .str nm :: x.c := rfl
  rw [hcc] at hlR hH hex hac
  have hle := hlR.le 5 0 (by simp)
  simp only [List.map_cons] at hle hex hac
  simp [LeBs, leB] at hle
  by_cases hi : (x.inf (memB M) pair).2 = 0
  case neg =>
    rw [if_pos hi] at hE
    have hex := hex.2 hi
    rw [hE] at hex
    unfold mistV at hex ⊢
    rcases hk with rfl | rfl | rfl
    all_goals
      (refine FnP.of_code mix Tryd.call99 k_99 (by simp) (fun hB => ?_); (try simp at hB); (try simp -implicitDefEqProofs [c_check_checker__stmt_99]))
      ((try simp -implicitDefEqProofs [hcc, hlc, htc]); repeat' first | ((first | with_reducible refine gdK_em (fun hc => ?_) (fun hc => ?_) | with_reducible refine cdK_em (fun hc => ?_) (fun hc => ?_) | with_reducible refine pickK_em (fun hc => ?_) (fun hc => ?_)) <;> (have hc' := hc; (try simp at hc'); simp -implicitDefEqProofs [hc, hc', hcc, hlc, htc])))
      refine callK_pan hex ?_
      ((try simp -implicitDefEqProofs [hcc, hlc, htc, hle]); repeat' first | ((first | with_reducible refine gdK_em (fun hc => ?_) (fun hc => ?_) | with_reducible refine cdK_em (fun hc => ?_) (fun hc => ?_) | with_reducible refine pickK_em (fun hc => ?_) (fun hc => ?_)) <;> (have hc' := hc; (try simp at hc'); simp -implicitDefEqProofs [hc, hc', hcc, hlc, htc, hle])))
  rw [if_neg (by simpa using hi)] at hE
  have h12 := inf_two x _ _ hi
  have hex := hex.1 hi
  generalize (x.inf (memB M) pair).1 = t at *
  unfold mistV at hac ⊢
  by_cases ht : ((t == 2) != (kd == 2)) = true
  · rw [if_pos ht] at hE
    subst hE
    rcases hk with rfl | rfl | rfl
    · have ht2 : t = 2 := by rcases h12 with h | h <;> simp_all
      subst ht2
      (refine FnP.of_code mix Tryd.call99 k_99 (by simp) (fun hB => ?_); (try simp at hB); (try simp -implicitDefEqProofs [c_check_checker__stmt_99]))
      ((try simp -implicitDefEqProofs [hcc, hlc, htc]); repeat' first | ((first | with_reducible refine gdK_em (fun hc => ?_) (fun hc => ?_) | with_reducible refine cdK_em (fun hc => ?_) (fun hc => ?_) | with_reducible refine pickK_em (fun hc => ?_) (fun hc => ?_)) <;> (have hc' := hc; (try simp at hc'); simp -implicitDefEqProofs [hc, hc', hcc, hlc, htc])))
      refine callK_fn hex (fun hd => by cases hd) ?_
      ((try simp -implicitDefEqProofs [hcc, hlc, htc, hle]); repeat' first | ((first | with_reducible refine gdK_em (fun hc => ?_) (fun hc => ?_) | with_reducible refine cdK_em (fun hc => ?_) (fun hc => ?_) | with_reducible refine pickK_em (fun hc => ?_) (fun hc => ?_)) <;> (have hc' := hc; (try simp at hc'); simp -implicitDefEqProofs [hc, hc', hcc, hlc, htc, hle])))
    · have ht2 : t = 1 := by rcases h12 with h | h <;> simp_all
      subst ht2
      (refine FnP.of_code mix Tryd.call99 k_99 (by simp) (fun hB => ?_); (try simp at hB); (try simp -implicitDefEqProofs [c_check_checker__stmt_99]))
      ((try simp -implicitDefEqProofs [hcc, hlc, htc]); repeat' first | ((first | with_reducible refine gdK_em (fun hc => ?_) (fun hc => ?_) | with_reducible refine cdK_em (fun hc => ?_) (fun hc => ?_) | with_reducible refine pickK_em (fun hc => ?_) (fun hc => ?_)) <;> (have hc' := hc; (try simp at hc'); simp -implicitDefEqProofs [hc, hc', hcc, hlc, htc])))
      refine callK_fn hex (fun hd => by cases hd) ?_
      ((try simp -implicitDefEqProofs [hcc, hlc, htc, hle]); repeat' first | ((first | with_reducible refine gdK_em (fun hc => ?_) (fun hc => ?_) | with_reducible refine cdK_em (fun hc => ?_) (fun hc => ?_) | with_reducible refine pickK_em (fun hc => ?_) (fun hc => ?_)) <;> (have hc' := hc; (try simp at hc'); simp -implicitDefEqProofs [hc, hc', hcc, hlc, htc, hle])))
    · have ht2 : t = 2 := by rcases h12 with h | h <;> simp_all
      subst ht2
      (refine FnP.of_code mix Tryd.call99 k_99 (by simp) (fun hB => ?_); (try simp at hB); (try simp -implicitDefEqProofs [c_check_checker__stmt_99]))
      ((try simp -implicitDefEqProofs [hcc, hlc, htc]); repeat' first | ((first | with_reducible refine gdK_em (fun hc => ?_) (fun hc => ?_) | with_reducible refine cdK_em (fun hc => ?_) (fun hc => ?_) | with_reducible refine pickK_em (fun hc => ?_) (fun hc => ?_)) <;> (have hc' := hc; (try simp at hc'); simp -implicitDefEqProofs [hc, hc', hcc, hlc, htc])))
      refine callK_fn hex (fun hd => by cases hd) ?_
      ((try simp -implicitDefEqProofs [hcc, hlc, htc, hle]); repeat' first | ((first | with_reducible refine gdK_em (fun hc => ?_) (fun hc => ?_) | with_reducible refine cdK_em (fun hc => ?_) (fun hc => ?_) | with_reducible refine pickK_em (fun hc => ?_) (fun hc => ?_)) <;> (have hc' := hc; (try simp at hc'); simp -implicitDefEqProofs [hc, hc', hcc, hlc, htc, hle])))
  rw [if_neg ht] at hE
  have hfm := findM_S boolX nm (setOf M)
  rcases hk with rfl | rfl | rfl
  · have ht2 : t = 1 := by rcases h12 with h | h <;> simp_all
    subst ht2
    by_cases hnm : nm ∈ M
    · have hE9 : E = 9 := by rw [← hE, if_pos ⟨rfl, by simpa [memB] using hnm⟩]
      subst hE9
      rw [aget_setOf, if_pos hnm] at hfm
      (refine FnP.of_code mix Tryd.call99 k_99 (by simp) (fun hB => ?_); (try simp at hB); (try simp -implicitDefEqProofs [c_check_checker__stmt_99]))
      ((try simp -implicitDefEqProofs [hcc, hlc, htc]); repeat' first | ((first | with_reducible refine gdK_em (fun hc => ?_) (fun hc => ?_) | with_reducible refine cdK_em (fun hc => ?_) (fun hc => ?_) | with_reducible refine pickK_em (fun hc => ?_) (fun hc => ?_)) <;> (have hc' := hc; (try simp at hc'); simp -implicitDefEqProofs [hc, hc', hcc, hlc, htc])))
      refine callK_fn hex (fun hd => by cases hd) ?_
      ((try simp -implicitDefEqProofs [hcc, hlc, htc, hle, hfm]); repeat' first | ((first | with_reducible refine gdK_em (fun hc => ?_) (fun hc => ?_) | with_reducible refine cdK_em (fun hc => ?_) (fun hc => ?_) | with_reducible refine pickK_em (fun hc => ?_) (fun hc => ?_)) <;> (have hc' := hc; (try simp at hc'); simp -implicitDefEqProofs [hc, hc', hcc, hlc, htc, hle, hfm])))
    · rw [if_neg (fun h => hnm (by simpa [memB] using h.2)), if_neg (by simp)] at hE
      exact absurd hE.symm h0
  · rw [if_neg (by simp), if_neg (by simp)] at hE
    exact absurd hE.symm h0
  · have ht2 : t = 1 := by rcases h12 with h | h <;> simp_all
    subst ht2
    cases hkn : knownB l acc
    · have hE8 : E = 8 := by rw [← hE, if_neg (by simp), if_pos ⟨rfl, hkn⟩]
      subst hE8
      have hac := hac hkn
      (refine FnP.of_code mix Tryd.call99 k_99 (by simp) (fun hB => ?_); (try simp at hB); (try simp -implicitDefEqProofs [c_check_checker__stmt_99]))
      ((try simp -implicitDefEqProofs [hcc, hlc, htc]); repeat' first | ((first | with_reducible refine gdK_em (fun hc => ?_) (fun hc => ?_) | with_reducible refine cdK_em (fun hc => ?_) (fun hc => ?_) | with_reducible refine pickK_em (fun hc => ?_) (fun hc => ?_)) <;> (have hc' := hc; (try simp at hc'); simp -implicitDefEqProofs [hc, hc', hcc, hlc, htc])))
      refine callK_fn hex (fun hd => by cases hd) ?_
      ((try simp -implicitDefEqProofs [hcc, hlc, htc, hle]); repeat' first | ((first | with_reducible refine gdK_em (fun hc => ?_) (fun hc => ?_) | with_reducible refine cdK_em (fun hc => ?_) (fun hc => ?_) | with_reducible refine pickK_em (fun hc => ?_) (fun hc => ?_)) <;> (have hc' := hc; (try simp at hc'); simp -implicitDefEqProofs [hc, hc', hcc, hlc, htc, hle])))
      refine callK_pan hac ?_
      ((try simp -implicitDefEqProofs [hcc, hlc, htc, hle]); repeat' first | ((first | with_reducible refine gdK_em (fun hc => ?_) (fun hc => ?_) | with_reducible refine cdK_em (fun hc => ?_) (fun hc => ?_) | with_reducible refine pickK_em (fun hc => ?_) (fun hc => ?_)) <;> (have hc' := hc; (try simp at hc'); simp -implicitDefEqProofs [hc, hc', hcc, hlc, htc, hle])))
    · rw [if_neg (by simp), if_neg (by simp [hkn])] at hE
      exact absurd hE.symm h0
end Go.Proofs.YtkapabohpfkcoaaDoor
