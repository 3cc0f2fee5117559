/- Chapter 33: the laws CheckLists and CheckAccounts. -/
import Derived.Test.YtnlkppaehbopaaaDoorPst
import Derived.Test.YtnlkppaehbopaaaDoorLpx
set_option linter.unusedSimpArgs false
set_option linter.unusedVariables false
set_option maxHeartbeats 4000000
set_option maxRecDepth 8000
namespace Go.Proofs.YtnlkppaehbopaaaDoor
open E

theorem stmE_known {known : Int → Bool} {q : List UInt8 → Bool} {pair : Bool} {s : Stm} (h : stmE known q pair s = 0) (hk : s.kind = 3) : known s.acc = true := by
  unfold stmE at h
  split at h
  · rename_i h1; exact absurd h h1
  split at h
  · exact absurd h (by decide)
  split at h
  · exact absurd h (by decide)
  split at h
  · exact absurd h (by decide)
  · rename_i h4
    cases hb : known s.acc
    · exact absurd ⟨hk, hb⟩ h4
    · rfl
theorem stmsE_known {known : Int → Bool} {pair : Bool} : ∀ (ss : List Stm) (M : List (List UInt8)), stmsE known pair M ss = 0 → ∀ s ∈ ss, s.kind = 3 → known s.acc = true
  | [], M, _, s, hs, _ => by cases hs
  | y :: ss, M, h, s, hs, hk => by
    rw [stmsE] at h
    split at h
    · rename_i h1; exact absurd h h1
    · rename_i h1
      rcases List.mem_cons.1 hs with rfl | hs
      · exact stmE_known (by simpa using h1) hk
      · exact stmsE_known ss _ h s hs hk
theorem rulE_known {known : Int → Bool} {r : Rul} (h : rulE known r = 0) : known r.to = true ∧ ∀ s ∈ r.stmts, s.kind = 3 → known s.acc = true := by
  unfold rulE at h
  split at h
  · rename_i h1; exact absurd h h1
  · rename_i h1
    refine ⟨?_, stmsE_known r.stmts [] (by simpa using h1)⟩
    split at h
    · rename_i h2; exact h2
    · exact absurd h (by decide)
theorem rulsE_known {known : Int → Bool} : ∀ (p : List Rul) (M : List (List UInt8)) (i : Nat), (rulsE known M i p).2 = 0 → ∀ r ∈ p, rulE known r = 0
  | [], M, i, _, r, hr => by cases hr
  | y :: p, M, i, h, r, hr => by
    rw [rulsE] at h
    split at h
    · exact absurd h (by simp)
    split at h
    · rename_i h1; exact absurd h h1
    · rename_i h1
      rcases List.mem_cons.1 hr with rfl | hr
      · simpa using h1
      · exact rulsE_known p _ _ h r hr
theorem stmE_mono {known known' : Int → Bool} (hm : ∀ c, known c = true → known' c = true) {q : List UInt8 → Bool} {pair : Bool} {s : Stm} (h : stmE known q pair s = 0) : stmE known' q pair s = 0 := by
  have hk := stmE_known h
  unfold stmE at h ⊢
  split at h
  · rename_i h1; exact absurd h h1
  rename_i h1
  rw [if_neg h1]
  split at h
  · exact absurd h (by decide)
  rename_i h2
  rw [if_neg h2]
  split at h
  · exact absurd h (by decide)
  rename_i h3
  rw [if_neg h3, if_neg]
  rintro ⟨h4, h5⟩
  rw [hm _ (hk h4)] at h5
  cases h5
theorem stmsE_mono {known known' : Int → Bool} (hm : ∀ c, known c = true → known' c = true) {pair : Bool} : ∀ (ss : List Stm) (M : List (List UInt8)), stmsE known pair M ss = 0 → stmsE known' pair M ss = 0
  | [], M, _ => rfl
  | y :: ss, M, h => by
    rw [stmsE] at h ⊢
    split at h
    · rename_i h1; exact absurd h h1
    · rename_i h1
      have h2 := stmE_mono hm (s := y) (pair := pair) (q := memB M) (by simpa using h1)
      rw [if_neg (by simpa using h2)]
      exact stmsE_mono hm ss _ h
theorem rulE_mono {known known' : Int → Bool} (hm : ∀ c, known c = true → known' c = true) {r : Rul} (h : rulE known r = 0) : rulE known' r = 0 := by
  have hk := (rulE_known h).1
  unfold rulE at h ⊢
  split at h
  · rename_i h1; exact absurd h h1
  · rename_i h1
    have h2 := stmsE_mono hm r.stmts [] (by simpa using h1)
    rw [if_neg (by simpa using h2), if_pos (hm _ hk)]
theorem rulsE_mono {known known' : Int → Bool} (hm : ∀ c, known c = true → known' c = true) : ∀ (p : List Rul) (M : List (List UInt8)) (i : Nat), (rulsE known M i p).2 = 0 → (rulsE known' M i p).2 = 0
  | [], M, i, _ => rfl
  | y :: p, M, i, h => by
    rw [rulsE] at h ⊢
    split at h
    · exact absurd h (by simp)
    rename_i h0
    rw [if_neg h0]
    split at h
    · rename_i h1; exact absurd h h1
    · rename_i h1
      have h2 := rulE_mono hm (r := y) (by simpa using h1)
      rw [if_neg (by simpa using h2)]
      exact rulsE_mono hm p _ _ h
theorem chkR_posts {p : List Rul} {l : List Account} (h : (chkR p l).2 = 0) : ∀ n ∈ postL p, knownB l n = true := by
  unfold chkR at h
  split at h
  · intro n hn
    unfold postL at hn
    obtain ⟨r, hr, hn⟩ := List.mem_flatMap.1 hn
    have hk := rulE_known (rulsE_known p [] 0 h r hr)
    rcases List.mem_cons.1 hn with rfl | hn
    · exact hk.1
    · unfold accs at hn
      obtain ⟨s, hs, rfl⟩ := List.mem_map.1 hn
      obtain ⟨h1, h2⟩ := List.mem_filter.1 hs
      exact hk.2 s h1 (by simpa using h2)
  · exact absurd h (by simp)
theorem knownB_more {l : List Account} {c : Int} (m : Account) (h : knownB l c = true) : knownB (l ++ [m]) c = true := by
  unfold knownB Cht.findS at h ⊢
  rw [List.find?_append]
  cases hf : l.find? (fun a => a.code == c)
  · rw [hf] at h; cases h
  · rfl
theorem chkR_more {p : List Rul} {l : List Account} (m : Account) (h : (chkR p l).2 = 0) (hv : Cht.validR (l ++ [m]) true = true) : (chkR p (l ++ [m])).2 = 0 := by
  unfold chkR at h ⊢
  split at h
  · rename_i h1
    rw [if_pos ⟨h1.1, hv⟩]
    exact rulsE_mono (fun c => knownB_more m) p [] 0 h
  · exact absurd h (by simp)

theorem l_lists (p : List Rul) (n : Int) : Pure Tryd.prog 5 [Rul.l p, vI n] (vB true) := by
  have ha := w_awake
  have hf := w_Few p
  by_cases h : fewB p = true
  case neg =>
    rw [Bool.not_eq_true] at h
    rw [h] at hf
    (refine Pure.of_code mix Tryd.call5 k_5 (by simp) (fun hB => ?_); (try simp at hB); (try simp -implicitDefEqProofs [c_tallystonelaw33_CheckLists_5]))
    ((try simp at ha); (try simp at hf); (try simp -implicitDefEqProofs); repeat' first | ((first | with_reducible refine gdK_em (fun hc => ?_) (fun hc => ?_) | with_reducible refine cdK_em (fun hc => ?_) (fun hc => ?_) | with_reducible refine pickK_em (fun hc => ?_) (fun hc => ?_)) <;> (have hc' := hc; (try simp at hc'); simp -implicitDefEqProofs [hc, hc'])) | (with_reducible apply callK_pure <;> first | (simp only [eras, era, eras_map]; first | with_reducible exact ha | with_reducible exact hf | simpa using ha | simpa using hf) | (simp -implicitDefEqProofs)))
  rw [h] at hf
  obtain ⟨a, b, c, _⟩ := few_of h
  have hp := w_progOf h
  have h1 := w_Posts p a b
  have h2 := w_rPosts p a b
  have h3 := w_Reads p n
  have h4 := w_rReads p n (by omega) (fun r hr => by have := b r hr; omega)
  rw [posts_eq] at h1
  have hRl : ((postM p).foldl putS []).length ≤ 3000 := by
    have q1 := foldl_put_len (postM p) []
    have q2 := postM_len p 40 b
    simp only [List.length_nil] at q1
    omega
  generalize (postM p).foldl putS [] = R at *
  generalize rdP n p = rb at *
  (refine Pure.of_code mix Tryd.call5 k_5 (by simp) (fun hB => ?_); (try simp at hB); (try simp -implicitDefEqProofs [c_tallystonelaw33_CheckLists_5]))
  ((try simp at ha); (try simp at hf); (try simp at hp); (try simp at h1); (try simp at h2); (try simp at h3); (try simp at h4); (try simp -implicitDefEqProofs); repeat' first | ((first | with_reducible refine gdK_em (fun hc => ?_) (fun hc => ?_) | with_reducible refine cdK_em (fun hc => ?_) (fun hc => ?_) | with_reducible refine pickK_em (fun hc => ?_) (fun hc => ?_)) <;> (have hc' := hc; (try simp at hc'); simp -implicitDefEqProofs [hc, hc'])) | (with_reducible apply callK_pure <;> first | (simp only [eras, era, eras_map]; first | with_reducible exact ha | with_reducible exact hf | with_reducible exact hp | with_reducible exact h1 | with_reducible exact h2 | with_reducible exact h3 | with_reducible exact h4 | simpa using ha | simpa using hf | simpa using hp | simpa using h1 | simpa using h2 | simpa using h3 | simpa using h4) | (simp -implicitDefEqProofs)))
  refine loop_rule (X := Nat) (fun i => i ≤ R.length) (fun i => [(5, intsV R), (6, intsV R), (7, vI i)]) (fun _ => ⟨[], []⟩) (fun i => R.length - i) 0 (by simp) (by simp) ?_
  rintro i hi hbd
  rcases Nat.lt_or_ge i R.length with g | g
  · have e3 : IntKind.i64.wrap ((i : Int) + 1) = (i : Int) + 1 := wrap64 (by omega) (by omega)
    ((try simp -implicitDefEqProofs [g, e3]); repeat' first | ((first | with_reducible refine gdK_em (fun hc => ?_) (fun hc => ?_) | with_reducible refine cdK_em (fun hc => ?_) (fun hc => ?_) | with_reducible refine pickK_em (fun hc => ?_) (fun hc => ?_)) <;> (have hc' := hc; (try simp at hc'); simp -implicitDefEqProofs [hc, hc', g, e3])))
    exact ⟨i + 1, by omega, by omega, by push_cast; rfl⟩
  · have : i = R.length := by omega
    subst this
    ((try simp -implicitDefEqProofs [g]); repeat' first | ((first | with_reducible refine gdK_em (fun hc => ?_) (fun hc => ?_) | with_reducible refine cdK_em (fun hc => ?_) (fun hc => ?_) | with_reducible refine pickK_em (fun hc => ?_) (fun hc => ?_)) <;> (have hc' := hc; (try simp at hc'); simp -implicitDefEqProofs [hc, hc', g])))
theorem l_accounts (p : List Rul) (l : List Account) (m : Account) : Pure Tryd.prog 6 [Rul.l p, Account.l l, m.v] (vB true) := by
  have ha := w_awake
  have hf := w_few p l
  by_cases h : (fewB p && decide (l.length ≤ 210)) = true
  case neg =>
    rw [Bool.not_eq_true] at h
    rw [h] at hf
    (refine Pure.of_code mix Tryd.call6 k_6 (by simp) (fun hB => ?_); (try simp at hB); (try simp -implicitDefEqProofs [c_tallystonelaw33_CheckAccounts_6]))
    ((try simp at ha); (try simp at hf); (try simp -implicitDefEqProofs); repeat' first | ((first | with_reducible refine gdK_em (fun hc => ?_) (fun hc => ?_) | with_reducible refine cdK_em (fun hc => ?_) (fun hc => ?_) | with_reducible refine pickK_em (fun hc => ?_) (fun hc => ?_)) <;> (have hc' := hc; (try simp at hc'); simp -implicitDefEqProofs [hc, hc'])) | (with_reducible apply callK_pure <;> first | (simp only [eras, era, eras_map]; first | with_reducible exact ha | with_reducible exact hf | simpa using ha | simpa using hf) | (simp -implicitDefEqProofs)))
  rw [h] at hf
  simp only [Bool.and_eq_true, decide_eq_true_eq] at h
  obtain ⟨h1, h2⟩ := h
  obtain ⟨a, b, c, _⟩ := few_of h1
  have hp := w_progOf h1
  have hc := w_CheckOf h1 h2
  by_cases he : (chkR p l).2 = 0
  case neg =>
    generalize chkR p l = q at *
    have he1 : (q.2 == 0) = false := by simpa using he
    have he2 : (q.2 != 0) = true := by simpa using he
    (refine Pure.of_code mix Tryd.call6 k_6 (by simp) (fun hB => ?_); (try simp at hB); (try simp -implicitDefEqProofs [c_tallystonelaw33_CheckAccounts_6]))
    ((try simp at ha); (try simp at hf); (try simp at hp); (try simp at hc); (try simp -implicitDefEqProofs [he, he1, he2]); repeat' first | ((first | with_reducible refine gdK_em (fun hc => ?_) (fun hc => ?_) | with_reducible refine cdK_em (fun hc => ?_) (fun hc => ?_) | with_reducible refine pickK_em (fun hc => ?_) (fun hc => ?_)) <;> (have hc' := hc; (try simp at hc'); simp -implicitDefEqProofs [hc, hc', he, he1, he2])) | (with_reducible apply callK_pure <;> first | (simp only [eras, era, eras_map]; first | with_reducible exact ha | with_reducible exact hf | with_reducible exact hp | with_reducible exact hc | simpa using ha | simpa using hf | simpa using hp | simpa using hc) | (simp -implicitDefEqProofs [he, he1, he2])))
  have hk := chkR_posts he
  have hmore := chkR_more m he
  rw [he] at hc
  have hP := w_Posts p a b
  have hin : ∀ n ∈ ddL (srtI (postL p)), knownB l n = true := fun n hn => hk n ((srtI_mem _ _).1 ((ddL_mem _ _).1 hn))
  have hcl := w_Check p (l ++ [m]) (fun r hr s hs => by have := c r hr s hs; omega) (by simp; omega)
  have hv := Cht.w_rcValid (l ++ [m]) true (by simp; omega)
  have hRl : (ddL (srtI (postL p))).length ≤ 3000 := by
    have q1 := ddL_len (srtI (postL p))
    rw [srtI_len] at q1
    have q2 := postL_len p 40 b
    omega
  generalize ddL (srtI (postL p)) = R at *
  obtain ⟨m1, m2, m3, m4⟩ := m
  (refine Pure.of_code mix Tryd.call6 k_6 (by simp) (fun hB => ?_); (try simp at hB); (try simp -implicitDefEqProofs [c_tallystonelaw33_CheckAccounts_6]))
  ((try simp at ha); (try simp at hf); (try simp at hp); (try simp at hc); (try simp at hP); (try simp -implicitDefEqProofs); repeat' first | ((first | with_reducible refine gdK_em (fun hc => ?_) (fun hc => ?_) | with_reducible refine cdK_em (fun hc => ?_) (fun hc => ?_) | with_reducible refine pickK_em (fun hc => ?_) (fun hc => ?_)) <;> (have hc' := hc; (try simp at hc'); simp -implicitDefEqProofs [hc, hc'])) | (with_reducible apply callK_pure <;> first | (simp only [eras, era, eras_map]; first | with_reducible exact ha | with_reducible exact hf | with_reducible exact hp | with_reducible exact hc | with_reducible exact hP | simpa using ha | simpa using hf | simpa using hp | simpa using hc | simpa using hP) | (simp -implicitDefEqProofs)))
  refine loop_rule (X := Nat) (fun i => i ≤ R.length) (fun i => [(0, Rul.l p), (1, Account.l l), (5, .ptr 0 0), (9, intsV R), (10, vI i)]) (fun _ => ⟨[.cells [vI m1, vI m2, vI m3, vI m4]], []⟩) (fun i => R.length - i) 0 (by simp) (by simp) ?_
  rintro i hi hbd
  clear hbd
  rcases Nat.lt_or_ge i R.length with g | g
  · have e3 : IntKind.i64.wrap ((i : Int) + 1) = (i : Int) + 1 := wrap64 (by omega) (by omega)
    have hfd := Cht.w_rcFind l R[i]
    have hkn := hin R[i] (List.getElem_mem g)
    unfold knownB at hkn
    rw [hkn] at hfd
    generalize (Cht.findS l R[i]).getD Cht.acc0 = a at *
    obtain ⟨c1, c2, c3, c4⟩ := a
    simp only [Account.v, Account.c, List.map] at hfd
    ((try simp at hfd); (try simp -implicitDefEqProofs [g, e3]); repeat' first | ((first | with_reducible refine gdK_em (fun hc => ?_) (fun hc => ?_) | with_reducible refine cdK_em (fun hc => ?_) (fun hc => ?_) | with_reducible refine pickK_em (fun hc => ?_) (fun hc => ?_)) <;> (have hc' := hc; (try simp at hc'); simp -implicitDefEqProofs [hc, hc', g, e3])) | (with_reducible apply callK_pure <;> first | (simp only [eras, era, eras_map]; first | with_reducible exact hfd | simpa using hfd) | (simp -implicitDefEqProofs [g, e3])))
    exact ⟨i + 1, by omega, by omega, by push_cast; rfl⟩
  have : i = R.length := by omega
  subst this
  have hall : ∀ a ∈ l, a.c.length = 4 := fun a _ => rfl
  have hcells : (l ++ [(⟨m1, m2, m3, m4⟩ : Account)]).map Account.c = l.map Account.c ++ [[.int .i64 m1, .int .i64 m2, .int .i64 m3, .int .i64 m4]] := by rw [List.map_append]; rfl
  simp only [Account.l, hcells] at hcl hv
  by_cases hvb : Cht.validR (l ++ [⟨m1, m2, m3, m4⟩]) true = true
  · have hm0 := hmore hvb
    rw [hm0] at hcl
    rw [hvb] at hv
    ((try simp -implicitDefEqProofs [g, hall]); repeat' first | ((first | with_reducible refine gdK_em (fun hc => ?_) (fun hc => ?_) | with_reducible refine cdK_em (fun hc => ?_) (fun hc => ?_) | with_reducible refine pickK_em (fun hc => ?_) (fun hc => ?_)) <;> (have hc' := hc; (try simp at hc'); simp -implicitDefEqProofs [hc, hc', g, hall])))
    by_cases hl0 : l = []
    · subst hl0
      simp only [List.map_nil, List.nil_append] at hcl hv
      ((try simp at hv); (try simp at hp); (try simp at hcl); (try simp -implicitDefEqProofs [maxLen]); repeat' first | ((first | with_reducible refine gdK_em (fun hc => ?_) (fun hc => ?_) | with_reducible refine cdK_em (fun hc => ?_) (fun hc => ?_) | with_reducible refine pickK_em (fun hc => ?_) (fun hc => ?_)) <;> (have hc' := hc; (try simp at hc'); simp -implicitDefEqProofs [hc, hc', maxLen])) | (with_reducible apply callK_pure <;> first | (simp only [eras, era, eras_map]; first | with_reducible exact hv | with_reducible exact hp | with_reducible exact hcl | simpa using hv | simpa using hp | simpa using hcl) | (simp -implicitDefEqProofs [maxLen])))
    · rw [if_neg hl0]
      refine ⟨⟨by unfold maxLen; omega, by omega⟩, ⟨by unfold maxLen; omega, by omega⟩, ?_⟩
      ((try simp at hv); (try simp at hp); (try simp at hcl); (try simp -implicitDefEqProofs); repeat' first | ((first | with_reducible refine gdK_em (fun hc => ?_) (fun hc => ?_) | with_reducible refine cdK_em (fun hc => ?_) (fun hc => ?_) | with_reducible refine pickK_em (fun hc => ?_) (fun hc => ?_)) <;> (have hc' := hc; (try simp at hc'); simp -implicitDefEqProofs [hc, hc'])) | (with_reducible apply callK_pure <;> first | (simp only [eras, era, eras_map]; first | with_reducible exact hv | with_reducible exact hp | with_reducible exact hcl | simpa using hv | simpa using hp | simpa using hcl) | (simp -implicitDefEqProofs)))
  · rw [Bool.not_eq_true] at hvb
    rw [hvb] at hv
    ((try simp -implicitDefEqProofs [g, hall]); repeat' first | ((first | with_reducible refine gdK_em (fun hc => ?_) (fun hc => ?_) | with_reducible refine cdK_em (fun hc => ?_) (fun hc => ?_) | with_reducible refine pickK_em (fun hc => ?_) (fun hc => ?_)) <;> (have hc' := hc; (try simp at hc'); simp -implicitDefEqProofs [hc, hc', g, hall])))
    by_cases hl0 : l = []
    · subst hl0
      simp only [List.map_nil, List.nil_append] at hcl hv
      ((try simp at hv); (try simp -implicitDefEqProofs [maxLen]); repeat' first | ((first | with_reducible refine gdK_em (fun hc => ?_) (fun hc => ?_) | with_reducible refine cdK_em (fun hc => ?_) (fun hc => ?_) | with_reducible refine pickK_em (fun hc => ?_) (fun hc => ?_)) <;> (have hc' := hc; (try simp at hc'); simp -implicitDefEqProofs [hc, hc', maxLen])) | (with_reducible apply callK_pure <;> first | (simp only [eras, era, eras_map]; first | with_reducible exact hv | simpa using hv) | (simp -implicitDefEqProofs [maxLen])))
    · rw [if_neg hl0]
      refine ⟨⟨by unfold maxLen; omega, by omega⟩, ⟨by unfold maxLen; omega, by omega⟩, ?_⟩
      ((try simp at hv); (try simp -implicitDefEqProofs); repeat' first | ((first | with_reducible refine gdK_em (fun hc => ?_) (fun hc => ?_) | with_reducible refine cdK_em (fun hc => ?_) (fun hc => ?_) | with_reducible refine pickK_em (fun hc => ?_) (fun hc => ?_)) <;> (have hc' := hc; (try simp at hc'); simp -implicitDefEqProofs [hc, hc'])) | (with_reducible apply callK_pure <;> first | (simp only [eras, era, eras_map]; first | with_reducible exact hv | simpa using hv) | (simp -implicitDefEqProofs)))
end Go.Proofs.YtnlkppaehbopaaaDoor
