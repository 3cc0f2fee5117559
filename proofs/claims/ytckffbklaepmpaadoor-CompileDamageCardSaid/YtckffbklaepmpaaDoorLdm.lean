/- Chapter 34: the law CompileDamage. -/
import Derived.Test.YtckffbklaepmpaaDoorLcm
set_option linter.unusedSimpArgs false
set_option linter.unusedVariables false
set_option maxHeartbeats 4000000
set_option maxRecDepth 8000
namespace Go.Proofs.YtckffbklaepmpaaDoor
open E

def takR (op : Int) : Int × Int := if 1 ≤ op ∧ op ≤ 4 then (0, 1) else if 5 ≤ op ∧ op ≤ 9 then (1, 1) else if 10 ≤ op ∧ op ≤ 22 then (2, 1) else if 23 ≤ op ∧ op ≤ 25 then (1, 0) else (0, 0)
theorem w_rtak (op : Int) : Pure Tryd.prog 11 [vI op] (.tup [vI (takR op).1, vI (takR op).2]) := by
  unfold takR
  (refine Pure.of_code mix Tryd.call11 k_11 (by simp) (fun hB => ?_); (try simp at hB); (try simp -implicitDefEqProofs [c_tallystoneref34_Takes_11]))
  ((try simp -implicitDefEqProofs); repeat' first | ((first | with_reducible refine gdK_em (fun hc => ?_) (fun hc => ?_) | with_reducible refine cdK_em (fun hc => ?_) (fun hc => ?_) | with_reducible refine pickK_em (fun hc => ?_) (fun hc => ?_)) <;> (have hc' := hc; (try simp at hc'); simp -implicitDefEqProofs [hc, hc'])))
  all_goals ((repeat' split) <;> simp_all <;> omega)
theorem takR_eq {op : Int} (h1 : 1 ≤ op) (h2 : op ≤ 26) : takR op = (tk op, pt op) := by
  rcases (by omega : op = 1 ∨ op = 2 ∨ op = 3 ∨ op = 4 ∨ op = 5 ∨ op = 6 ∨ op = 7 ∨ op = 8 ∨ op = 9 ∨ op = 10 ∨ op = 11 ∨ op = 12 ∨ op = 13 ∨ op = 14 ∨ op = 15 ∨ op = 16 ∨ op = 17 ∨ op = 18 ∨ op = 19 ∨ op = 20 ∨ op = 21 ∨ op = 22 ∨ op = 23 ∨ op = 24 ∨ op = 25 ∨ op = 26) with rfl | rfl | rfl | rfl | rfl | rfl | rfl | rfl | rfl | rfl | rfl | rfl | rfl | rfl | rfl | rfl | rfl | rfl | rfl | rfl | rfl | rfl | rfl | rfl | rfl | rfl <;> decide
theorem valid_op {c : Code} (h : (meaR c).2 = true) : ∀ x ∈ c.ins, 1 ≤ x.op ∧ x.op ≤ 26 := by
  obtain ⟨_, s, hs⟩ := (meaR_runF c).1 h
  have gen : ∀ (l : List Ins) (i : Nat) (s s' : Int × Int × Int), runF c.ins.length c.pair i l s = some s' → ∀ x ∈ l, 1 ≤ x.op ∧ x.op ≤ 26 := by
    intro l
    induction l with
    | nil => intro _ _ _ _ x hx; cases hx
    | cons y l ih =>
      intro i s s' hr x hx
      rw [runF] at hr
      cases hy : stepM c.ins.length c.pair i y s with
      | none => rw [hy] at hr; cases hr
      | some s1 =>
        rw [hy] at hr
        rcases List.mem_cons.1 hx with rfl | hx
        · obtain ⟨a, b, _⟩ := step_in hy
          exact ⟨a, b⟩
        · exact ih (i + 1) s1 s' hr x hx
  exact gen c.ins 0 _ _ hs
theorem l_damage (p : List Rul) (l : List Account) (n : Int) (hn0 : 0 ≤ n) (hn : n ≤ 65535) : Pure Tryd.prog 4 [Rul.l p, Account.l l, .t (.int .u16 n)] (vB true) := by
  have ha := w_awake
  have hf := w_few p l
  by_cases h : (fewB p && decide (l.length ≤ 210)) = true
  case neg =>
    rw [Bool.not_eq_true] at h
    rw [h] at hf
    (refine Pure.of_code mix Tryd.call4 k_4 (by simp) (fun hB => ?_); (try simp at hB); (try simp -implicitDefEqProofs [c_tallystonelaw34_CompileDamage_4]))
    ((try simp at ha); (try simp at hf); (try simp -implicitDefEqProofs); repeat' first | ((first | with_reducible refine gdK_em (fun hc => ?_) (fun hc => ?_) | with_reducible refine cdK_em (fun hc => ?_) (fun hc => ?_) | with_reducible refine pickK_em (fun hc => ?_) (fun hc => ?_)) <;> (have hc' := hc; (try simp at hc'); simp -implicitDefEqProofs [hc, hc'])) | (with_reducible apply callK_pure <;> first | (simp only [eras, era, eras_map]; first | with_reducible exact ha | with_reducible exact hf | simpa using ha | simpa using hf) | (simp -implicitDefEqProofs)))
  rw [h] at hf
  simp only [Bool.and_eq_true, decide_eq_true_eq] at h
  obtain ⟨h1, h2⟩ := h
  obtain ⟨fa, fb, fc⟩ := few_of h1
  have fd := few_cnt h1
  have hp := w_progOf h1
  have hc := w_CompOf h1 h2
  unfold cmpR at hc
  by_cases h0 : (chkR p l).2 = 0
  case neg =>
    rw [if_neg h0] at hc
    generalize chkR p l = q at *
    have q1 : (q.2 == 0) = false := by simpa using h0
    have q2 : (q.2 != 0) = true := by simpa using h0
    (refine Pure.of_code mix Tryd.call4 k_4 (by simp) (fun hB => ?_); (try simp at hB); (try simp -implicitDefEqProofs [c_tallystonelaw34_CompileDamage_4]))
    ((try simp at ha); (try simp at hf); (try simp at hp); (try simp at hc); (try simp -implicitDefEqProofs [h0, q1, q2]); repeat' first | ((first | with_reducible refine gdK_em (fun hc => ?_) (fun hc => ?_) | with_reducible refine cdK_em (fun hc => ?_) (fun hc => ?_) | with_reducible refine pickK_em (fun hc => ?_) (fun hc => ?_)) <;> (have hc' := hc; (try simp at hc'); simp -implicitDefEqProofs [hc, hc', h0, q1, q2])) | (with_reducible apply callK_pure <;> first | (simp only [eras, era, eras_map]; first | with_reducible exact ha | with_reducible exact hf | with_reducible exact hp | with_reducible exact hc | simpa using ha | simpa using hf | simpa using hp | simpa using hc) | (simp -implicitDefEqProofs [h0, q1, q2])))
  rw [if_pos h0] at hc
  have hall := chkR_all h0
  obtain ⟨L, hL⟩ : ∃ L, L = (p.map codeR).map Code.c := ⟨_, rfl⟩
  have hLl : L.length = p.length := by rw [hL]; simp
  simp only [] at hc
  rw [← hL] at hc
  by_cases hp0 : p.length = 0
  · have : p = [] := List.length_eq_zero_iff.1 hp0
    subst this
    have : L = [] := by rw [hL]; rfl
    subst this
    (refine Pure.of_code mix Tryd.call4 k_4 (by simp) (fun hB => ?_); (try simp at hB); (try simp -implicitDefEqProofs [c_tallystonelaw34_CompileDamage_4]))
    ((try simp at ha); (try simp at hf); (try simp at hp); (try simp at hc); (try simp -implicitDefEqProofs); repeat' first | ((first | with_reducible refine gdK_em (fun hc => ?_) (fun hc => ?_) | with_reducible refine cdK_em (fun hc => ?_) (fun hc => ?_) | with_reducible refine pickK_em (fun hc => ?_) (fun hc => ?_)) <;> (have hc' := hc; (try simp at hc'); simp -implicitDefEqProofs [hc, hc'])) | (with_reducible apply callK_pure <;> first | (simp only [eras, era, eras_map]; first | with_reducible exact ha | with_reducible exact hf | with_reducible exact hp | with_reducible exact hc | simpa using ha | simpa using hf | simpa using hp | simpa using hc) | (simp -implicitDefEqProofs)))
  have hp1 : ((p.length : Int) == 0) = false := by rw [beq_eq_false_iff_ne]; omega
  have hp2 : ¬ (p.length : Int) = 0 := by omega
  have hp3 : L ≠ [] := fun e => by rw [e] at hLl; simp at hLl; omega
  obtain ⟨i, hi⟩ : ∃ i : Nat, n.tmod (p.length : Int) = i := ⟨(n.tmod (p.length : Int)).toNat, by rw [Int.toNat_of_nonneg (Int.tmod_nonneg _ hn0)]⟩
  have g : i < p.length := by
    have := Int.tmod_lt_of_pos n (show (0 : Int) < (p.length : Int) by omega)
    omega
  obtain ⟨v1, v2⟩ := hall p[i] (List.getElem_mem g)
  have hvalid := codeR_valid v1 v2
  have hclen := codeR_len p[i]
  have hsl := fb p[i] (List.getElem_mem g)
  have hcs := fd p[i] (List.getElem_mem g)
  have hLk : L[i]? = some [.str (codeR p[i]).name, .bool (codeR p[i]).pair, .sl ((codeR p[i]).ins.map Ins.c)] := by rw [hL]; simp [g, Code.c]
  have hops := valid_op hvalid
  generalize codeR p[i] = cd at *
  have hdam := fun (k : Nat) (x : Ins) (hx : cd.ins[k]? = some x) (hd : tk x.op ≠ pt x.op ∨ k + 1 = cd.ins.length) => damage hvalid hx hd
  have hcl : cd.ins.length ≤ 10000 := by omega
  have hcl1 : 1 ≤ cd.ins.length := by omega
  clear hvalid hclen v1 v2 hsl hcs
  obtain ⟨cn, cp, ci⟩ := cd
  simp only [] at hLk hops hdam hcl hcl1
  have hLe : ∀ h, L[i]'h = [.str cn, .bool cp, .sl (ci.map Ins.c)] := fun h => by rw [List.getElem?_eq_getElem h] at hLk; exact Option.some.inj hLk
  obtain ⟨m, hm⟩ : ∃ m : Nat, n.tdiv (p.length : Int) = m := ⟨(n.tdiv (p.length : Int)).toNat, by rw [Int.toNat_of_nonneg (Int.tdiv_nonneg hn0 (by omega))]⟩
  have hmn : (m : Int) ≤ n := by rw [← hm]; exact Int.tdiv_le_self _ hn0
  obtain ⟨k, hk⟩ : ∃ k : Nat, (m : Int).tmod (ci.length : Int) = k := ⟨((m : Int).tmod (ci.length : Int)).toNat, by rw [Int.toNat_of_nonneg (Int.tmod_nonneg _ (by omega))]⟩
  have hkc : k < ci.length := by
    have := Int.tmod_lt_of_pos (m : Int) (show (0 : Int) < (ci.length : Int) by omega)
    omega
  have hx : ci[k]? = some ci[k] := by simp [hkc]
  obtain ⟨o1, o2⟩ := hops ci[k] (List.getElem_mem hkc)
  have htk := w_rtak ci[k].op
  rw [takR_eq o1 o2] at htk
  simp only [] at htk
  have hd := hdam k ci[k] hx
  have hcell : (ci.map Ins.c)[k]? = some [.int .i64 ci[k].op, .int .i64 ci[k].a, .int .i64 ci[k].b] := by simp [hkc, Ins.c]
  have e0 : IntKind.i64.wrap n = n := wrap64 (by omega) (by omega)
  have e1 : IntKind.i64.wrap (m : Int) = m := wrap64 (by omega) (by omega)
  have e2 : IntKind.i64.wrap ((k : Int) + 1) = (k : Int) + 1 := wrap64 (by omega) (by omega)
  have e3 : IntKind.i64.wrap ((ci.length : Int) - 1) = (ci.length : Int) - 1 := wrap64 (by omega) (by omega)
  have c1 : ((ci.length : Int) == 0) = false := by rw [beq_eq_false_iff_ne]; omega
  have c2 : ¬ (ci.length : Int) = 0 := by omega
  have c3 : ¬ ci = [] := fun e => by rw [e] at hcl1; simp at hcl1
  (refine Pure.of_code mix Tryd.call4 k_4 (by simp) (fun hB => ?_); (try simp at hB); (try simp -implicitDefEqProofs [c_tallystonelaw34_CompileDamage_4]))
  ((try simp at ha); (try simp at hf); (try simp at hp); (try simp at hc); (try simp -implicitDefEqProofs [hLl, hp1, hp2, hp3, e0, hi, g, hLk, hLe, hm, e1, c1, c2, c3, hk, hkc]); repeat' first | ((first | with_reducible refine gdK_em (fun hc => ?_) (fun hc => ?_) | with_reducible refine cdK_em (fun hc => ?_) (fun hc => ?_) | with_reducible refine pickK_em (fun hc => ?_) (fun hc => ?_)) <;> (have hc' := hc; (try simp at hc'); simp -implicitDefEqProofs [hc, hc', hLl, hp1, hp2, hp3, e0, hi, g, hLk, hLe, hm, e1, c1, c2, c3, hk, hkc])) | (with_reducible apply callK_pure <;> first | (simp only [eras, era, eras_map]; first | with_reducible exact ha | with_reducible exact hf | with_reducible exact hp | with_reducible exact hc | simpa using ha | simpa using hf | simpa using hp | simpa using hc) | (simp -implicitDefEqProofs [hLl, hp1, hp2, hp3, e0, hi, g, hLk, hLe, hm, e1, c1, c2, c3, hk, hkc])))
  refine ⟨fun e => by rw [e] at hp0; simp at hp0, ?_⟩
  by_cases hA : tk ci[k].op = pt ci[k].op ∧ (k : Int) < (ci.length : Int) - 1
  · obtain ⟨a1, a2⟩ := hA
    rw [a1] at htk
    have a3 : decide ((k : Int) < (ci.length : Int) - 1) = true := by simpa using a2
    ((try simp at htk); (try simp -implicitDefEqProofs [a2, a3, e3]); repeat' first | ((first | with_reducible refine gdK_em (fun hc => ?_) (fun hc => ?_) | with_reducible refine cdK_em (fun hc => ?_) (fun hc => ?_) | with_reducible refine pickK_em (fun hc => ?_) (fun hc => ?_)) <;> (have hc' := hc; (try simp at hc'); simp -implicitDefEqProofs [hc, hc', a2, a3, e3])) | (with_reducible apply callK_pure <;> first | (simp only [eras, era, eras_map]; first | with_reducible exact htk | simpa using htk) | (simp -implicitDefEqProofs [a2, a3, e3])))
  have hB := hd (by
    by_cases q : tk ci[k].op = pt ci[k].op
    · right
      have : ¬ (k : Int) < (ci.length : Int) - 1 := fun z => hA ⟨q, z⟩
      omega
    · left; exact q)
  have hval := meaB ⟨cn, cp, ci.take k ++ ci.drop (k + 1)⟩ (by simp; omega)
  rw [hB] at hval
  simp only [Code.v, Code.c, List.map_append, List.map_cons, List.map_nil, List.map_take, List.map_drop] at hval
  have r1 : ∀ y ∈ List.take k (List.map Ins.c ci), y.length = 3 := fun y hy => by
    obtain ⟨z, _, rfl⟩ := List.mem_map.1 (List.mem_of_mem_take hy); rfl
  have r2 : List.take ci.length (List.map Ins.c ci) = List.map Ins.c ci := List.take_of_length_le (by simp)
  have r3 : ∀ y ∈ List.drop (k + 1) (List.map Ins.c ci), y.length = 3 := fun y hy => by
    obtain ⟨z, _, rfl⟩ := List.mem_map.1 (List.mem_of_mem_drop hy); rfl
  by_cases q : tk ci[k].op = pt ci[k].op
  · have z : ¬ (k : Int) < (ci.length : Int) - 1 := fun z => hA ⟨q, z⟩
    have z1 : decide ((k : Int) < (ci.length : Int) - 1) = false := by simpa using z
    rw [q] at htk
    ((try simp at htk); (try simp -implicitDefEqProofs [z, z1, e2, e3]); repeat' first | ((first | with_reducible refine gdK_em (fun hc => ?_) (fun hc => ?_) | with_reducible refine cdK_em (fun hc => ?_) (fun hc => ?_) | with_reducible refine pickK_em (fun hc => ?_) (fun hc => ?_)) <;> (have hc' := hc; (try simp at hc'); simp -implicitDefEqProofs [hc, hc', z, z1, e2, e3])) | (with_reducible apply callK_pure <;> first | (simp only [eras, era, eras_map]; first | with_reducible exact htk | simpa using htk) | (simp -implicitDefEqProofs [z, z1, e2, e3])))
    rw [r2]
    refine ⟨by omega, r1, ?_⟩
    by_cases k0 : k = 0
    · rw [if_pos (Or.inl k0)]
      refine ⟨⟨by omega, by omega⟩, r3, ?_⟩
      by_cases k1 : ci.length ≤ k + 1
      · rw [if_pos k1]
        rw [(show List.take k (List.map Ins.c ci) ++ List.drop (k + 1) (List.map Ins.c ci) = [] by rw [k0, List.take_zero, List.nil_append]; exact List.drop_eq_nil_of_le (by rw [List.length_map]; omega))] at hval
        ((try simp at hval); (try simp -implicitDefEqProofs); repeat' first | ((first | with_reducible refine gdK_em (fun hc => ?_) (fun hc => ?_) | with_reducible refine cdK_em (fun hc => ?_) (fun hc => ?_) | with_reducible refine pickK_em (fun hc => ?_) (fun hc => ?_)) <;> (have hc' := hc; (try simp at hc'); simp -implicitDefEqProofs [hc, hc'])) | (with_reducible apply callK_pure <;> first | (simp only [eras, era, eras_map]; first | with_reducible exact hval | simpa using hval) | (simp -implicitDefEqProofs)))
      · rw [if_neg k1]
        rw [(show List.take k (List.map Ins.c ci) ++ List.drop (k + 1) (List.map Ins.c ci) = List.drop (k + 1) (List.map Ins.c ci) by rw [k0, List.take_zero, List.nil_append])] at hval
        refine ⟨⟨by simp only [maxLen]; omega, by omega⟩, ?_⟩
        ((try simp at hval); (try simp -implicitDefEqProofs); repeat' first | ((first | with_reducible refine gdK_em (fun hc => ?_) (fun hc => ?_) | with_reducible refine cdK_em (fun hc => ?_) (fun hc => ?_) | with_reducible refine pickK_em (fun hc => ?_) (fun hc => ?_)) <;> (have hc' := hc; (try simp at hc'); simp -implicitDefEqProofs [hc, hc'])) | (with_reducible apply callK_pure <;> first | (simp only [eras, era, eras_map]; first | with_reducible exact hval | simpa using hval) | (simp -implicitDefEqProofs)))
    · rw [if_neg (by rintro (x | x); exact k0 x; exact c3 x)]
      refine ⟨⟨by simp only [maxLen]; omega, by omega⟩, ⟨by omega, by omega⟩, r3, ⟨by simp only [maxLen]; omega, by omega⟩, ?_⟩
      ((try simp at hval); (try simp -implicitDefEqProofs); repeat' first | ((first | with_reducible refine gdK_em (fun hc => ?_) (fun hc => ?_) | with_reducible refine cdK_em (fun hc => ?_) (fun hc => ?_) | with_reducible refine pickK_em (fun hc => ?_) (fun hc => ?_)) <;> (have hc' := hc; (try simp at hc'); simp -implicitDefEqProofs [hc, hc'])) | (with_reducible apply callK_pure <;> first | (simp only [eras, era, eras_map]; first | with_reducible exact hval | simpa using hval) | (simp -implicitDefEqProofs)))
  · have q1 : (tk ci[k].op == pt ci[k].op) = false := by simpa using q
    ((try simp at htk); (try simp -implicitDefEqProofs [q, q1, e2, e3]); repeat' first | ((first | with_reducible refine gdK_em (fun hc => ?_) (fun hc => ?_) | with_reducible refine cdK_em (fun hc => ?_) (fun hc => ?_) | with_reducible refine pickK_em (fun hc => ?_) (fun hc => ?_)) <;> (have hc' := hc; (try simp at hc'); simp -implicitDefEqProofs [hc, hc', q, q1, e2, e3])) | (with_reducible apply callK_pure <;> first | (simp only [eras, era, eras_map]; first | with_reducible exact htk | simpa using htk) | (simp -implicitDefEqProofs [q, q1, e2, e3])))
    rw [r2]
    refine ⟨by omega, r1, ?_⟩
    by_cases k0 : k = 0
    · rw [if_pos (Or.inl k0)]
      refine ⟨⟨by omega, by omega⟩, r3, ?_⟩
      by_cases k1 : ci.length ≤ k + 1
      · rw [if_pos k1]
        rw [(show List.take k (List.map Ins.c ci) ++ List.drop (k + 1) (List.map Ins.c ci) = [] by rw [k0, List.take_zero, List.nil_append]; exact List.drop_eq_nil_of_le (by rw [List.length_map]; omega))] at hval
        ((try simp at hval); (try simp -implicitDefEqProofs); repeat' first | ((first | with_reducible refine gdK_em (fun hc => ?_) (fun hc => ?_) | with_reducible refine cdK_em (fun hc => ?_) (fun hc => ?_) | with_reducible refine pickK_em (fun hc => ?_) (fun hc => ?_)) <;> (have hc' := hc; (try simp at hc'); simp -implicitDefEqProofs [hc, hc'])) | (with_reducible apply callK_pure <;> first | (simp only [eras, era, eras_map]; first | with_reducible exact hval | simpa using hval) | (simp -implicitDefEqProofs)))
      · rw [if_neg k1]
        rw [(show List.take k (List.map Ins.c ci) ++ List.drop (k + 1) (List.map Ins.c ci) = List.drop (k + 1) (List.map Ins.c ci) by rw [k0, List.take_zero, List.nil_append])] at hval
        refine ⟨⟨by simp only [maxLen]; omega, by omega⟩, ?_⟩
        ((try simp at hval); (try simp -implicitDefEqProofs); repeat' first | ((first | with_reducible refine gdK_em (fun hc => ?_) (fun hc => ?_) | with_reducible refine cdK_em (fun hc => ?_) (fun hc => ?_) | with_reducible refine pickK_em (fun hc => ?_) (fun hc => ?_)) <;> (have hc' := hc; (try simp at hc'); simp -implicitDefEqProofs [hc, hc'])) | (with_reducible apply callK_pure <;> first | (simp only [eras, era, eras_map]; first | with_reducible exact hval | simpa using hval) | (simp -implicitDefEqProofs)))
    · rw [if_neg (by rintro (x | x); exact k0 x; exact c3 x)]
      refine ⟨⟨by simp only [maxLen]; omega, by omega⟩, ⟨by omega, by omega⟩, r3, ⟨by simp only [maxLen]; omega, by omega⟩, ?_⟩
      ((try simp at hval); (try simp -implicitDefEqProofs); repeat' first | ((first | with_reducible refine gdK_em (fun hc => ?_) (fun hc => ?_) | with_reducible refine cdK_em (fun hc => ?_) (fun hc => ?_) | with_reducible refine pickK_em (fun hc => ?_) (fun hc => ?_)) <;> (have hc' := hc; (try simp at hc'); simp -implicitDefEqProofs [hc, hc'])) | (with_reducible apply callK_pure <;> first | (simp only [eras, era, eras_map]; first | with_reducible exact hval | simpa using hval) | (simp -implicitDefEqProofs)))
end Go.Proofs.YtckffbklaepmpaaDoor
