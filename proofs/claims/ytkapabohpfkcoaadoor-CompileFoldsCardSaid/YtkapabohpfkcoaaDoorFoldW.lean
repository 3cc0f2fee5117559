/- Chapter 34: the walk of Fold. -/
import Derived.Test.YtkapabohpfkcoaaDoorFold
set_option linter.unusedSimpArgs false
set_option linter.unusedVariables false
set_option maxHeartbeats 2000000
set_option maxRecDepth 8000
namespace Go.Proofs.YtkapabohpfkcoaaDoor
open E
def foldR (c : Code) : Code × Int := if (meaR c).2 = true then (⟨c.name, c.pair, foldC c.ins⟩, 0) else (⟨[], false, []⟩, 1)
def bufF (o : List Ins) : Bx := .buf 87 3 ((o.flatMap Ins.c).map .t)
theorem w_fold (c : Code) (hlen : c.ins.length ≤ 1000) : Pure Tryd.prog 25 [c.v] (.tup [(foldR c).1.v, vI (foldR c).2]) := by
  have hval := meaB c (by omega)
  have htab := w_tab
  have hrow : ∀ n : Nat, n ≤ 26 → ((tabC.map V.t).drop (n * 4)).take 4 = [vS (nm n), vI (tk n), vI (pt n), vI (us n)] := fun n h => tab_row h
  have htl : (tabC.map V.t).length = 108 := by rw [List.length_map]; exact tab_len
  have htt : ∀ x ∈ tabC.map V.t, ∃ y, x = V.t y := fun x hx => by obtain ⟨y, _, rfl⟩ := List.mem_map.1 hx; exact ⟨y, rfl⟩
  have hok : ∀ n m, okNs n m (tabC.map V.t) = true := fun n m => okNs_map n m _
  have hops : (meaR c).2 = true → ∀ (k : Nat) (x : Ins), c.ins[k]? = some x → 1 ≤ x.op ∧ x.op ≤ 26 := fun h k x hx => mea_ops h hx
  unfold foldR
  obtain ⟨cn, pair, ins⟩ := c
  simp only [] at hlen hops
  cases hm : (meaR ⟨cn, pair, ins⟩).2
  · rw [hm] at hval
    (refine Pure.of_codeB mix Tryd.call25 kb_25 (by simp) (fun hB => ?_); (try simp at hB); (try simp -implicitDefEqProofs [b_compile_Fold_25]))
    ((try simp at hval); (try simp -implicitDefEqProofs); repeat' first | (with_reducible refine gdK_em (fun hc => ?_) (fun hc => ?_) <;> (have hc' := hc; (try simp at hc'); simp -implicitDefEqProofs [hc, hc'])) | (with_reducible refine cdK_em (fun hc => ?_) (fun hc => ?_) <;> (have hc' := hc; (try simp at hc'); simp -implicitDefEqProofs [hc, hc'])) | (with_reducible refine pickK_em (fun hc => ?_) (fun hc => ?_) <;> (have hc' := hc; (try simp at hc'); simp -implicitDefEqProofs [hc, hc'])) | (with_reducible apply callK_pure <;> first | (simp only [eras, era, eras_map]; first | with_reducible exact hval | simpa using hval) | (simp -implicitDefEqProofs)))
  rw [hm] at hval
  have hops := hops hm
  (refine Pure.of_codeB mix Tryd.call25 kb_25 (by simp) (fun hB => ?_); (try simp at hB); (try simp -implicitDefEqProofs [b_compile_Fold_25]))
  generalize tabC.map V.t = TB at *
  ((try simp at hval); (try simp at htab); (try simp -implicitDefEqProofs); repeat' first | (with_reducible refine gdK_em (fun hc => ?_) (fun hc => ?_) <;> (have hc' := hc; (try simp at hc'); simp -implicitDefEqProofs [hc, hc'])) | (with_reducible refine cdK_em (fun hc => ?_) (fun hc => ?_) <;> (have hc' := hc; (try simp at hc'); simp -implicitDefEqProofs [hc, hc'])) | (with_reducible refine pickK_em (fun hc => ?_) (fun hc => ?_) <;> (have hc' := hc; (try simp at hc'); simp -implicitDefEqProofs [hc, hc'])) | (with_reducible apply callK_pure <;> first | (simp only [eras, era, eras_map]; first | with_reducible exact hval | simpa using hval) | (simp -implicitDefEqProofs)) | (with_reducible apply callK_pure <;> first | (simp only [eras, era, eras_map]; first | with_reducible exact htab | simpa using htab) | (simp -implicitDefEqProofs)))
  refine ⟨⟨htl, fun x hx => by obtain ⟨y, rfl⟩ := htt x hx; rfl⟩, ?_⟩
  ((try simp -implicitDefEqProofs); repeat' first | (with_reducible refine gdK_em (fun hc => ?_) (fun hc => ?_) <;> (have hc' := hc; (try simp at hc'); simp -implicitDefEqProofs [hc, hc'])) | (with_reducible refine cdK_em (fun hc => ?_) (fun hc => ?_) <;> (have hc' := hc; (try simp at hc'); simp -implicitDefEqProofs [hc, hc'])) | (with_reducible refine pickK_em (fun hc => ?_) (fun hc => ?_) <;> (have hc' := hc; (try simp at hc'); simp -implicitDefEqProofs [hc, hc'])))
  refine ⟨⟨by unfold maxLen; omega, by omega⟩, ?_⟩
  refine loop_rule (X := Nat × List Bx) (fun X => X.1 ≤ ins.length ∧ Ahead [vS cn, vB pair, Ins.l ins] [vS [], vB false, .snil] TB X.2)
    (fun X => [(1, .ptr 0 0), (2, .ptr 1 0), (4, .ptr 2 0), (5, .bw X.2.length (foldC (ins.take X.1)).length), (25, Ins.l ins), (26, vI ins.length), (27, vI X.1)])
    (fun X => ⟨X.2 ++ [bufF (foldC (ins.take X.1))], []⟩) (fun X => ins.length - X.1) (0, [.cells [vS cn, vB pair, Ins.l ins], .cells [vS [], vB false, .snil], .cells TB]) ?h0 ?hs ?_
  case h0 => exact ⟨by simp, ⟨by simp, rfl, rfl, rfl, fun n m => by simp [LeBs, leB, LeL, leC, okNs, okN, hok]⟩⟩
  case hs => simp [htl, hok, foldC, bufF]
  rintro ⟨k, A⟩ ⟨hk, hA⟩ hbd
  simp only [] at hk hA
  clear hbd
  have hal := hA.len
  have gz : ∀ (l : List Bx), (A ++ l)[A.length]? = l[0]? := fun l => app_get 0
  have g1 : ∀ (l : List Bx) (j : Nat), (A ++ l)[A.length + j]? = l[j]? := fun l j => app_get j
  have s0 : ∀ (l : List Bx) (v : Bx), (A ++ l).set A.length v = A ++ l.set 0 v := fun l v => app_set 0 v
  have s1 : ∀ (l : List Bx) (j : Nat) (v : Bx), (A ++ l).set (A.length + j) v = A ++ l.set j v := fun l j v => app_set j v
  have a0 : ∀ (l : List Bx), (A ++ l)[0]? = some (.cells [vS cn, vB pair, Ins.l ins]) := fun l => by rw [List.getElem?_append_left (by omega)]; exact hA.g0
  have a1 : ∀ (l : List Bx), (A ++ l)[1]? = some (.cells [vS [], vB false, .snil]) := fun l => by rw [List.getElem?_append_left (by omega)]; exact hA.g1
  have a2 : ∀ (l : List Bx), (A ++ l)[2]? = some (.cells TB) := fun l => by rw [List.getElem?_append_left (by omega)]; exact hA.g2
  have a2' : ∀ (l : List Bx) (h : 2 < (A ++ l).length), (A ++ l)[2] = .cells TB := fun l h => by have := a2 l; rw [List.getElem?_eq_getElem h] at this; exact Option.some.inj this
  have hfl := foldC_length (ins.take k)
  rw [List.length_take, Nat.min_eq_left hk] at hfl
  rcases Nat.lt_or_ge k ins.length with h | h
  · have hx : ins[k]? = some ins[k] := by simp [h]
    have h' : ¬ ins.length ≤ k := by omega
    obtain ⟨o1, o2⟩ := hops k _ hx
    obtain ⟨n, hn⟩ : ∃ n : Nat, ins[k].op = n := ⟨ins[k].op.toNat, by omega⟩
    have hn26 : n ≤ 26 := by omega
    have hrn := hrow n hn26
    have hpk := pt_tk hn26
    have hd0 : TB.drop (n * 4) = vS (nm n) :: vI (tk n) :: vI (pt n) :: vI (us n) :: TB.drop (n * 4 + 4) := by
      have := List.take_append_drop 4 (TB.drop (n * 4))
      rw [hrn, List.drop_drop] at this
      exact this.symm
    have hd1 : TB[n * 4 + 1]? = some (vI (tk n)) := by
      have : (TB.drop (n * 4))[1]? = TB[n * 4 + 1]? := by rw [List.getElem?_drop]
      rw [← this, hd0]; rfl
    have hd2 : TB[n * 4 + 2]? = some (vI (pt n)) := by
      have : (TB.drop (n * 4))[2]? = TB[n * 4 + 2]? := by rw [List.getElem?_drop]
      rw [← this, hd0]; rfl
    have e5 : IntKind.i64.wrap ((k : Int) + 1) = (k : Int) + 1 := wrap64 (by omega) (by omega)
    have htk : foldC (ins.take (k + 1)) = foldStep (foldC (ins.take k)) ins[k] := by rw [take_next hx, foldC_snoc]
    generalize foldC (ins.take k) = o at *
    have hbl : ((o.flatMap Ins.c).map V.t).length = o.length * 3 := by
      clear htk hfl
      induction o with
      | nil => rfl
      | cons y o ih => simp only [List.flatMap_cons, List.map_append, List.length_append, ih, List.length_cons, Nat.succ_mul]; simp; omega
    simp only [bufF]
    generalize hbv : (o.flatMap Ins.c).map V.t = bv at *
    ((try simp -implicitDefEqProofs [h, h', gz, g1, s0, s1, a0, a1, a2, a2', hbl, hn, hd1, hd2]); repeat' first | (with_reducible refine gdK_em (fun hc => ?_) (fun hc => ?_) <;> (have hc' := hc; (try simp at hc'); simp -implicitDefEqProofs [hc, hc', h, h', gz, g1, s0, s1, a0, a1, a2, a2', hbl, hn, hd1, hd2])) | (with_reducible refine cdK_em (fun hc => ?_) (fun hc => ?_) <;> (have hc' := hc; (try simp at hc'); simp -implicitDefEqProofs [hc, hc', h, h', gz, g1, s0, s1, a0, a1, a2, a2', hbl, hn, hd1, hd2])) | (with_reducible refine pickK_em (fun hc => ?_) (fun hc => ?_) <;> (have hc' := hc; (try simp at hc'); simp -implicitDefEqProofs [hc, hc', h, h', gz, g1, s0, s1, a0, a1, a2, a2', hbl, hn, hd1, hd2])))
    refine ⟨⟨by unfold maxLen; omega, by omega⟩, by omega, by omega, by omega, by omega, ?_⟩
    have e6 : IntKind.i64.wrap (o.length : Int) = (o.length : Int) := wrap64 (by omega) (by omega)
    have hmore := hA.more [.dead, .dead] (by simp)
    have htb : bv.take (o.length * 3) = bv := List.take_of_length_le (by omega)
    have hokx : ∀ (a b : Nat) (q : List Ins), okNs a b ((q.flatMap Ins.c).map V.t) = true := fun a b q => okNs_map a b _
    rcases (by omega : pt n = 0 ∨ ¬ pt n = 0) with p0 | p0
    · have hst : foldStep o ins[k] = o ++ [ins[k]] := by unfold foldStep; simp only []; rw [if_pos (.inl (by rw [hn]; exact p0))]
      have p1 : (pt n == 0) = true := by simpa using p0
      ((try simp -implicitDefEqProofs [p1, e5, e6]); repeat' first | (with_reducible refine gdK_em (fun hc => ?_) (fun hc => ?_) <;> (have hc' := hc; (try simp at hc'); simp -implicitDefEqProofs [hc, hc', p1, e5, e6])) | (with_reducible refine cdK_em (fun hc => ?_) (fun hc => ?_) <;> (have hc' := hc; (try simp at hc'); simp -implicitDefEqProofs [hc, hc', p1, e5, e6])) | (with_reducible refine pickK_em (fun hc => ?_) (fun hc => ?_) <;> (have hc' := hc; (try simp at hc'); simp -implicitDefEqProofs [hc, hc', p1, e5, e6])))
      refine ⟨k + 1, A ++ [.dead, .dead], ⟨by omega, hmore⟩, by omega, ?_⟩
      rw [htk, hst]
      rw [htb, ← hbv, List.append_assoc]
      simp only [LeBs.app (hA.le _ _)]
      refine ⟨⟨trivial, trivial, ⟨rfl, rfl, ?_, hokx _ _ _⟩, trivial⟩, by simp, by simp, ?_, by push_cast; rfl⟩
      · simp [hn]
      · simp
    have p1 : (pt n == 0) = false := by simpa using p0
    rcases (by omega : tk n = 0 ∨ ¬ tk n = 0) with t0 | t0
    · have hst : foldStep o ins[k] = o ++ [ins[k]] := by unfold foldStep; simp only []; rw [if_pos (.inr (.inl (by rw [hn, t0]; rfl)))]
      have t1 : (tk n == 0) = true := by simpa using t0
      ((try simp -implicitDefEqProofs [p1, t1, e5, e6]); repeat' first | (with_reducible refine gdK_em (fun hc => ?_) (fun hc => ?_) <;> (have hc' := hc; (try simp at hc'); simp -implicitDefEqProofs [hc, hc', p1, t1, e5, e6])) | (with_reducible refine cdK_em (fun hc => ?_) (fun hc => ?_) <;> (have hc' := hc; (try simp at hc'); simp -implicitDefEqProofs [hc, hc', p1, t1, e5, e6])) | (with_reducible refine pickK_em (fun hc => ?_) (fun hc => ?_) <;> (have hc' := hc; (try simp at hc'); simp -implicitDefEqProofs [hc, hc', p1, t1, e5, e6])))
      refine ⟨k + 1, A ++ [.dead, .dead], ⟨by omega, hmore⟩, by omega, ?_⟩
      rw [htk, hst]
      rw [htb, ← hbv, List.append_assoc]
      simp only [LeBs.app (hA.le _ _)]
      refine ⟨⟨trivial, trivial, ⟨rfl, rfl, ?_, hokx _ _ _⟩, trivial⟩, by simp, by simp, ?_, by push_cast; rfl⟩
      · simp [hn]
      · simp
    have t1 : (tk n == 0) = false := by simpa using t0
    rcases (by omega : (o.length : Int) < tk n ∨ tk n ≤ (o.length : Int)) with l0 | l0
    · have hst : foldStep o ins[k] = o ++ [ins[k]] := by unfold foldStep; simp only []; rw [if_pos (.inr (.inr (by rw [hn]; omega)))]
      ((try simp -implicitDefEqProofs [p1, t1, l0, e5, e6]); repeat' first | (with_reducible refine gdK_em (fun hc => ?_) (fun hc => ?_) <;> (have hc' := hc; (try simp at hc'); simp -implicitDefEqProofs [hc, hc', p1, t1, l0, e5, e6])) | (with_reducible refine cdK_em (fun hc => ?_) (fun hc => ?_) <;> (have hc' := hc; (try simp at hc'); simp -implicitDefEqProofs [hc, hc', p1, t1, l0, e5, e6])) | (with_reducible refine pickK_em (fun hc => ?_) (fun hc => ?_) <;> (have hc' := hc; (try simp at hc'); simp -implicitDefEqProofs [hc, hc', p1, t1, l0, e5, e6])))
      refine ⟨k + 1, A ++ [.dead, .dead], ⟨by omega, hmore⟩, by omega, ?_⟩
      rw [htk, hst]
      rw [htb, ← hbv, List.append_assoc]
      simp only [LeBs.app (hA.le _ _)]
      refine ⟨⟨trivial, trivial, ⟨rfl, rfl, ?_, hokx _ _ _⟩, trivial⟩, by simp, by simp, ?_, by push_cast; rfl⟩
      · simp [hn]
      · simp
    have l1 : ¬ (o.length : Int) < tk n := by omega
    have e7 : IntKind.i64.wrap ((o.length : Int) - tk n) = (o.length : Int) - tk n := wrap64 (by omega) (by omega)
    obtain ⟨t, ht⟩ : ∃ t : Nat, tk n = t := ⟨(tk n).toNat, by omega⟩
    rw [ht] at hd1 hpk t0 t1 l0 l1 e7
    have htr : 1 ≤ t ∧ t ≤ 2 := by omega
    have htl2 : t ≤ o.length := by omega
    obtain ⟨m, hm'⟩ : ∃ m : Nat, (o.length : Int) - (t : Int) = (m : Int) := ⟨o.length - t, by omega⟩
    have hmo : o.length - t = m := by omega
    rw [hm'] at e7
    have lt1 : (m : Int) < (o.length : Int) := by omega
    have lt2 : (o.length : Int) - (m : Int) = (t : Int) := by omega
    obtain ⟨q, hq⟩ : ∃ q, o.drop m = q := ⟨_, rfl⟩
    have hql : q.length = t := by rw [← hq, List.length_drop]; omega
    have hqi : ∀ j (hj : j < q.length), q[j] = o[m + j]'(by omega) := fun j hj => by subst hq; simp
    obtain ⟨cx, hcx⟩ : ∃ cx, cx = bv ++ [vI n, vI ins[k].a, vI ins[k].b] := ⟨_, rfl⟩
    have hrow2 : ∀ j (hj : j < q.length), (cx.drop (m * 3 + j * 3)).take 3 = [vI q[j].op, vI q[j].a, vI q[j].b] ∧ m * 3 + j * 3 + 3 ≤ cx.length := fun j hj => by
      have := fm_row o [vI n, vI ins[k].a, vI ins[k].b] (m + j) (by omega)
      rw [hbv, ← hcx, Nat.add_mul] at this
      refine ⟨by rw [this, hqi j hj], ?_⟩
      rw [hcx, List.length_append, hbl]
      simp
      omega
    have hcl : cx.length = o.length * 3 + 3 := by rw [hcx, List.length_append, hbl]; rfl
    have hS2 : OkS ⟨A ++ [.dead, .cells [vI n, vI ins[k].a, vI ins[k].b], .buf 87 3 cx], []⟩ := by
      refine ⟨(LeBs.app (hA.le _ _)).2 ⟨trivial, ⟨LeL_refl _, rfl⟩, ⟨rfl, rfl, LeL_refl _, ?_⟩, trivial⟩, trivial⟩
      rw [hcx, ← hbv]
      have := okNs_map (A.length + 3) 0 ((o.flatMap Ins.c) ++ [tI n, tI ins[k].a, tI ins[k].b])
      simpa using this
    have hcf := w_cfV ⟨A ++ [.dead, .cells [vI n, vI ins[k].a, vI ins[k].b], .buf 87 3 cx], []⟩ hS2 (A.length + 2) (m * 3) 3 87 cx (by rw [g1]; rfl) q (by omega) (fun j hj => by
      have := hrow2 j hj
      exact this)
    rw [hql] at hcf
    ((try simp -implicitDefEqProofs [p1, t1, l1, e5, e6, e7, ht, hm', lt1, lt2, htb]); repeat' first | (with_reducible refine gdK_em (fun hc => ?_) (fun hc => ?_) <;> (have hc' := hc; (try simp at hc'); simp -implicitDefEqProofs [hc, hc', p1, t1, l1, e5, e6, e7, ht, hm', lt1, lt2, htb])) | (with_reducible refine cdK_em (fun hc => ?_) (fun hc => ?_) <;> (have hc' := hc; (try simp at hc'); simp -implicitDefEqProofs [hc, hc', p1, t1, l1, e5, e6, e7, ht, hm', lt1, lt2, htb])) | (with_reducible refine pickK_em (fun hc => ?_) (fun hc => ?_) <;> (have hc' := hc; (try simp at hc'); simp -implicitDefEqProofs [hc, hc', p1, t1, l1, e5, e6, e7, ht, hm', lt1, lt2, htb])))
    refine ⟨by omega, ?_⟩
    rw [← hcx]
    refine callK_fn hcf (fun h => by cases h) ?_
    cases hany : q.any fun y => y.op != 1
    · rcases (by omega : t = 1 ∨ t = 2) with rfl | rfl
      · obtain ⟨q0, rfl⟩ := List.length_eq_one_iff.1 hql
        have hr0 := (hrow2 0 (by simp)).1
        have hc1 : cx[m * 3 + 1]? = some (vI q0.a) := by
          have h9 : ((cx.drop (m * 3 + 0 * 3)).take 3)[1]? = cx[m * 3 + 1]? := by simp
          rw [← h9, hr0]; rfl
        have hcl1 : m * 3 + 1 + 1 ≤ cx.length := by omega
        have hg1 : ∀ h : m * 3 + 1 < cx.length, cx[m * 3 + 1]'h = vI q0.a := fun h => by
          rw [List.getElem?_eq_getElem h] at hc1
          exact Option.some.inj hc1
        have hop := w_op n ins[k].a q0.a 0
        obtain ⟨rv, rb, hrr⟩ : ∃ rv rb, opC n ins[k].a q0.a 0 = (rv, rb) := ⟨_, _, rfl⟩
        rw [hrr] at hop
        have hst : foldStep o ins[k] = if rb = true then o.take m ++ [⟨1, rv, 0⟩] else o ++ [ins[k]] := by
          unfold foldStep argsF
          simp only []
          rw [hn, ht]
          simp only [Int.toNat_natCast, hmo, hq, hany, Bool.false_eq_true, if_false]
          rw [if_neg (by omega)]
          simp [hrr]
        simp only [vO] at hop
        have e8 : IntKind.i64.wrap ((o.length : Int) - 1) = (m : Int) := by rw [show (o.length : Int) - 1 = (m : Int) from hm']; exact e7
        have hctk : cx.take (m * 3) = ((o.take m).flatMap Ins.c).map V.t := by rw [hcx, ← hbv]; exact fm_take o _ m (by omega)
        have htm : (o.take m).length = m := by rw [List.length_take]; omega
        cases rb
        · ((try simp at hop); (try simp -implicitDefEqProofs [g1, hc1, hg1, hcl1, e5, e8]); repeat' first | (with_reducible refine gdK_em (fun hc => ?_) (fun hc => ?_) <;> (have hc' := hc; (try simp at hc'); simp -implicitDefEqProofs [hc, hc', g1, hc1, hg1, hcl1, e5, e8])) | (with_reducible refine cdK_em (fun hc => ?_) (fun hc => ?_) <;> (have hc' := hc; (try simp at hc'); simp -implicitDefEqProofs [hc, hc', g1, hc1, hg1, hcl1, e5, e8])) | (with_reducible refine pickK_em (fun hc => ?_) (fun hc => ?_) <;> (have hc' := hc; (try simp at hc'); simp -implicitDefEqProofs [hc, hc', g1, hc1, hg1, hcl1, e5, e8])) | (with_reducible apply callK_pure <;> first | (simp only [eras, era, eras_map]; first | with_reducible exact hop | simpa using hop) | (simp -implicitDefEqProofs [g1, hc1, hg1, hcl1, e5, e8])))
          refine ⟨k + 1, A ++ [.dead, .dead], ⟨by omega, hmore⟩, by omega, ?_⟩
          rw [htk, hst, if_neg (by simp)]
          rw [hcx, ← hbv, List.append_assoc]
          simp only [LeBs.app (hA.le _ _)]
          refine ⟨⟨trivial, trivial, ⟨rfl, rfl, ?_, hokx _ _ _⟩, trivial⟩, by simp, by simp, ?_, by push_cast; rfl⟩
          · simp [hn]
          · simp
        · ((try simp at hop); (try simp -implicitDefEqProofs [g1, hc1, hg1, hcl1, e5, e8]); repeat' first | (with_reducible refine gdK_em (fun hc => ?_) (fun hc => ?_) <;> (have hc' := hc; (try simp at hc'); simp -implicitDefEqProofs [hc, hc', g1, hc1, hg1, hcl1, e5, e8])) | (with_reducible refine cdK_em (fun hc => ?_) (fun hc => ?_) <;> (have hc' := hc; (try simp at hc'); simp -implicitDefEqProofs [hc, hc', g1, hc1, hg1, hcl1, e5, e8])) | (with_reducible refine pickK_em (fun hc => ?_) (fun hc => ?_) <;> (have hc' := hc; (try simp at hc'); simp -implicitDefEqProofs [hc, hc', g1, hc1, hg1, hcl1, e5, e8])) | (with_reducible apply callK_pure <;> first | (simp only [eras, era, eras_map]; first | with_reducible exact hop | simpa using hop) | (simp -implicitDefEqProofs [g1, hc1, hg1, hcl1, e5, e8])))
          refine ⟨by omega, ⟨by omega, by unfold maxLen; omega, by omega⟩, k + 1, A ++ [.dead, .dead, .dead], ⟨by omega, hA.more [.dead, .dead, .dead] (by simp)⟩, by omega, ?_⟩
          rw [htk, hst, if_pos rfl]
          rw [hctk, List.append_assoc]
          simp only [LeBs.app (hA.le _ _)]
          refine ⟨⟨trivial, trivial, trivial, ⟨rfl, rfl, ?_, hokx _ _ _⟩, trivial⟩, by simp, by simp, ?_, by push_cast; rfl⟩
          · simp
          · simp [htm]
      · obtain ⟨q0, q1, rfl⟩ : ∃ q0 q1, q = [q0, q1] := by
          match q, hql with
          | [a, b], _ => exact ⟨a, b, rfl⟩
        have hr0 := (hrow2 0 (by simp)).1
        have hc1 : cx[m * 3 + 1]? = some (vI q0.a) := by
          have h9 : ((cx.drop (m * 3 + 0 * 3)).take 3)[1]? = cx[m * 3 + 1]? := by simp
          rw [← h9, hr0]; rfl
        have hcl1 : m * 3 + 1 + 1 ≤ cx.length := by omega
        have hg1 : ∀ h : m * 3 + 1 < cx.length, cx[m * 3 + 1]'h = vI q0.a := fun h => by
          rw [List.getElem?_eq_getElem h] at hc1
          exact Option.some.inj hc1
        have hr1 := (hrow2 1 (by simp)).1
        have hd1' : cx[m * 3 + 3 + 1]? = some (vI q1.a) := by
          have h9 : ((cx.drop (m * 3 + 1 * 3)).take 3)[1]? = cx[m * 3 + 3 + 1]? := by simp
          rw [← h9, hr1]; rfl
        have hdl1 : m * 3 + 3 + 1 + 1 ≤ cx.length := by omega
        have hg2 : ∀ h : m * 3 + 3 + 1 < cx.length, cx[m * 3 + 3 + 1]'h = vI q1.a := fun h => by
          rw [List.getElem?_eq_getElem h] at hd1'
          exact Option.some.inj hd1'
        have hop := w_op n ins[k].a q0.a q1.a
        obtain ⟨rv, rb, hrr⟩ : ∃ rv rb, opC n ins[k].a q0.a q1.a = (rv, rb) := ⟨_, _, rfl⟩
        rw [hrr] at hop
        have hst : foldStep o ins[k] = if rb = true then o.take m ++ [⟨1, rv, 0⟩] else o ++ [ins[k]] := by
          unfold foldStep argsF
          simp only []
          rw [hn, ht]
          simp only [Int.toNat_natCast, hmo, hq, hany, Bool.false_eq_true, if_false]
          rw [if_neg (by omega)]
          simp [hrr]
        simp only [vO] at hop
        have e8 : IntKind.i64.wrap ((o.length : Int) - 2) = (m : Int) := by rw [show (o.length : Int) - 2 = (m : Int) from hm']; exact e7
        have hctk : cx.take (m * 3) = ((o.take m).flatMap Ins.c).map V.t := by rw [hcx, ← hbv]; exact fm_take o _ m (by omega)
        have htm : (o.take m).length = m := by rw [List.length_take]; omega
        cases rb
        · ((try simp at hop); (try simp -implicitDefEqProofs [g1, hc1, hg1, hcl1, hd1', hg2, hdl1, e5, e8]); repeat' first | (with_reducible refine gdK_em (fun hc => ?_) (fun hc => ?_) <;> (have hc' := hc; (try simp at hc'); simp -implicitDefEqProofs [hc, hc', g1, hc1, hg1, hcl1, hd1', hg2, hdl1, e5, e8])) | (with_reducible refine cdK_em (fun hc => ?_) (fun hc => ?_) <;> (have hc' := hc; (try simp at hc'); simp -implicitDefEqProofs [hc, hc', g1, hc1, hg1, hcl1, hd1', hg2, hdl1, e5, e8])) | (with_reducible refine pickK_em (fun hc => ?_) (fun hc => ?_) <;> (have hc' := hc; (try simp at hc'); simp -implicitDefEqProofs [hc, hc', g1, hc1, hg1, hcl1, hd1', hg2, hdl1, e5, e8])) | (with_reducible apply callK_pure <;> first | (simp only [eras, era, eras_map]; first | with_reducible exact hop | simpa using hop) | (simp -implicitDefEqProofs [g1, hc1, hg1, hcl1, hd1', hg2, hdl1, e5, e8])))
          refine ⟨k + 1, A ++ [.dead, .dead], ⟨by omega, hmore⟩, by omega, ?_⟩
          rw [htk, hst, if_neg (by simp)]
          rw [hcx, ← hbv, List.append_assoc]
          simp only [LeBs.app (hA.le _ _)]
          refine ⟨⟨trivial, trivial, ⟨rfl, rfl, ?_, hokx _ _ _⟩, trivial⟩, by simp, by simp, ?_, by push_cast; rfl⟩
          · simp [hn]
          · simp
        · ((try simp at hop); (try simp -implicitDefEqProofs [g1, hc1, hg1, hcl1, hd1', hg2, hdl1, e5, e8]); repeat' first | (with_reducible refine gdK_em (fun hc => ?_) (fun hc => ?_) <;> (have hc' := hc; (try simp at hc'); simp -implicitDefEqProofs [hc, hc', g1, hc1, hg1, hcl1, hd1', hg2, hdl1, e5, e8])) | (with_reducible refine cdK_em (fun hc => ?_) (fun hc => ?_) <;> (have hc' := hc; (try simp at hc'); simp -implicitDefEqProofs [hc, hc', g1, hc1, hg1, hcl1, hd1', hg2, hdl1, e5, e8])) | (with_reducible refine pickK_em (fun hc => ?_) (fun hc => ?_) <;> (have hc' := hc; (try simp at hc'); simp -implicitDefEqProofs [hc, hc', g1, hc1, hg1, hcl1, hd1', hg2, hdl1, e5, e8])) | (with_reducible apply callK_pure <;> first | (simp only [eras, era, eras_map]; first | with_reducible exact hop | simpa using hop) | (simp -implicitDefEqProofs [g1, hc1, hg1, hcl1, hd1', hg2, hdl1, e5, e8])))
          refine ⟨by omega, ⟨by omega, by unfold maxLen; omega, by omega⟩, k + 1, A ++ [.dead, .dead, .dead], ⟨by omega, hA.more [.dead, .dead, .dead] (by simp)⟩, by omega, ?_⟩
          rw [htk, hst, if_pos rfl]
          rw [hctk, List.append_assoc]
          simp only [LeBs.app (hA.le _ _)]
          refine ⟨⟨trivial, trivial, trivial, ⟨rfl, rfl, ?_, hokx _ _ _⟩, trivial⟩, by simp, by simp, ?_, by push_cast; rfl⟩
          · simp
          · simp [htm]
    · have hst : foldStep o ins[k] = o ++ [ins[k]] := by
        unfold foldStep argsF
        simp only []
        rw [hn, ht]
        simp only [Int.toNat_natCast, hmo, hq, hany, if_true]
        split <;> rfl
      ((try simp -implicitDefEqProofs [e5]); repeat' first | (with_reducible refine gdK_em (fun hc => ?_) (fun hc => ?_) <;> (have hc' := hc; (try simp at hc'); simp -implicitDefEqProofs [hc, hc', e5])) | (with_reducible refine cdK_em (fun hc => ?_) (fun hc => ?_) <;> (have hc' := hc; (try simp at hc'); simp -implicitDefEqProofs [hc, hc', e5])) | (with_reducible refine pickK_em (fun hc => ?_) (fun hc => ?_) <;> (have hc' := hc; (try simp at hc'); simp -implicitDefEqProofs [hc, hc', e5])))
      refine ⟨k + 1, A ++ [.dead, .dead], ⟨by omega, hmore⟩, by omega, ?_⟩
      rw [htk, hst]
      rw [hcx, ← hbv, List.append_assoc]
      simp only [LeBs.app (hA.le _ _)]
      refine ⟨⟨trivial, trivial, ⟨rfl, rfl, ?_, hokx _ _ _⟩, trivial⟩, by simp, by simp, ?_, by push_cast; rfl⟩
      · simp [hn]
      · simp
  · have hke : k = ins.length := by omega
    subst hke
    rw [List.take_length] at *
    generalize hfo : foldC ins = o at *
    have hbl : ((o.flatMap Ins.c).map V.t).length = o.length * 3 := by
      clear hfo hfl
      induction o with
      | nil => rfl
      | cons y o ih => simp only [List.flatMap_cons, List.map_append, List.length_append, ih, List.length_cons, Nat.succ_mul]; simp; omega
    have a0' : ∀ (l : List Bx) (h : 0 < (A ++ l).length), (A ++ l)[0] = .cells [vS cn, vB pair, Ins.l ins] := fun l h => by have := a0 l; rw [List.getElem?_eq_getElem h] at this; exact Option.some.inj this
    have a1' : ∀ (l : List Bx) (h : 1 < (A ++ l).length), (A ++ l)[1] = .cells [vS [], vB false, .snil] := fun l h => by have := a1 l; rw [List.getElem?_eq_getElem h] at this; exact Option.some.inj this
    have t1 : ∀ (l : List Bx) (v : Bx), (A ++ l).set 1 v = A.set 1 v ++ l := fun l v => by rw [List.set_append, if_pos (by omega)]
    have t2 : ∀ (l : List Bx) (v : Bx), (A.set 1 v ++ l)[1]? = some v := fun l v => by rw [List.getElem?_append_left (by simp; omega), List.getElem?_set_self (by omega)]
    have t2' : ∀ (l : List Bx) (v : Bx) (h : 1 < (A.set 1 v ++ l).length), (A.set 1 v ++ l)[1] = v := fun l v h => by have := t2 l v; rw [List.getElem?_eq_getElem h] at this; exact Option.some.inj this
    have t3 : ∀ (l : List Bx) (v : Bx), (A.set 1 v ++ l)[A.length]? = l[0]? := fun l v => by rw [List.getElem?_append_right (by simp)]; simp
    have t4 : ∀ (l : List Bx) (v u : Bx), (A.set 1 v ++ l).set A.length u = A.set 1 v ++ l.set 0 u := fun l v u => by rw [List.set_append, if_neg (by simp)]; simp
    simp only [bufF]
    generalize hbv : (o.flatMap Ins.c).map V.t = bv at *
    ((try simp -implicitDefEqProofs [gz, g1, s0, s1, a0, a1, a2, a2', a0', a1', t1, t2, t2', t3, t4, hbl]); repeat' first | (with_reducible refine gdK_em (fun hc => ?_) (fun hc => ?_) <;> (have hc' := hc; (try simp at hc'); simp -implicitDefEqProofs [hc, hc', gz, g1, s0, s1, a0, a1, a2, a2', a0', a1', t1, t2, t2', t3, t4, hbl])) | (with_reducible refine cdK_em (fun hc => ?_) (fun hc => ?_) <;> (have hc' := hc; (try simp at hc'); simp -implicitDefEqProofs [hc, hc', gz, g1, s0, s1, a0, a1, a2, a2', a0', a1', t1, t2, t2', t3, t4, hbl])) | (with_reducible refine pickK_em (fun hc => ?_) (fun hc => ?_) <;> (have hc' := hc; (try simp at hc'); simp -implicitDefEqProofs [hc, hc', gz, g1, s0, s1, a0, a1, a2, a2', a0', a1', t1, t2, t2', t3, t4, hbl])))
    have hbr := bw_rows o
    rw [hbv] at hbr
    rw [hbr]
    exact .inl rfl
end Go.Proofs.YtkapabohpfkcoaaDoor
