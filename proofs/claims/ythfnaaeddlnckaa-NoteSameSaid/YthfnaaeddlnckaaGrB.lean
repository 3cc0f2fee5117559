/- Walks of the groups: the reference's entities, what is found, what is small. -/
import Derived.Test.YthfnaaeddlnckaaGrA
section
set_option linter.unusedSimpArgs false
set_option linter.unusedVariables false
set_option maxHeartbeats 1000000
set_option maxRecDepth 8000
namespace Go.Proofs.Ythfnaaeddlnckaa
open E

def badR (r : Role) (c : Int) : Bool := c == r.code && !r.mapped
def lnkP (L : List Role) (ls : List Link) (k : Nat) : Bool := !(L.any fun r => badR r (ls.getD k lnk0).to)
def entR (g : Group) (x : Ent) : Bool := nameB x.name && curB x.cur && mapR x g.chart && allB (lnkP (rolesOf g.roles) x.links) x.links.length

theorem w_rEntity (g : Group) (x : Ent) (hg : g.chart.length ≤ 1000000) (hn : x.name.length ≤ 9223372036854775807) (hc : x.cur.length ≤ 9223372036854775807) (hx : x.chart.length ≤ 1000000) :
    Pure Try.prog 44 [g.v, x.v] (vB (entR g x)) := by
  have vn := w_rname x.name hn
  have vc := w_rcur x.cur hc
  have vm := w_rmValid x g.chart hg hx
  have hr := w_rroles g.roles
  unfold entR
  have h15 := rolesOf_length g.roles
  generalize rolesOf g.roles = L at *
  cases hvn : nameB x.name
  · rw [hvn] at vn
    (refine Pure.of_code mix Try.call44 k_44 (by simp) (fun hB => ?_); (try simp at hB); (try simp -implicitDefEqProofs [c_tallystoneref10_entity_44]))
    ((try simp at vn); (try simp -implicitDefEqProofs); repeat' first | (with_reducible refine gdK_em (fun hc => ?_) (fun hc => ?_) <;> (have hc' := hc; (try simp at hc'); simp -implicitDefEqProofs [hc, hc'])) | (with_reducible refine cdK_em (fun hc => ?_) (fun hc => ?_) <;> (have hc' := hc; (try simp at hc'); simp -implicitDefEqProofs [hc, hc'])) | (with_reducible refine pickK_em (fun hc => ?_) (fun hc => ?_) <;> (have hc' := hc; (try simp at hc'); simp -implicitDefEqProofs [hc, hc'])) | (with_reducible apply callK_pure <;> first | (simp only [eras, era, eras_map]; first | with_reducible exact vn | simpa using vn) | (simp -implicitDefEqProofs)))
  rw [hvn] at vn
  cases hvc : curB x.cur
  · rw [hvc] at vc
    (refine Pure.of_code mix Try.call44 k_44 (by simp) (fun hB => ?_); (try simp at hB); (try simp -implicitDefEqProofs [c_tallystoneref10_entity_44]))
    ((try simp at vn); (try simp at vc); (try simp -implicitDefEqProofs); repeat' first | (with_reducible refine gdK_em (fun hc => ?_) (fun hc => ?_) <;> (have hc' := hc; (try simp at hc'); simp -implicitDefEqProofs [hc, hc'])) | (with_reducible refine cdK_em (fun hc => ?_) (fun hc => ?_) <;> (have hc' := hc; (try simp at hc'); simp -implicitDefEqProofs [hc, hc'])) | (with_reducible refine pickK_em (fun hc => ?_) (fun hc => ?_) <;> (have hc' := hc; (try simp at hc'); simp -implicitDefEqProofs [hc, hc'])) | (with_reducible apply callK_pure <;> first | (simp only [eras, era, eras_map]; first | with_reducible exact vn | simpa using vn) | (simp -implicitDefEqProofs)) | (with_reducible apply callK_pure <;> first | (simp only [eras, era, eras_map]; first | with_reducible exact vc | simpa using vc) | (simp -implicitDefEqProofs)))
  rw [hvc] at vc
  cases hvm : mapR x g.chart
  · rw [hvm] at vm
    (refine Pure.of_code mix Try.call44 k_44 (by simp) (fun hB => ?_); (try simp at hB); (try simp -implicitDefEqProofs [c_tallystoneref10_entity_44]))
    ((try simp at vn); (try simp at vc); (try simp at vm); (try simp -implicitDefEqProofs); repeat' first | (with_reducible refine gdK_em (fun hc => ?_) (fun hc => ?_) <;> (have hc' := hc; (try simp at hc'); simp -implicitDefEqProofs [hc, hc'])) | (with_reducible refine cdK_em (fun hc => ?_) (fun hc => ?_) <;> (have hc' := hc; (try simp at hc'); simp -implicitDefEqProofs [hc, hc'])) | (with_reducible refine pickK_em (fun hc => ?_) (fun hc => ?_) <;> (have hc' := hc; (try simp at hc'); simp -implicitDefEqProofs [hc, hc'])) | (with_reducible apply callK_pure <;> first | (simp only [eras, era, eras_map]; first | with_reducible exact vn | simpa using vn) | (simp -implicitDefEqProofs)) | (with_reducible apply callK_pure <;> first | (simp only [eras, era, eras_map]; first | with_reducible exact vc | simpa using vc) | (simp -implicitDefEqProofs)) | (with_reducible apply callK_pure <;> first | (simp only [eras, era, eras_map]; first | with_reducible exact vm | simpa using vm) | (simp -implicitDefEqProofs)))
  rw [hvm] at vm
  (refine Pure.of_code mix Try.call44 k_44 (by simp) (fun hB => ?_); (try simp at hB); (try simp -implicitDefEqProofs [c_tallystoneref10_entity_44]))
  ((try simp at vn); (try simp at vc); (try simp at vm); (try simp at hr); (try simp -implicitDefEqProofs); repeat' first | (with_reducible refine gdK_em (fun hc => ?_) (fun hc => ?_) <;> (have hc' := hc; (try simp at hc'); simp -implicitDefEqProofs [hc, hc'])) | (with_reducible refine cdK_em (fun hc => ?_) (fun hc => ?_) <;> (have hc' := hc; (try simp at hc'); simp -implicitDefEqProofs [hc, hc'])) | (with_reducible refine pickK_em (fun hc => ?_) (fun hc => ?_) <;> (have hc' := hc; (try simp at hc'); simp -implicitDefEqProofs [hc, hc'])) | (with_reducible apply callK_pure <;> first | (simp only [eras, era, eras_map]; first | with_reducible exact vn | simpa using vn) | (simp -implicitDefEqProofs)) | (with_reducible apply callK_pure <;> first | (simp only [eras, era, eras_map]; first | with_reducible exact vc | simpa using vc) | (simp -implicitDefEqProofs)) | (with_reducible apply callK_pure <;> first | (simp only [eras, era, eras_map]; first | with_reducible exact vm | simpa using vm) | (simp -implicitDefEqProofs)) | (with_reducible apply callK_pure <;> first | (simp only [eras, era, eras_map]; first | with_reducible exact hr | simpa using hr) | (simp -implicitDefEqProofs)))
  have hlm : x.links.length ≤ 9223372036854775807 := by simp [maxLen] at hB; omega
  refine loop_rule (X := Nat) (fun k => k ≤ x.links.length ∧ allB (lnkP L x.links) k = true) (fun k => [(3, .ptr 1 0), (5, Role.l L), (6, vI k)])
    (fun k => ⟨[.cells (g.c.map .t), .cells (x.c.map .t)], []⟩) (fun k => x.links.length - k) 0 ⟨by simp, rfl⟩ (by simp) ?_
  rintro k ⟨hk, hn⟩ hbd
  rcases Nat.lt_or_ge k x.links.length with h | h
  · have hg : x.links.getD k lnk0 = x.links[k] := by simp [List.getD_eq_getElem?_getD, h]
    have hsucc := allB_succ (lnkP L x.links) k
    have hfl := allB_false (p := lnkP L x.links) h
    simp only [lnkP, hn, hg, Bool.true_and] at hsucc hfl
    change allB (lnkP L x.links) (k + 1) = _ at hsucc
    change _ → allB (lnkP L x.links) x.links.length = false at hfl
    have e3 : IntKind.i64.wrap ((k : Int) + 1) = (k : Int) + 1 := wrap64 (by omega) (by omega)
    ((try simp -implicitDefEqProofs [h]); repeat' first | (with_reducible refine gdK_em (fun hc => ?_) (fun hc => ?_) <;> (have hc' := hc; (try simp at hc'); simp -implicitDefEqProofs [hc, hc', h])) | (with_reducible refine cdK_em (fun hc => ?_) (fun hc => ?_) <;> (have hc' := hc; (try simp at hc'); simp -implicitDefEqProofs [hc, hc', h])) | (with_reducible refine pickK_em (fun hc => ?_) (fun hc => ?_) <;> (have hc' := hc; (try simp at hc'); simp -implicitDefEqProofs [hc, hc', h])))
    refine loop_rule (X := Nat) (fun j => j ≤ L.length ∧ ∀ r ∈ L.take j, badR r x.links[k].to = false) (fun j => [(3, .ptr 1 0), (5, Role.l L), (6, vI k), (7, vI j)])
      (fun _ => ⟨[.cells (g.c.map .t), .cells (x.c.map .t)], []⟩) (fun j => L.length - j) 0 ⟨by omega, by simp⟩ (by simp) ?_
    rintro j ⟨hj, hjn⟩ hbd2
    by_cases hjk : j < L.length
    · have hjx : L[j]? = some L[j] := by simp [hjk]
      have e5 : IntKind.i64.wrap ((j : Int) + 1) = (j : Int) + 1 := wrap64 (by omega) (by omega)
      cases hb : badR L[j] x.links[k].to
      · have step : ∀ r ∈ L.take (j + 1), badR r x.links[k].to = false := fun r hr => by
          rw [take_next hjx] at hr
          rcases List.mem_append.1 hr with h | h
          · exact hjn r h
          · simp at h; subst h; exact hb
        unfold badR at hb
        by_cases hc1 : x.links[k].to = L[j].code
        · have hc1b : (x.links[k].to == L[j].code) = true := by simpa using hc1
          have hm : L[j].mapped = true := by simpa [hc1] using hb
          ((try simp -implicitDefEqProofs [hjk, e5, h, hc1b, hm]); repeat' first | (with_reducible refine gdK_em (fun hc => ?_) (fun hc => ?_) <;> (have hc' := hc; (try simp at hc'); simp -implicitDefEqProofs [hc, hc', hjk, e5, h, hc1b, hm])) | (with_reducible refine cdK_em (fun hc => ?_) (fun hc => ?_) <;> (have hc' := hc; (try simp at hc'); simp -implicitDefEqProofs [hc, hc', hjk, e5, h, hc1b, hm])) | (with_reducible refine pickK_em (fun hc => ?_) (fun hc => ?_) <;> (have hc' := hc; (try simp at hc'); simp -implicitDefEqProofs [hc, hc', hjk, e5, h, hc1b, hm])))
          exact ⟨j + 1, ⟨by omega, by first | exact step | (rw [← List.map_take]; exact step)⟩, by omega, by omega⟩
        · have hc1b : (x.links[k].to == L[j].code) = false := by simpa using hc1
          ((try simp -implicitDefEqProofs [hjk, e5, h, hc1b]); repeat' first | (with_reducible refine gdK_em (fun hc => ?_) (fun hc => ?_) <;> (have hc' := hc; (try simp at hc'); simp -implicitDefEqProofs [hc, hc', hjk, e5, h, hc1b])) | (with_reducible refine cdK_em (fun hc => ?_) (fun hc => ?_) <;> (have hc' := hc; (try simp at hc'); simp -implicitDefEqProofs [hc, hc', hjk, e5, h, hc1b])) | (with_reducible refine pickK_em (fun hc => ?_) (fun hc => ?_) <;> (have hc' := hc; (try simp at hc'); simp -implicitDefEqProofs [hc, hc', hjk, e5, h, hc1b])))
          exact ⟨j + 1, ⟨by omega, by first | exact step | (rw [← List.map_take]; exact step)⟩, by omega, by omega⟩
      · have hany : (L.any fun r => badR r x.links[k].to) = true := by rw [List.any_eq_true]; exact ⟨L[j], List.getElem_mem hjk, hb⟩
        rw [hfl (by simp only [hany, Bool.not_true])]
        simp [badR] at hb
        have hc1b : (x.links[k].to == L[j].code) = true := by simpa using hb.1
        have hm : L[j].mapped = false := hb.2
        ((try simp -implicitDefEqProofs [hjk, e5, h, hc1b, hm]); repeat' first | (with_reducible refine gdK_em (fun hc => ?_) (fun hc => ?_) <;> (have hc' := hc; (try simp at hc'); simp -implicitDefEqProofs [hc, hc', hjk, e5, h, hc1b, hm])) | (with_reducible refine cdK_em (fun hc => ?_) (fun hc => ?_) <;> (have hc' := hc; (try simp at hc'); simp -implicitDefEqProofs [hc, hc', hjk, e5, h, hc1b, hm])) | (with_reducible refine pickK_em (fun hc => ?_) (fun hc => ?_) <;> (have hc' := hc; (try simp at hc'); simp -implicitDefEqProofs [hc, hc', hjk, e5, h, hc1b, hm])))
    · have hjk2 : j = L.length := by omega
      subst hjk2
      rw [List.take_length] at hjn
      have hany : (L.any fun r => badR r x.links[k].to) = false := by rw [List.any_eq_false]; exact fun r hr => by rw [hjn r hr]; simp
      rw [hany] at hsucc
      ((try simp -implicitDefEqProofs [h, e3]); repeat' first | (with_reducible refine gdK_em (fun hc => ?_) (fun hc => ?_) <;> (have hc' := hc; (try simp at hc'); simp -implicitDefEqProofs [hc, hc', h, e3])) | (with_reducible refine cdK_em (fun hc => ?_) (fun hc => ?_) <;> (have hc' := hc; (try simp at hc'); simp -implicitDefEqProofs [hc, hc', h, e3])) | (with_reducible refine pickK_em (fun hc => ?_) (fun hc => ?_) <;> (have hc' := hc; (try simp at hc'); simp -implicitDefEqProofs [hc, hc', h, e3])))
      exact ⟨k + 1, ⟨by omega, hsucc⟩, by omega, by omega⟩
  · have : k = x.links.length := by omega
    subst this
    rw [hn]
    ((try simp -implicitDefEqProofs); repeat' first | (with_reducible refine gdK_em (fun hc => ?_) (fun hc => ?_) <;> (have hc' := hc; (try simp at hc'); simp -implicitDefEqProofs [hc, hc'])) | (with_reducible refine cdK_em (fun hc => ?_) (fun hc => ?_) <;> (have hc' := hc; (try simp at hc'); simp -implicitDefEqProofs [hc, hc'])) | (with_reducible refine pickK_em (fun hc => ?_) (fun hc => ?_) <;> (have hc' := hc; (try simp at hc'); simp -implicitDefEqProofs [hc, hc'])))
end Go.Proofs.Ythfnaaeddlnckaa
end

/- Walks of the groups: what is found, what is valid, what is small. -/
section
set_option linter.unusedSimpArgs false
set_option linter.unusedVariables false
set_option maxHeartbeats 1000000
set_option maxRecDepth 8000
namespace Go.Proofs.Ythfnaaeddlnckaa
open E

theorem idxS_find {l : List Account} {code : Int} : (idxS (fun a => a.code == code) l = -1 ∧ findS l code = none) ∨ ∃ k, ∃ h : k < l.length, idxS (fun a => a.code == code) l = k ∧ findS l code = some l[k] := by
  cases h : l.findIdx? (fun a => a.code == code) with
  | none =>
    left
    refine ⟨by simp [idxS, h], ?_⟩
    rw [List.findIdx?_eq_none_iff] at h
    simp only [findS, List.find?_eq_none]
    intro x hx; simpa using h x hx
  | some i =>
    right
    have h' := h
    rw [List.findIdx?_eq_some_iff_getElem] at h
    obtain ⟨h1, h2, h3⟩ := h
    refine ⟨i, h1, by simp [idxS, h'], ?_⟩
    simp only [findS, List.find?_eq_some_iff_getElem]
    exact ⟨h2, i, h1, rfl, fun j hj => by simpa using h3 j hj⟩

theorem w_Acc1 (c0 c2 : List V) (h0 : okNs 3 0 c0 = true) (h2 : okNs 3 0 c2 = true) (code : Int) (a : Account) :
    FnS Try.prog 57 [a.v, .ptr 1 0] ⟨[.cells c0, .cells [vI code], .cells c2], []⟩ (.t (.bool (a.code == code))) ⟨[.cells c0, .cells [vI code], .cells c2], []⟩ := by
  (refine FnS.of_code mix Try.call57 k_57 (by simp) (fun hB => ?_); (try simp at hB); (try simp -implicitDefEqProofs [c_group_AccountS1_57, Account.c]))
  ((try simp -implicitDefEqProofs [h0, h2]); repeat' first | (with_reducible refine gdK_em (fun hc => ?_) (fun hc => ?_) <;> (have hc' := hc; (try simp at hc'); simp -implicitDefEqProofs [hc, hc', h0, h2])) | (with_reducible refine cdK_em (fun hc => ?_) (fun hc => ?_) <;> (have hc' := hc; (try simp at hc'); simp -implicitDefEqProofs [hc, hc', h0, h2])) | (with_reducible refine pickK_em (fun hc => ?_) (fun hc => ?_) <;> (have hc' := hc; (try simp at hc'); simp -implicitDefEqProofs [hc, hc', h0, h2])))

theorem w_gAccount (g : Group) (code : Int) : Pure Try.prog 32 [g.v, vI code] (.tup [((findS g.chart code).getD acc0).v, vB (findS g.chart code).isSome]) := by
  (refine Pure.of_code mix Try.call32 k_32 (by simp) (fun hB => ?_); (try simp at hB); (try simp -implicitDefEqProofs [c_group_Account_32]))
  refine callK_fn (w_IndexA _ ?_ g.chart _ _ ?_ (fun a => a.code == code) (fun a _ => w_Acc1 _ _ ?_ ?_ code a)) (fun hd => by cases hd) ?_
  · simp [OkS]
  · simp
  · simp
  · simp
  rcases idxS_find (l := g.chart) (code := code) with ⟨h1, h2⟩ | ⟨k, hk, h1, h2⟩
  · rw [h1, h2]
    ((try simp -implicitDefEqProofs [acc0]); repeat' first | (with_reducible refine gdK_em (fun hc => ?_) (fun hc => ?_) <;> (have hc' := hc; (try simp at hc'); simp -implicitDefEqProofs [hc, hc', acc0])) | (with_reducible refine cdK_em (fun hc => ?_) (fun hc => ?_) <;> (have hc' := hc; (try simp at hc'); simp -implicitDefEqProofs [hc, hc', acc0])) | (with_reducible refine pickK_em (fun hc => ?_) (fun hc => ?_) <;> (have hc' := hc; (try simp at hc'); simp -implicitDefEqProofs [hc, hc', acc0])))
  · rw [h1, h2]
    have h3 : ¬ (k : Int) < 0 := by omega
    ((try simp -implicitDefEqProofs [hk, h3]); repeat' first | (with_reducible refine gdK_em (fun hc => ?_) (fun hc => ?_) <;> (have hc' := hc; (try simp at hc'); simp -implicitDefEqProofs [hc, hc', hk, h3])) | (with_reducible refine cdK_em (fun hc => ?_) (fun hc => ?_) <;> (have hc' := hc; (try simp at hc'); simp -implicitDefEqProofs [hc, hc', hk, h3])) | (with_reducible refine pickK_em (fun hc => ?_) (fun hc => ?_) <;> (have hc' := hc; (try simp at hc'); simp -implicitDefEqProofs [hc, hc', hk, h3])))

def findE (l : List Ent) (name : List UInt8) : Int := idxS (fun x => x.name == name) l
theorem w_rFind (g : Group) (name : List UInt8) : Pure Try.prog 43 [g.v, vS name] (.tup [vI (if findE g.ents name < 0 then 0 else findE g.ents name), vB (decide (0 ≤ findE g.ents name))]) := by
  unfold findE
  (refine Pure.of_code mix Try.call43 k_43 (by simp) (fun hB => ?_); (try simp at hB); (try simp -implicitDefEqProofs [c_tallystoneref10_Find_43]))
  have hlm : g.ents.length ≤ 9223372036854775807 := by simp [maxLen] at hB; omega
  refine loop_rule (X := Nat) (fun k => k ≤ g.ents.length ∧ ∀ y ∈ g.ents.take k, (y.name == name) = false) (fun k => [(1, vS name), (2, .ptr 0 0), (6, vI k)])
    (fun k => ⟨[.cells (g.c.map .t)], []⟩) (fun k => g.ents.length - k) 0 ⟨by simp, by simp⟩ (by simp) ?_
  rintro k ⟨hk, hn⟩ hbd
  rcases Nat.lt_or_ge k g.ents.length with h | h
  · have hx : g.ents[k]? = some g.ents[k] := by simp [h]
    have e3 : IntKind.i64.wrap ((k : Int) + 1) = (k : Int) + 1 := wrap64 (by omega) (by omega)
    cases hq : g.ents[k].name == name
    · have step : ∀ y ∈ g.ents.take (k + 1), (y.name == name) = false := fun y hy => by
        rw [take_next hx] at hy
        rcases List.mem_append.1 hy with h | h
        · exact hn y h
        · simp at h; subst h; exact hq
      ((try simp -implicitDefEqProofs [h, e3, hq]); repeat' first | (with_reducible refine gdK_em (fun hc => ?_) (fun hc => ?_) <;> (have hc' := hc; (try simp at hc'); simp -implicitDefEqProofs [hc, hc', h, e3, hq])) | (with_reducible refine cdK_em (fun hc => ?_) (fun hc => ?_) <;> (have hc' := hc; (try simp at hc'); simp -implicitDefEqProofs [hc, hc', h, e3, hq])) | (with_reducible refine pickK_em (fun hc => ?_) (fun hc => ?_) <;> (have hc' := hc; (try simp at hc'); simp -implicitDefEqProofs [hc, hc', h, e3, hq])))
      exact ⟨k + 1, ⟨by omega, by first | exact step | (rw [← List.map_take]; exact step) | simpa using step⟩, by omega, by omega⟩
    · rw [idxS_in hx hn hq]
      have h3 : ¬ (k : Int) < 0 := by omega
      ((try simp -implicitDefEqProofs [h, e3, hq, h3]); repeat' first | (with_reducible refine gdK_em (fun hc => ?_) (fun hc => ?_) <;> (have hc' := hc; (try simp at hc'); simp -implicitDefEqProofs [hc, hc', h, e3, hq, h3])) | (with_reducible refine cdK_em (fun hc => ?_) (fun hc => ?_) <;> (have hc' := hc; (try simp at hc'); simp -implicitDefEqProofs [hc, hc', h, e3, hq, h3])) | (with_reducible refine pickK_em (fun hc => ?_) (fun hc => ?_) <;> (have hc' := hc; (try simp at hc'); simp -implicitDefEqProofs [hc, hc', h, e3, hq, h3])))
  · have : k = g.ents.length := by omega
    subst this
    rw [List.take_length] at hn
    rw [idxS_out hn]
    ((try simp -implicitDefEqProofs); repeat' first | (with_reducible refine gdK_em (fun hc => ?_) (fun hc => ?_) <;> (have hc' := hc; (try simp at hc'); simp -implicitDefEqProofs [hc, hc'])) | (with_reducible refine cdK_em (fun hc => ?_) (fun hc => ?_) <;> (have hc' := hc; (try simp at hc'); simp -implicitDefEqProofs [hc, hc'])) | (with_reducible refine pickK_em (fun hc => ?_) (fun hc => ?_) <;> (have hc' := hc; (try simp at hc'); simp -implicitDefEqProofs [hc, hc'])))

def ent0 : Ent := ⟨[], [], [], [], false⟩
def fewAt (l : List Ent) (k : Nat) : Bool := decide ((l.getD k ent0).chart.length ≤ 40) && decide ((l.getD k ent0).links.length ≤ 60) && decide (IntKind.i64.wrap (((l.getD k ent0).name.length : Int) + (l.getD k ent0).cur.length) ≤ 60)
def fewG (g : Group) : Bool := allB (fewAt g.ents) g.ents.length && (decide (g.chart.length ≤ 60) && decide (g.ents.length ≤ 14) && decide (g.cur.length ≤ 20))
theorem w_gFew (g : Group) : Pure Try.prog 29 [g.v] (vB (fewG g)) := by
  unfold fewG
  (refine Pure.of_code mix Try.call29 k_29 (by simp) (fun hB => ?_); (try simp at hB); (try simp -implicitDefEqProofs [c_tallystoneref10_Few_29]))
  have hlm : g.ents.length ≤ 9223372036854775807 := by simp [maxLen] at hB; omega
  refine loop_rule (X := Nat) (fun k => k ≤ g.ents.length ∧ allB (fewAt g.ents) k = true) (fun k => [(1, .ptr 0 0), (3, vI k)])
    (fun k => ⟨[.cells (g.c.map .t)], []⟩) (fun k => g.ents.length - k) 0 ⟨by simp, rfl⟩ (by simp) ?_
  rintro k ⟨hk, hn⟩ hbd
  rcases Nat.lt_or_ge k g.ents.length with h | h
  · have hx : g.ents[k]? = some g.ents[k] := by simp [h]
    have hg : g.ents.getD k ent0 = g.ents[k] := by simp [List.getD_eq_getElem?_getD, h]
    have e3 : IntKind.i64.wrap ((k : Int) + 1) = (k : Int) + 1 := wrap64 (by omega) (by omega)
    have hsucc := allB_succ (fewAt g.ents) k
    have hfl := allB_false (p := fewAt g.ents) h
    simp only [fewAt, hn, hg, Bool.true_and] at hsucc hfl
    change allB (fewAt g.ents) (k + 1) = _ at hsucc
    change _ → allB (fewAt g.ents) g.ents.length = false at hfl
    by_cases h1 : g.ents[k].chart.length ≤ 40
    case neg =>
      have h1' : 40 < (g.ents[k].chart.length : Int) := by omega
      rw [hfl (by simp [h1])]
      ((try simp -implicitDefEqProofs [h, e3, h1']); repeat' first | (with_reducible refine gdK_em (fun hc => ?_) (fun hc => ?_) <;> (have hc' := hc; (try simp at hc'); simp -implicitDefEqProofs [hc, hc', h, e3, h1'])) | (with_reducible refine cdK_em (fun hc => ?_) (fun hc => ?_) <;> (have hc' := hc; (try simp at hc'); simp -implicitDefEqProofs [hc, hc', h, e3, h1'])) | (with_reducible refine pickK_em (fun hc => ?_) (fun hc => ?_) <;> (have hc' := hc; (try simp at hc'); simp -implicitDefEqProofs [hc, hc', h, e3, h1'])))
      all_goals (exfalso; omega)
    have h1' : ¬ 40 < (g.ents[k].chart.length : Int) := by omega
    have h1'' : ¬ 40 < g.ents[k].chart.length := by omega
    by_cases h2 : g.ents[k].links.length ≤ 60
    case neg =>
      have h2' : 60 < (g.ents[k].links.length : Int) := by omega
      rw [hfl (by simp [h2])]
      ((try simp -implicitDefEqProofs [h, e3, h1', h1'', h2']); repeat' first | (with_reducible refine gdK_em (fun hc => ?_) (fun hc => ?_) <;> (have hc' := hc; (try simp at hc'); simp -implicitDefEqProofs [hc, hc', h, e3, h1', h1'', h2'])) | (with_reducible refine cdK_em (fun hc => ?_) (fun hc => ?_) <;> (have hc' := hc; (try simp at hc'); simp -implicitDefEqProofs [hc, hc', h, e3, h1', h1'', h2'])) | (with_reducible refine pickK_em (fun hc => ?_) (fun hc => ?_) <;> (have hc' := hc; (try simp at hc'); simp -implicitDefEqProofs [hc, hc', h, e3, h1', h1'', h2'])))
      all_goals (exfalso; omega)
    have h2' : ¬ 60 < (g.ents[k].links.length : Int) := by omega
    have h2'' : ¬ 60 < g.ents[k].links.length := by omega
    generalize hW : IntKind.i64.wrap ((g.ents[k].name.length : Int) + g.ents[k].cur.length) = W at *
    by_cases h3 : W ≤ 60
    case neg =>
      have h3' : 60 < W := by omega
      rw [hfl (by simp [h3])]
      ((try simp -implicitDefEqProofs [h, e3, h1', h1'', h2', h2'', hW, h3']); repeat' first | (with_reducible refine gdK_em (fun hc => ?_) (fun hc => ?_) <;> (have hc' := hc; (try simp at hc'); simp -implicitDefEqProofs [hc, hc', h, e3, h1', h1'', h2', h2'', hW, h3'])) | (with_reducible refine cdK_em (fun hc => ?_) (fun hc => ?_) <;> (have hc' := hc; (try simp at hc'); simp -implicitDefEqProofs [hc, hc', h, e3, h1', h1'', h2', h2'', hW, h3'])) | (with_reducible refine pickK_em (fun hc => ?_) (fun hc => ?_) <;> (have hc' := hc; (try simp at hc'); simp -implicitDefEqProofs [hc, hc', h, e3, h1', h1'', h2', h2'', hW, h3'])))
      all_goals (exfalso; omega)
    have h3' : ¬ 60 < W := by omega
    simp [h1, h2, h3] at hsucc
    ((try simp -implicitDefEqProofs [h, e3, h1', h1'', h2', h2'', hW, h3']); repeat' first | (with_reducible refine gdK_em (fun hc => ?_) (fun hc => ?_) <;> (have hc' := hc; (try simp at hc'); simp -implicitDefEqProofs [hc, hc', h, e3, h1', h1'', h2', h2'', hW, h3'])) | (with_reducible refine cdK_em (fun hc => ?_) (fun hc => ?_) <;> (have hc' := hc; (try simp at hc'); simp -implicitDefEqProofs [hc, hc', h, e3, h1', h1'', h2', h2'', hW, h3'])) | (with_reducible refine pickK_em (fun hc => ?_) (fun hc => ?_) <;> (have hc' := hc; (try simp at hc'); simp -implicitDefEqProofs [hc, hc', h, e3, h1', h1'', h2', h2'', hW, h3'])))
    exact ⟨k + 1, ⟨by omega, hsucc⟩, by omega, by omega⟩
  · have : k = g.ents.length := by omega
    subst this
    rw [hn]
    ((try simp -implicitDefEqProofs); repeat' first | (with_reducible refine gdK_em (fun hc => ?_) (fun hc => ?_) <;> (have hc' := hc; (try simp at hc'); simp -implicitDefEqProofs [hc, hc'])) | (with_reducible refine cdK_em (fun hc => ?_) (fun hc => ?_) <;> (have hc' := hc; (try simp at hc'); simp -implicitDefEqProofs [hc, hc'])) | (with_reducible refine pickK_em (fun hc => ?_) (fun hc => ?_) <;> (have hc' := hc; (try simp at hc'); simp -implicitDefEqProofs [hc, hc'])))
    all_goals first | omega | grind
end Go.Proofs.Ythfnaaeddlnckaa
end

/- Walks of the groups: valid groups. The two ways to be valid agree. -/
section
set_option linter.unusedSimpArgs false
set_option linter.unusedVariables false
set_option maxHeartbeats 1000000
set_option maxRecDepth 8000
namespace Go.Proofs.Ythfnaaeddlnckaa
open E

/-- Texts are no longer than Go lets them be; the lists are not long. -/
structure OkG (g : Group) : Prop where
  cur : g.cur.length ≤ 9223372036854775807
  chart : g.chart.length ≤ 1000000
  ents : ∀ x ∈ g.ents, x.name.length ≤ 9223372036854775807 ∧ x.cur.length ≤ 9223372036854775807 ∧ x.chart.length ≤ 1000000
def dupE (l : List Ent) (k : Nat) : Bool := decide ((l.getD k ent0).name ∈ (l.take k).map Ent.name)
def vGP (g : Group) (k : Nat) : Bool := !dupE g.ents k && entP g (g.ents.getD k ent0)
def vGR (g : Group) (k : Nat) : Bool := !dupE g.ents k && entR g (g.ents.getD k ent0)
def validGP (g : Group) : Bool := curB g.cur && calV g.cal && accB g && decide (1 ≤ g.ents.length) && decide (g.ents.length ≤ 12) && !(g.ents.getD 0 ent0).joint && allB (vGP g) g.ents.length
def validGR (g : Group) : Bool := booksR g && decide (1 ≤ g.ents.length) && decide (g.ents.length ≤ 12) && !(g.ents.getD 0 ent0).joint && allB (vGR g) g.ents.length

theorem w_gValid (g : Group) (hg : OkG g) : Pure Try.prog 53 [g.v] (vB (validGP g)) := by
  have vc := w_cur g.cur hg.cur
  have vk := w_calV g.cal
  have va := w_accounts g hg.chart
  unfold validGP
  cases hvc : curB g.cur
  · rw [hvc] at vc
    (refine Pure.of_code mix Try.call53 k_53 (by simp) (fun hB => ?_); (try simp at hB); (try simp -implicitDefEqProofs [c_group_Valid_53]))
    ((try simp at vc); (try simp -implicitDefEqProofs); repeat' first | (with_reducible refine gdK_em (fun hc => ?_) (fun hc => ?_) <;> (have hc' := hc; (try simp at hc'); simp -implicitDefEqProofs [hc, hc'])) | (with_reducible refine cdK_em (fun hc => ?_) (fun hc => ?_) <;> (have hc' := hc; (try simp at hc'); simp -implicitDefEqProofs [hc, hc'])) | (with_reducible refine pickK_em (fun hc => ?_) (fun hc => ?_) <;> (have hc' := hc; (try simp at hc'); simp -implicitDefEqProofs [hc, hc'])) | (with_reducible apply callK_pure <;> first | (simp only [eras, era, eras_map]; first | with_reducible exact vc | simpa using vc) | (simp -implicitDefEqProofs)))
  rw [hvc] at vc
  cases hvk : calV g.cal
  · rw [hvk] at vk
    (refine Pure.of_code mix Try.call53 k_53 (by simp) (fun hB => ?_); (try simp at hB); (try simp -implicitDefEqProofs [c_group_Valid_53]))
    ((try simp at vc); (try simp at vk); (try simp -implicitDefEqProofs); repeat' first | (with_reducible refine gdK_em (fun hc => ?_) (fun hc => ?_) <;> (have hc' := hc; (try simp at hc'); simp -implicitDefEqProofs [hc, hc'])) | (with_reducible refine cdK_em (fun hc => ?_) (fun hc => ?_) <;> (have hc' := hc; (try simp at hc'); simp -implicitDefEqProofs [hc, hc'])) | (with_reducible refine pickK_em (fun hc => ?_) (fun hc => ?_) <;> (have hc' := hc; (try simp at hc'); simp -implicitDefEqProofs [hc, hc'])) | (with_reducible apply callK_pure <;> first | (simp only [eras, era, eras_map]; first | with_reducible exact vc | simpa using vc) | (simp -implicitDefEqProofs)) | (with_reducible apply callK_pure <;> first | (simp only [eras, era, eras_map]; first | with_reducible exact vk | simpa using vk) | (simp -implicitDefEqProofs)))
  rw [hvk] at vk
  cases hva : accB g
  · rw [hva] at va
    (refine Pure.of_code mix Try.call53 k_53 (by simp) (fun hB => ?_); (try simp at hB); (try simp -implicitDefEqProofs [c_group_Valid_53]))
    ((try simp at vc); (try simp at vk); (try simp at va); (try simp -implicitDefEqProofs); repeat' first | (with_reducible refine gdK_em (fun hc => ?_) (fun hc => ?_) <;> (have hc' := hc; (try simp at hc'); simp -implicitDefEqProofs [hc, hc'])) | (with_reducible refine cdK_em (fun hc => ?_) (fun hc => ?_) <;> (have hc' := hc; (try simp at hc'); simp -implicitDefEqProofs [hc, hc'])) | (with_reducible refine pickK_em (fun hc => ?_) (fun hc => ?_) <;> (have hc' := hc; (try simp at hc'); simp -implicitDefEqProofs [hc, hc'])) | (with_reducible apply callK_pure <;> first | (simp only [eras, era, eras_map]; first | with_reducible exact vc | simpa using vc) | (simp -implicitDefEqProofs)) | (with_reducible apply callK_pure <;> first | (simp only [eras, era, eras_map]; first | with_reducible exact vk | simpa using vk) | (simp -implicitDefEqProofs)) | (with_reducible apply callK_pure <;> first | (simp only [eras, era, eras_map]; first | with_reducible exact va | simpa using va) | (simp -implicitDefEqProofs)))
  rw [hva] at va
  by_cases h1 : 1 ≤ g.ents.length
  case neg =>
    have h1' : (g.ents.length : Int) < 1 := by omega
    have h0 : g.ents.length = 0 := by omega
    simp only [h1, decide_false, Bool.and_false, Bool.false_and]
    (refine Pure.of_code mix Try.call53 k_53 (by simp) (fun hB => ?_); (try simp at hB); (try simp -implicitDefEqProofs [c_group_Valid_53]))
    ((try simp at vc); (try simp at vk); (try simp at va); (try simp -implicitDefEqProofs [h1', h0]); repeat' first | (with_reducible refine gdK_em (fun hc => ?_) (fun hc => ?_) <;> (have hc' := hc; (try simp at hc'); simp -implicitDefEqProofs [hc, hc', h1', h0])) | (with_reducible refine cdK_em (fun hc => ?_) (fun hc => ?_) <;> (have hc' := hc; (try simp at hc'); simp -implicitDefEqProofs [hc, hc', h1', h0])) | (with_reducible refine pickK_em (fun hc => ?_) (fun hc => ?_) <;> (have hc' := hc; (try simp at hc'); simp -implicitDefEqProofs [hc, hc', h1', h0])) | (with_reducible apply callK_pure <;> first | (simp only [eras, era, eras_map]; first | with_reducible exact vc | simpa using vc) | (simp -implicitDefEqProofs [h1', h0])) | (with_reducible apply callK_pure <;> first | (simp only [eras, era, eras_map]; first | with_reducible exact vk | simpa using vk) | (simp -implicitDefEqProofs [h1', h0])) | (with_reducible apply callK_pure <;> first | (simp only [eras, era, eras_map]; first | with_reducible exact va | simpa using va) | (simp -implicitDefEqProofs [h1', h0])))
  have h1' : ¬ (g.ents.length : Int) < 1 := by omega
  have h1'' : ¬ g.ents.length = 0 := by omega
  by_cases h2 : g.ents.length ≤ 12
  case neg =>
    have h2' : 12 < (g.ents.length : Int) := by omega
    have h2'' : 12 < g.ents.length := by omega
    simp only [h2, decide_false, Bool.and_false, Bool.false_and]
    (refine Pure.of_code mix Try.call53 k_53 (by simp) (fun hB => ?_); (try simp at hB); (try simp -implicitDefEqProofs [c_group_Valid_53]))
    ((try simp at vc); (try simp at vk); (try simp at va); (try simp -implicitDefEqProofs [h1', h1'', h2', h2'']); repeat' first | (with_reducible refine gdK_em (fun hc => ?_) (fun hc => ?_) <;> (have hc' := hc; (try simp at hc'); simp -implicitDefEqProofs [hc, hc', h1', h1'', h2', h2''])) | (with_reducible refine cdK_em (fun hc => ?_) (fun hc => ?_) <;> (have hc' := hc; (try simp at hc'); simp -implicitDefEqProofs [hc, hc', h1', h1'', h2', h2''])) | (with_reducible refine pickK_em (fun hc => ?_) (fun hc => ?_) <;> (have hc' := hc; (try simp at hc'); simp -implicitDefEqProofs [hc, hc', h1', h1'', h2', h2''])) | (with_reducible apply callK_pure <;> first | (simp only [eras, era, eras_map]; first | with_reducible exact vc | simpa using vc) | (simp -implicitDefEqProofs [h1', h1'', h2', h2''])) | (with_reducible apply callK_pure <;> first | (simp only [eras, era, eras_map]; first | with_reducible exact vk | simpa using vk) | (simp -implicitDefEqProofs [h1', h1'', h2', h2''])) | (with_reducible apply callK_pure <;> first | (simp only [eras, era, eras_map]; first | with_reducible exact va | simpa using va) | (simp -implicitDefEqProofs [h1', h1'', h2', h2''])))
    all_goals (exfalso; omega)
  have h2' : ¬ 12 < (g.ents.length : Int) := by omega
  have h2'' : ¬ 12 < g.ents.length := by omega
  have hp : 0 < g.ents.length := by omega
  have hj0 : g.ents.getD 0 ent0 = g.ents[0] := by simp [List.getD_eq_getElem?_getD, hp]
  rw [hj0]
  simp only [h1, h2, decide_true, Bool.true_and]
  cases hj : g.ents[0].joint
  case true =>
    (refine Pure.of_code mix Try.call53 k_53 (by simp) (fun hB => ?_); (try simp at hB); (try simp -implicitDefEqProofs [c_group_Valid_53]))
    ((try simp at vc); (try simp at vk); (try simp at va); (try simp -implicitDefEqProofs [h1', h1'', h2', h2'', hp, hj]); repeat' first | (with_reducible refine gdK_em (fun hc => ?_) (fun hc => ?_) <;> (have hc' := hc; (try simp at hc'); simp -implicitDefEqProofs [hc, hc', h1', h1'', h2', h2'', hp, hj])) | (with_reducible refine cdK_em (fun hc => ?_) (fun hc => ?_) <;> (have hc' := hc; (try simp at hc'); simp -implicitDefEqProofs [hc, hc', h1', h1'', h2', h2'', hp, hj])) | (with_reducible refine pickK_em (fun hc => ?_) (fun hc => ?_) <;> (have hc' := hc; (try simp at hc'); simp -implicitDefEqProofs [hc, hc', h1', h1'', h2', h2'', hp, hj])) | (with_reducible apply callK_pure <;> first | (simp only [eras, era, eras_map]; first | with_reducible exact vc | simpa using vc) | (simp -implicitDefEqProofs [h1', h1'', h2', h2'', hp, hj])) | (with_reducible apply callK_pure <;> first | (simp only [eras, era, eras_map]; first | with_reducible exact vk | simpa using vk) | (simp -implicitDefEqProofs [h1', h1'', h2', h2'', hp, hj])) | (with_reducible apply callK_pure <;> first | (simp only [eras, era, eras_map]; first | with_reducible exact va | simpa using va) | (simp -implicitDefEqProofs [h1', h1'', h2', h2'', hp, hj])))
    all_goals (exfalso; omega)
  (refine Pure.of_code mix Try.call53 k_53 (by simp) (fun hB => ?_); (try simp at hB); (try simp -implicitDefEqProofs [c_group_Valid_53]))
  ((try simp at vc); (try simp at vk); (try simp at va); (try simp -implicitDefEqProofs [h1', h1'', h2', h2'', hp, hj]); repeat' first | (with_reducible refine gdK_em (fun hc => ?_) (fun hc => ?_) <;> (have hc' := hc; (try simp at hc'); simp -implicitDefEqProofs [hc, hc', h1', h1'', h2', h2'', hp, hj])) | (with_reducible refine cdK_em (fun hc => ?_) (fun hc => ?_) <;> (have hc' := hc; (try simp at hc'); simp -implicitDefEqProofs [hc, hc', h1', h1'', h2', h2'', hp, hj])) | (with_reducible refine pickK_em (fun hc => ?_) (fun hc => ?_) <;> (have hc' := hc; (try simp at hc'); simp -implicitDefEqProofs [hc, hc', h1', h1'', h2', h2'', hp, hj])) | (with_reducible apply callK_pure <;> first | (simp only [eras, era, eras_map]; first | with_reducible exact vc | simpa using vc) | (simp -implicitDefEqProofs [h1', h1'', h2', h2'', hp, hj])) | (with_reducible apply callK_pure <;> first | (simp only [eras, era, eras_map]; first | with_reducible exact vk | simpa using vk) | (simp -implicitDefEqProofs [h1', h1'', h2', h2'', hp, hj])) | (with_reducible apply callK_pure <;> first | (simp only [eras, era, eras_map]; first | with_reducible exact va | simpa using va) | (simp -implicitDefEqProofs [h1', h1'', h2', h2'', hp, hj])))
  all_goals try (exfalso; omega)
  refine loop_rule (X := Nat) (fun k => k ≤ g.ents.length ∧ allB (vGP g) k = true) (fun k => [(1, .ptr 0 0), (3, .mp 1), (42, Ent.l g.ents), (43, vI g.ents.length), (44, vI k)])
    (fun k => ⟨[.cells (g.c.map .t), .mp (mS boolV (setOf ((g.ents.take k).map Ent.name)))], []⟩) (fun k => g.ents.length - k) 0 ⟨by simp, rfl⟩ (by simp) ?_
  rintro k ⟨hk, hn⟩ hbd
  rcases Nat.lt_or_ge k g.ents.length with h | h
  · have hx : g.ents[k]? = some g.ents[k] := by simp [h]
    have hgk : g.ents.getD k ent0 = g.ents[k] := by simp [List.getD_eq_getElem?_getD, h]
    have hsucc := allB_succ (vGP g) k
    have hfl := allB_false (p := vGP g) h
    have hdup : dupE g.ents k = decide (g.ents[k].name ∈ (g.ents.take k).map Ent.name) := by unfold dupE; rw [hgk]
    simp only [vGP, hn, hgk, hdup, Bool.true_and] at hsucc hfl
    change allB (vGP g) (k + 1) = _ at hsucc
    change _ → allB (vGP g) g.ents.length = false at hfl
    have e3 : IntKind.i64.wrap ((k : Int) + 1) = (k : Int) + 1 := wrap64 (by omega) (by omega)
    obtain ⟨s1, s2, s3⟩ := hg.ents _ (List.getElem_mem h)
    have he := w_gEntity g g.ents[k] hg.chart s1 s2 s3
    have htk : (g.ents.take (k + 1)).map Ent.name = (g.ents.take k).map Ent.name ++ [g.ents[k].name] := by rw [take_next hx, List.map_append]; rfl
    have hln : ((g.ents.take k).map Ent.name).length = k := by simp; omega
    generalize hM : (g.ents.take k).map Ent.name = M at *
    have hfm := findM_S boolV g.ents[k].name (setOf M)
    rw [aget_setOf] at hfm
    by_cases hm : g.ents[k].name ∈ M
    · rw [if_pos hm] at hfm
      rw [hfl (by simp [hm])]
      ((try simp -implicitDefEqProofs [h, hfm]); repeat' first | (with_reducible refine gdK_em (fun hc => ?_) (fun hc => ?_) <;> (have hc' := hc; (try simp at hc'); simp -implicitDefEqProofs [hc, hc', h, hfm])) | (with_reducible refine cdK_em (fun hc => ?_) (fun hc => ?_) <;> (have hc' := hc; (try simp at hc'); simp -implicitDefEqProofs [hc, hc', h, hfm])) | (with_reducible refine pickK_em (fun hc => ?_) (fun hc => ?_) <;> (have hc' := hc; (try simp at hc'); simp -implicitDefEqProofs [hc, hc', h, hfm])))
    · have hsm := setM_S boolV g.ents[k].name true (setOf M)
      rw [aset_setOf hm] at hsm
      rw [if_neg hm] at hfm
      simp only [hm, decide_false, Bool.not_false, Bool.true_and] at hsucc hfl
      cases hev : entP g g.ents[k]
      · rw [hev] at he
        rw [hfl hev]
        ((try simp at he); (try simp -implicitDefEqProofs [h, hfm]); repeat' first | (with_reducible refine gdK_em (fun hc => ?_) (fun hc => ?_) <;> (have hc' := hc; (try simp at hc'); simp -implicitDefEqProofs [hc, hc', h, hfm])) | (with_reducible refine cdK_em (fun hc => ?_) (fun hc => ?_) <;> (have hc' := hc; (try simp at hc'); simp -implicitDefEqProofs [hc, hc', h, hfm])) | (with_reducible refine pickK_em (fun hc => ?_) (fun hc => ?_) <;> (have hc' := hc; (try simp at hc'); simp -implicitDefEqProofs [hc, hc', h, hfm])) | (with_reducible apply callK_pure <;> first | (simp only [eras, era, eras_map]; first | with_reducible exact he | simpa using he) | (simp -implicitDefEqProofs [h, hfm])))
      · rw [hev] at he hsucc
        ((try simp at he); (try simp -implicitDefEqProofs [h, hfm, hsm, e3]); repeat' first | (with_reducible refine gdK_em (fun hc => ?_) (fun hc => ?_) <;> (have hc' := hc; (try simp at hc'); simp -implicitDefEqProofs [hc, hc', h, hfm, hsm, e3])) | (with_reducible refine cdK_em (fun hc => ?_) (fun hc => ?_) <;> (have hc' := hc; (try simp at hc'); simp -implicitDefEqProofs [hc, hc', h, hfm, hsm, e3])) | (with_reducible refine pickK_em (fun hc => ?_) (fun hc => ?_) <;> (have hc' := hc; (try simp at hc'); simp -implicitDefEqProofs [hc, hc', h, hfm, hsm, e3])) | (with_reducible apply callK_pure <;> first | (simp only [eras, era, eras_map]; first | with_reducible exact he | simpa using he) | (simp -implicitDefEqProofs [h, hfm, hsm, e3])))
        exact ⟨by simp [maxLen]; omega, k + 1, ⟨by omega, hsucc⟩, by omega, ⟨by rw [← List.map_take, htk], okNs_all (fun v hv => by obtain ⟨p, _, rfl⟩ := List.mem_map.1 hv; rfl), okNs_all (fun v hv => by obtain ⟨p, _, rfl⟩ := List.mem_map.1 hv; rfl)⟩, by omega⟩
  · have : k = g.ents.length := by omega
    subst this
    rw [hn]
    ((try simp -implicitDefEqProofs); repeat' first | (with_reducible refine gdK_em (fun hc => ?_) (fun hc => ?_) <;> (have hc' := hc; (try simp at hc'); simp -implicitDefEqProofs [hc, hc'])) | (with_reducible refine cdK_em (fun hc => ?_) (fun hc => ?_) <;> (have hc' := hc; (try simp at hc'); simp -implicitDefEqProofs [hc, hc'])) | (with_reducible refine pickK_em (fun hc => ?_) (fun hc => ?_) <;> (have hc' := hc; (try simp at hc'); simp -implicitDefEqProofs [hc, hc'])))

theorem w_rgValid (g : Group) (hg : OkG g) : Pure Try.prog 18 [g.v] (vB (validGR g)) := by
  have va := w_books g hg.chart hg.cur
  unfold validGR
  cases hva : booksR g
  · rw [hva] at va
    (refine Pure.of_code mix Try.call18 k_18 (by simp) (fun hB => ?_); (try simp at hB); (try simp -implicitDefEqProofs [c_tallystoneref10_Valid_18]))
    ((try simp at va); (try simp -implicitDefEqProofs); repeat' first | (with_reducible refine gdK_em (fun hc => ?_) (fun hc => ?_) <;> (have hc' := hc; (try simp at hc'); simp -implicitDefEqProofs [hc, hc'])) | (with_reducible refine cdK_em (fun hc => ?_) (fun hc => ?_) <;> (have hc' := hc; (try simp at hc'); simp -implicitDefEqProofs [hc, hc'])) | (with_reducible refine pickK_em (fun hc => ?_) (fun hc => ?_) <;> (have hc' := hc; (try simp at hc'); simp -implicitDefEqProofs [hc, hc'])) | (with_reducible apply callK_pure <;> first | (simp only [eras, era, eras_map]; first | with_reducible exact va | simpa using va) | (simp -implicitDefEqProofs)))
  rw [hva] at va
  by_cases h1 : 1 ≤ g.ents.length
  case neg =>
    have h1' : (g.ents.length : Int) < 1 := by omega
    have h0 : g.ents.length = 0 := by omega
    simp only [h1, decide_false, Bool.and_false, Bool.false_and]
    (refine Pure.of_code mix Try.call18 k_18 (by simp) (fun hB => ?_); (try simp at hB); (try simp -implicitDefEqProofs [c_tallystoneref10_Valid_18]))
    ((try simp at va); (try simp -implicitDefEqProofs [h1', h0]); repeat' first | (with_reducible refine gdK_em (fun hc => ?_) (fun hc => ?_) <;> (have hc' := hc; (try simp at hc'); simp -implicitDefEqProofs [hc, hc', h1', h0])) | (with_reducible refine cdK_em (fun hc => ?_) (fun hc => ?_) <;> (have hc' := hc; (try simp at hc'); simp -implicitDefEqProofs [hc, hc', h1', h0])) | (with_reducible refine pickK_em (fun hc => ?_) (fun hc => ?_) <;> (have hc' := hc; (try simp at hc'); simp -implicitDefEqProofs [hc, hc', h1', h0])) | (with_reducible apply callK_pure <;> first | (simp only [eras, era, eras_map]; first | with_reducible exact va | simpa using va) | (simp -implicitDefEqProofs [h1', h0])))
  have h1' : ¬ (g.ents.length : Int) < 1 := by omega
  have h1'' : ¬ g.ents.length = 0 := by omega
  by_cases h2 : g.ents.length ≤ 12
  case neg =>
    have h2' : 12 < (g.ents.length : Int) := by omega
    have h2'' : 12 < g.ents.length := by omega
    simp only [h2, decide_false, Bool.and_false, Bool.false_and]
    (refine Pure.of_code mix Try.call18 k_18 (by simp) (fun hB => ?_); (try simp at hB); (try simp -implicitDefEqProofs [c_tallystoneref10_Valid_18]))
    ((try simp at va); (try simp -implicitDefEqProofs [h1', h1'', h2', h2'']); repeat' first | (with_reducible refine gdK_em (fun hc => ?_) (fun hc => ?_) <;> (have hc' := hc; (try simp at hc'); simp -implicitDefEqProofs [hc, hc', h1', h1'', h2', h2''])) | (with_reducible refine cdK_em (fun hc => ?_) (fun hc => ?_) <;> (have hc' := hc; (try simp at hc'); simp -implicitDefEqProofs [hc, hc', h1', h1'', h2', h2''])) | (with_reducible refine pickK_em (fun hc => ?_) (fun hc => ?_) <;> (have hc' := hc; (try simp at hc'); simp -implicitDefEqProofs [hc, hc', h1', h1'', h2', h2''])) | (with_reducible apply callK_pure <;> first | (simp only [eras, era, eras_map]; first | with_reducible exact va | simpa using va) | (simp -implicitDefEqProofs [h1', h1'', h2', h2''])))
    all_goals (exfalso; omega)
  have h2' : ¬ 12 < (g.ents.length : Int) := by omega
  have h2'' : ¬ 12 < g.ents.length := by omega
  have hp : 0 < g.ents.length := by omega
  have hj0 : g.ents.getD 0 ent0 = g.ents[0] := by simp [List.getD_eq_getElem?_getD, hp]
  rw [hj0]
  simp only [h1, h2, decide_true, Bool.true_and]
  cases hj : g.ents[0].joint
  case true =>
    (refine Pure.of_code mix Try.call18 k_18 (by simp) (fun hB => ?_); (try simp at hB); (try simp -implicitDefEqProofs [c_tallystoneref10_Valid_18]))
    ((try simp at va); (try simp -implicitDefEqProofs [h1', h1'', h2', h2'', hp, hj]); repeat' first | (with_reducible refine gdK_em (fun hc => ?_) (fun hc => ?_) <;> (have hc' := hc; (try simp at hc'); simp -implicitDefEqProofs [hc, hc', h1', h1'', h2', h2'', hp, hj])) | (with_reducible refine cdK_em (fun hc => ?_) (fun hc => ?_) <;> (have hc' := hc; (try simp at hc'); simp -implicitDefEqProofs [hc, hc', h1', h1'', h2', h2'', hp, hj])) | (with_reducible refine pickK_em (fun hc => ?_) (fun hc => ?_) <;> (have hc' := hc; (try simp at hc'); simp -implicitDefEqProofs [hc, hc', h1', h1'', h2', h2'', hp, hj])) | (with_reducible apply callK_pure <;> first | (simp only [eras, era, eras_map]; first | with_reducible exact va | simpa using va) | (simp -implicitDefEqProofs [h1', h1'', h2', h2'', hp, hj])))
    all_goals (exfalso; omega)
  (refine Pure.of_code mix Try.call18 k_18 (by simp) (fun hB => ?_); (try simp at hB); (try simp -implicitDefEqProofs [c_tallystoneref10_Valid_18]))
  ((try simp at va); (try simp -implicitDefEqProofs [h1', h1'', h2', h2'', hp, hj]); repeat' first | (with_reducible refine gdK_em (fun hc => ?_) (fun hc => ?_) <;> (have hc' := hc; (try simp at hc'); simp -implicitDefEqProofs [hc, hc', h1', h1'', h2', h2'', hp, hj])) | (with_reducible refine cdK_em (fun hc => ?_) (fun hc => ?_) <;> (have hc' := hc; (try simp at hc'); simp -implicitDefEqProofs [hc, hc', h1', h1'', h2', h2'', hp, hj])) | (with_reducible refine pickK_em (fun hc => ?_) (fun hc => ?_) <;> (have hc' := hc; (try simp at hc'); simp -implicitDefEqProofs [hc, hc', h1', h1'', h2', h2'', hp, hj])) | (with_reducible apply callK_pure <;> first | (simp only [eras, era, eras_map]; first | with_reducible exact va | simpa using va) | (simp -implicitDefEqProofs [h1', h1'', h2', h2'', hp, hj])))
  all_goals try (exfalso; omega)
  refine loop_rule (X := Nat) (fun k => k ≤ g.ents.length ∧ allB (vGR g) k = true) (fun k => [(1, .ptr 0 0), (3, vI k)])
    (fun k => ⟨[.cells (g.c.map .t)], []⟩) (fun k => g.ents.length - k) 0 ⟨by simp, rfl⟩ (by simp) ?_
  rintro k ⟨hk, hn⟩ hbd
  rcases Nat.lt_or_ge k g.ents.length with h | h
  · have hx : g.ents[k]? = some g.ents[k] := by simp [h]
    have hgk : g.ents.getD k ent0 = g.ents[k] := by simp [List.getD_eq_getElem?_getD, h]
    have hsucc := allB_succ (vGR g) k
    have hfl := allB_false (p := vGR g) h
    have hdup : dupE g.ents k = decide (g.ents[k].name ∈ (g.ents.take k).map Ent.name) := by unfold dupE; rw [hgk]
    simp only [vGR, hn, hgk, hdup, Bool.true_and] at hsucc hfl
    change allB (vGR g) (k + 1) = _ at hsucc
    change _ → allB (vGR g) g.ents.length = false at hfl
    have e3 : IntKind.i64.wrap ((k : Int) + 1) = (k : Int) + 1 := wrap64 (by omega) (by omega)
    obtain ⟨s1, s2, s3⟩ := hg.ents _ (List.getElem_mem h)
    have he := w_rEntity g g.ents[k] hg.chart s1 s2 s3
    have hf := w_rFind g g.ents[k].name
    by_cases hm : g.ents[k].name ∈ (g.ents.take k).map Ent.name
    · rw [hfl (by simp only [hm, decide_true, Bool.not_true, Bool.false_and])]
      obtain ⟨y, hy, hye⟩ := List.mem_map.1 hm
      obtain ⟨j, hj2⟩ := List.mem_iff_getElem?.1 hy
      have hfi : ∃ i : Nat, i < k ∧ findE g.ents g.ents[k].name = i := by
        unfold findE idxS
        cases hi : g.ents.findIdx? (fun x => x.name == g.ents[k].name) with
        | none =>
          rw [List.findIdx?_eq_none_iff] at hi
          have := hi y (List.mem_of_mem_take hy)
          simp [hye] at this
        | some i =>
          rw [List.findIdx?_eq_some_iff_getElem] at hi
          obtain ⟨i1, i2, i3⟩ := hi
          refine ⟨i, ?_, rfl⟩
          rcases Nat.lt_or_ge i k with hik | hik
          · exact hik
          · have hj3 := lt_of_get hj2
            rw [List.length_take] at hj3
            have := i3 j (by omega)
            rw [List.getElem?_take, if_pos (by omega)] at hj2
            have : g.ents[j] = y := by simpa [show j < g.ents.length by omega] using hj2
            simp_all
      obtain ⟨i, hi1, hi2⟩ := hfi
      rw [hi2] at hf
      have h3 : ¬ (i : Int) < 0 := by omega
      have h4 : ((i : Int) != (k : Int)) = true := by simp; omega
      simp only [h3, if_false] at hf
      ((try simp at hf); (try simp -implicitDefEqProofs [h, h3, h4]); repeat' first | (with_reducible refine gdK_em (fun hc => ?_) (fun hc => ?_) <;> (have hc' := hc; (try simp at hc'); simp -implicitDefEqProofs [hc, hc', h, h3, h4])) | (with_reducible refine cdK_em (fun hc => ?_) (fun hc => ?_) <;> (have hc' := hc; (try simp at hc'); simp -implicitDefEqProofs [hc, hc', h, h3, h4])) | (with_reducible refine pickK_em (fun hc => ?_) (fun hc => ?_) <;> (have hc' := hc; (try simp at hc'); simp -implicitDefEqProofs [hc, hc', h, h3, h4])) | (with_reducible apply callK_pure <;> first | (simp only [eras, era, eras_map]; first | with_reducible exact hf | simpa using hf) | (simp -implicitDefEqProofs [h, h3, h4])))
    · have hfi : findE g.ents g.ents[k].name = k := idxS_in hx (fun y hy => by
          have : ¬ y.name = g.ents[k].name := fun e => hm (List.mem_map.2 ⟨y, hy, e⟩)
          simpa using this) (by simp)
      rw [hfi] at hf
      have h3 : ¬ (k : Int) < 0 := by omega
      simp only [h3, if_false] at hf
      simp only [hm, decide_false, Bool.not_false, Bool.true_and] at hsucc hfl
      cases hev : entR g g.ents[k]
      · rw [hev] at he
        rw [hfl hev]
        ((try simp at hf); (try simp at he); (try simp -implicitDefEqProofs [h, h3]); repeat' first | (with_reducible refine gdK_em (fun hc => ?_) (fun hc => ?_) <;> (have hc' := hc; (try simp at hc'); simp -implicitDefEqProofs [hc, hc', h, h3])) | (with_reducible refine cdK_em (fun hc => ?_) (fun hc => ?_) <;> (have hc' := hc; (try simp at hc'); simp -implicitDefEqProofs [hc, hc', h, h3])) | (with_reducible refine pickK_em (fun hc => ?_) (fun hc => ?_) <;> (have hc' := hc; (try simp at hc'); simp -implicitDefEqProofs [hc, hc', h, h3])) | (with_reducible apply callK_pure <;> first | (simp only [eras, era, eras_map]; first | with_reducible exact hf | simpa using hf) | (simp -implicitDefEqProofs [h, h3])) | (with_reducible apply callK_pure <;> first | (simp only [eras, era, eras_map]; first | with_reducible exact he | simpa using he) | (simp -implicitDefEqProofs [h, h3])))
      · rw [hev] at he hsucc
        ((try simp at hf); (try simp at he); (try simp -implicitDefEqProofs [h, h3, e3]); repeat' first | (with_reducible refine gdK_em (fun hc => ?_) (fun hc => ?_) <;> (have hc' := hc; (try simp at hc'); simp -implicitDefEqProofs [hc, hc', h, h3, e3])) | (with_reducible refine cdK_em (fun hc => ?_) (fun hc => ?_) <;> (have hc' := hc; (try simp at hc'); simp -implicitDefEqProofs [hc, hc', h, h3, e3])) | (with_reducible refine pickK_em (fun hc => ?_) (fun hc => ?_) <;> (have hc' := hc; (try simp at hc'); simp -implicitDefEqProofs [hc, hc', h, h3, e3])) | (with_reducible apply callK_pure <;> first | (simp only [eras, era, eras_map]; first | with_reducible exact hf | simpa using hf) | (simp -implicitDefEqProofs [h, h3, e3])) | (with_reducible apply callK_pure <;> first | (simp only [eras, era, eras_map]; first | with_reducible exact he | simpa using he) | (simp -implicitDefEqProofs [h, h3, e3])))
        exact ⟨k + 1, ⟨by omega, hsucc⟩, by omega, by omega⟩
  · have : k = g.ents.length := by omega
    subst this
    rw [hn]
    ((try simp -implicitDefEqProofs); repeat' first | (with_reducible refine gdK_em (fun hc => ?_) (fun hc => ?_) <;> (have hc' := hc; (try simp at hc'); simp -implicitDefEqProofs [hc, hc'])) | (with_reducible refine cdK_em (fun hc => ?_) (fun hc => ?_) <;> (have hc' := hc; (try simp at hc'); simp -implicitDefEqProofs [hc, hc'])) | (with_reducible refine pickK_em (fun hc => ?_) (fun hc => ?_) <;> (have hc' := hc; (try simp at hc'); simp -implicitDefEqProofs [hc, hc'])))
end Go.Proofs.Ythfnaaeddlnckaa
end

/- The two ways for a group to be valid agree. -/
section
set_option linter.unusedSimpArgs false
set_option linter.unusedVariables false
namespace Go.Proofs.Ythfnaaeddlnckaa
open E

theorem all_at {α : Type} (q : α → Bool) (d : α) (l : List α) : (!(l.any q)) = allB (fun k => !q (l.getD k d)) l.length := by
  rw [Bool.eq_iff_iff, allB_iff]
  simp
  constructor
  · intro h k hk
    rw [show l[k]?.getD d = l[k] by simp [hk]]
    exact h _ (List.getElem_mem hk)
  · intro h x hx
    obtain ⟨k, hk, rfl⟩ := List.getElem_of_mem hx
    have := h k hk
    rwa [show l[k]?.getD d = l[k] by simp [hk]] at this

theorem closed_any {L : List Role} {c : List Account} (h : allB (rolP c L) L.length = true) (n : Int) : closedAt L n = L.any fun r => badR r n := by
  suffices hs : ∀ k, k ≤ L.length → closedAt (L.take k) n = (L.take k).any fun r => badR r n by simpa using hs L.length (Nat.le_refl _)
  intro k
  induction k with
  | zero => intro _; simp [closedAt, closedM, aget]
  | succ k ih =>
    intro hk
    have hk' : k < L.length := by omega
    have ih := ih (by omega)
    have hr := allB_iff.1 h k hk'
    have hg : L.getD k role0 = L[k] := by simp [List.getD_eq_getElem?_getD, hk']
    simp only [rolP, hg, Bool.and_eq_true] at hr
    have hm : L[k].code ∉ (L.take k).map Role.code := by simpa using hr.2
    have hx : L[k]? = some L[k] := by simp [hk']
    rw [take_next hx, List.any_append]
    unfold closedAt at ih ⊢
    rw [closedM_snoc, aget_aset]
    by_cases hc : n = L[k].code
    · have hz : ((L.take k).any fun r => badR r n) = false := by
        rw [List.any_eq_false]
        intro r hr hb
        simp [badR] at hb
        exact hm (List.mem_map.2 ⟨r, hr, by rw [← hb.1, hc]⟩)
      rw [hz, if_pos hc]
      simp [badR, hc]
    · rw [if_neg hc, ih]
      simp [badR, hc]

theorem ent_agree {g : Group} (h : allB (rolP g.chart (rolesOf g.roles)) (rolesOf g.roles).length = true) (x : Ent) : entP g x = entR g x := by
  unfold entP entR
  rw [map_agree]
  congr 1
  have : (fun l : Link => closedAt (rolesOf g.roles) l.to) = fun l : Link => (rolesOf g.roles).any fun r => badR r l.to := funext fun l => closed_any h _
  rw [this, all_at _ lnk0]
  rfl

theorem books_acc (g : Group) : booksR g = (curB g.cur && calV g.cal && accB g) := by
  simp [booksR, accB, valid_agree, Bool.and_assoc]

theorem group_agree (g : Group) : validGP g = validGR g := by
  unfold validGP validGR
  rw [books_acc]
  cases ha : accB g
  · simp
  · have h : allB (rolP g.chart (rolesOf g.roles)) (rolesOf g.roles).length = true := by
      simp only [accB, Bool.and_eq_true] at ha
      exact ha.2
    have : vGP g = vGR g := by funext k; simp only [vGP, vGR, ent_agree h]
    rw [this]
end Go.Proofs.Ythfnaaeddlnckaa
end
