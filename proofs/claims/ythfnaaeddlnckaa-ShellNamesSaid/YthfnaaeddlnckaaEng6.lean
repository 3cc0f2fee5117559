/- The engine, part 6: every operation of the model does what the engine says of it (the rest of the kinds). -/
import Derived.Test.YthfnaaeddlnckaaEng5
set_option linter.unusedSimpArgs false
set_option linter.unusedVariables false
namespace Go.Proofs.Ythfnaaeddlnckaa
namespace E
section
variable {P : Program} {o : Oper} {ρ : Operand → Value} {g : Gh} {S : St} {w : World} {K : V → St → Prop}

theorem size_mk (s : List UInt8) : (⟨s.toArray⟩ : ByteArray).size = s.length := by simp [ByteArray.size]

theorem sound_mv {x : Operand} (ho : o.op = .move x ∨ o.op = .assign x) (hI : Inv g S w) {v : V} (hv : RelV g S.toks v (ρ x)) (hK : K v S) : Sem1 P o ρ g S w K := by
  refine Sem1.still hI (x := v) (v := ρ x) ?_ hv hK
  rcases ho with ho | ho <;> simp [execOp, ho]

theorem sound_pick {c a b : Operand} (ho : o.op = .pick c a b) (hI : Inv g S w) {vc va vb : V} (hc : RelV g S.toks vc (ρ c)) (ha : RelV g S.toks va (ρ a)) (hb : RelV g S.toks vb (ρ b))
    (hK : pickK vc va vb S K) : Sem1 P o ρ g S w K := by
  unfold pickK at hK
  split at hK
  · rename_i t
    generalize hρ : ρ c = u at hc
    cases hc with
    | t _ _ h => cases h with
    | bool =>
      cases t
      · exact Sem1.still hI (v := ρ b) (by simp [execOp, ho, hρ, asBool]) hb (by simpa using hK)
      · exact Sem1.still hI (v := ρ a) (by simp [execOp, ho, hρ, asBool]) ha (by simpa using hK)
  · exact hK.elim

theorem fieldOf_spec {t : TypeId} {f off n : Nat} {a : Bool} (h : fieldOf P t f = some (off, n, a)) :
    ∃ fs fd, P.underlying t = some (.struct fs) ∧ fs[f]? = some fd ∧ shapeOf P fd.type = some (n, a) ∧ n ≠ 0 ∧ fd.offset = off := by
  unfold fieldOf at h
  split at h
  · rename_i fs hu
    split at h
    · rename_i fd hf
      split at h
      · rename_i n' a' hs
        split at h
        · cases h
        · simp only [Option.some.injEq, Prod.mk.injEq] at h
          obtain ⟨rfl, rfl, rfl⟩ := h
          exact ⟨fs, fd, hu, hf, hs, by assumption, rfl⟩
      · cases h
    · cases h
  · cases h

theorem run_fieldPlace {t : TypeId} {f off n : Nat} {a : Bool} (h : fieldOf P t f = some (off, n, a)) (b q : Nat) :
    (Instr.fieldAt t (.pointer (some ⟨b, q, none⟩)) f).run P w = .ok (.pointer (some ⟨b, q + off, none⟩)) w := by
  obtain ⟨fs, fd, hu, hf, hs, hn, rfl⟩ := fieldOf_spec h
  obtain ⟨i, d, hi, hd, hni, ha, hor⟩ := shapeOf_spec hs
  simp [Instr.fieldAt, run_underlying hu, hf, Instr.sureAddr, fieldPlace, run_sizeOf' hi, hni, hn, Addr.add_lit]

theorem sound_faddr {t : TypeId} {f off n : Nat} {a : Bool} {x : Operand} (ho : o.op = .fieldAddr t x f) (hf : fieldOf P t f = some (off, n, a)) (hI : Inv g S w) {v : V} (hv : RelV g S.toks v (ρ x))
    (hK : faddrK off v S K) : Sem1 P o ρ g S w K := by
  unfold faddrK at hK
  split at hK
  · rename_i b q
    generalize hρ : ρ x = u at hv
    cases hv with
    | ptr _ _ blk hβ => exact Sem1.still hI (v := .pointer (some ⟨blk, q + off, none⟩)) (by simp [execOp, ho, hρ, run_fieldPlace hf]) (.ptr _ _ _ hβ) hK
  · rename_i e q
    generalize hρ : ρ x = u at hv
    cases hv with
    | tp _ _ blk base c hc hr =>
      refine Sem1.still hI (v := .pointer (some ⟨blk, base + (q + off), none⟩)) (by simp [execOp, ho, hρ, run_fieldPlace hf, Nat.add_assoc]) (.tp _ _ _ _ c hc hr) hK
  · exact hK.elim

theorem run_part {t : TypeId} {n : Nat} {a : Bool} (hs : shapeOf P t = some (n, a)) (vs : Array Value) (off : Nat) (h : off + n ≤ vs.size) :
    (part t vs off).run P w = .ok (if a then .agg ((List.range n).map fun j => vs.getD (off + j) undef).toArray else vs.getD (off + 0) undef) w := by
  obtain ⟨i, d, hi, hd, rfl, rfl, hor⟩ := shapeOf_spec hs
  cases ha : aggD d
  · rw [ha] at hor
    have h1 : i.size = 1 := by simpa using hor
    have hlt : off < vs.size := by omega
    simp [part, run_isAgg hd, ha, hlt]
  · simp only [part, run_isAgg hd, ha, run_sizeOf' hi, Sem.run_bind, Result.andThen_ok, if_true, Sem.run_pure]
    congr 2
    apply Array.ext'
    apply List.ext_getElem?
    intro j
    by_cases hj : j < i.size
    · have : off + j < vs.size := by omega
      simp [hj, this, List.getElem?_take, List.getElem?_drop]
    · simp [hj]
      omega

theorem sound_fld {t : TypeId} {f off n : Nat} {a : Bool} {x : Operand} (ho : o.op = .field t x f) (hf : fieldOf P t f = some (off, n, a)) (hI : Inv g S w) {v : V} (hv : RelV g S.toks v (ρ x))
    (hK : fldK n a off v S K) : Sem1 P o ρ g S w K := by
  obtain ⟨fs, fd, hu, hfd, hs, hn, rfl⟩ := fieldOf_spec hf
  obtain ⟨i, d, hi, hd, hni, ha, hor⟩ := shapeOf_spec hs
  unfold fldK at hK
  split at hK
  · rename_i cs
    obtain ⟨hle, hK⟩ := hK
    generalize hρ : ρ x = u at hv
    cases hv with
    | agg _ vs hl hr =>
      refine Sem1.still hI (x := ldv a n (cs.drop fd.offset)) (v := if a then .agg ((List.range n).map fun j => vs.getD (fd.offset + j) undef).toArray else vs.getD (fd.offset + 0) undef) ?_ ?_ hK
      · simp only [execOp, ho, hρ, Instr.field, run_underlying hu, hfd, asAgg, run_part hs vs fd.offset (by omega), Sem.run_bind, Sem.run_pure, Result.andThen_ok]
      · refine ldv_rel hor (by simp; omega) (f := fun j => vs.getD (fd.offset + j) undef) (fun j hj => ?_)
        have := hr (fd.offset + j) (by omega)
        simpa [List.getD_eq_getElem?_getD, List.getElem?_drop] using this
  · exact hK.elim

theorem sound_iaS {t e : TypeId} {j : TypeInfo} {x i : Operand} (ho : o.op = .indexAddr t x i) (hu : P.underlying t = some (.slice e)) (hj : P.info? e = some j) (hI : Inv g S w) {v vi : V}
    (hv : RelV g S.toks v (ρ x)) (hvi : RelV g S.toks vi (ρ i)) (hK : iaSK j.size v vi S K) : Sem1 P o ρ g S w K := by
  unfold iaSK at hK
  split at hK
  · rename_i es kk n hes
    obtain ⟨⟨h0, h1, h2⟩, hK⟩ := hK
    generalize hρi : ρ i = ui at hvi
    cases hvi with
    | t _ _ h => cases h with
    | int =>
      have hrel := esOf_rel hv hes
      generalize hρ : ρ x = u at hrel
      cases hrel with
      | slnil => simp at h1; omega
      | sl _ b off cap z c hz hc hm hcell hr =>
        have hn : n.toNat < es.length := by omega
        have hzz : z = j.size := by rw [← hz n.toNat hn]; exact h2
        subst hzz
        refine Sem1.still hI (x := .tp (es.getD n.toNat []) 0) (v := .pointer (some ⟨b, off + n.toNat * j.size + 0, none⟩)) ?_ ?_ hK
        · have : ¬ ((es.length : Int) ≤ 1 ∧ False) := by simp
          simp [execOp, ho, hρ, hρi, Instr.indexAt, asIntOf, run_underlying hu, h0, h1, run_sizeOf' hj, Addr.add_lit]
        · exact .tp _ _ b (off + n.toNat * j.size) (c n.toNat) (fun k hk => hcell _ _ hn (by omega)) (fun k hk => hr _ _ hn (by omega))
  · rename_i kk n hes
    split at hK
    · rename_i b off len
      obtain ⟨⟨h0, h1⟩, hK⟩ := hK
      generalize hρi : ρ i = ui at hvi
      cases hvi with
      | t _ _ h => cases h with
      | int =>
        generalize hρ : ρ x = u at hv
        cases hv with
        | vw _ _ _ blk cap hβ hc hm =>
          exact Sem1.still hI (v := .pointer (some ⟨blk, off + n.toNat * j.size, none⟩)) (by
            simp [execOp, ho, hρ, hρi, Instr.indexAt, asIntOf, run_underlying hu, h0, h1, run_sizeOf' hj, Addr.add_lit]) (.ptr _ _ _ hβ) hK
    · exact hK.elim
  · exact hK.elim

theorem sound_iaA {t e : TypeId} {len : Nat} {j : TypeInfo} {x i : Operand} (ho : o.op = .indexAddr t x i) (hu : P.underlying t = some (.array len e)) (hj : P.info? e = some j) (hI : Inv g S w) {v vi : V}
    (hv : RelV g S.toks v (ρ x)) (hvi : RelV g S.toks vi (ρ i)) (hK : iaAK len j.size v vi S K) : Sem1 P o ρ g S w K := by
  unfold iaAK at hK
  split at hK
  · rename_i b off kk n
    obtain ⟨⟨h0, h1⟩, hK⟩ := hK
    generalize hρi : ρ i = ui at hvi
    cases hvi with
    | t _ _ h => cases h with
    | int =>
      generalize hρ : ρ x = u at hv
      cases hv with
      | ptr _ _ blk hβ =>
        exact Sem1.still hI (v := .pointer (some ⟨blk, off + n.toNat * j.size, none⟩)) (by
          simp [execOp, ho, hρ, hρi, Instr.indexAt, Instr.sureAddr, asIntOf, run_underlying hu, h0, h1, run_sizeOf' hj, Addr.add_lit]) (.ptr _ _ _ hβ) hK
  · rename_i e' off kk n
    obtain ⟨⟨h0, h1⟩, hK⟩ := hK
    generalize hρi : ρ i = ui at hvi
    cases hvi with
    | t _ _ h => cases h with
    | int =>
      generalize hρ : ρ x = u at hv
      cases hv with
      | tp _ _ blk base c hc hr =>
        exact Sem1.still hI (v := .pointer (some ⟨blk, base + (off + n.toNat * j.size), none⟩)) (by
          simp [execOp, ho, hρ, hρi, Instr.indexAt, Instr.sureAddr, asIntOf, run_underlying hu, h0, h1, run_sizeOf' hj, Addr.add_lit, Nat.add_assoc]) (.tp _ _ _ _ c hc hr) hK
  · exact hK.elim

theorem sound_ixA {t e : TypeId} {len n : Nat} {a : Bool} {x i : Operand} (ho : o.op = .index t x i) (hu : P.underlying t = some (.array len e)) (hs : shapeOf P e = some (n, a)) (hI : Inv g S w) {v vi : V}
    (hv : RelV g S.toks v (ρ x)) (hvi : RelV g S.toks vi (ρ i)) (hK : ixAK len n n a v vi S K) : Sem1 P o ρ g S w K := by
  obtain ⟨ii, d, hi, hd, hni, ha, hor⟩ := shapeOf_spec hs
  unfold ixAK at hK
  split at hK
  · rename_i cs kk j
    obtain ⟨⟨h0, h1, h2⟩, hK⟩ := hK
    generalize hρi : ρ i = ui at hvi
    cases hvi with
    | t _ _ h => cases h with
    | int =>
      generalize hρ : ρ x = u at hv
      cases hv with
      | agg _ vs hl hr =>
        refine Sem1.still hI (x := ldv a n (cs.drop (j.toNat * n))) (v := if a then .agg ((List.range n).map fun q => vs.getD (j.toNat * n + q) undef).toArray else vs.getD (j.toNat * n + 0) undef) ?_ ?_ hK
        · simp only [execOp, ho, hρ, hρi, Instr.index, asIntOf, run_underlying hu, h0, h1, run_sizeOf' hi, hni, and_self, if_true, run_part hs vs (j.toNat * n) (by omega), Sem.run_bind, Sem.run_pure, Result.andThen_ok]
        · refine ldv_rel hor (by simp; omega) (f := fun q => vs.getD (j.toNat * n + q) undef) (fun q hq => ?_)
          have := hr (j.toNat * n + q) (by omega)
          simpa [List.getD_eq_getElem?_getD, List.getElem?_drop] using this
  · exact hK.elim

theorem sound_ixS {t : TypeId} {x i : Operand} (ho : o.op = .index t x i) (hu : P.underlying t = some .string) (hI : Inv g S w) {v vi : V}
    (hv : RelV g S.toks v (ρ x)) (hvi : RelV g S.toks vi (ρ i)) (hK : ixSK v vi S K) : Sem1 P o ρ g S w K := by
  unfold ixSK at hK
  split at hK
  · rename_i s kk j
    obtain ⟨⟨h0, h1⟩, hK⟩ := hK
    generalize hρi : ρ i = ui at hvi
    cases hvi with
    | t _ _ h => cases h with
    | int =>
      generalize hρ : ρ x = u at hv
      cases hv with
      | t _ _ h => cases h with
      | str =>
        have hlt : j.toNat < s.length := by omega
        have hget : (⟨s.toArray⟩ : ByteArray)[j.toNat]? = some (s.getD j.toNat 0) := by
          rw [getElem?_pos _ _ (by show j.toNat < s.toArray.size; simpa using hlt)]
          show some (s.toArray[j.toNat]) = _
          simp [List.getD_eq_getElem?_getD, hlt]
        refine Sem1.still hI (v := .int .u8 (s.getD j.toNat 0).toNat) ?_ (.t _ _ (.int _ _)) hK
        simp [execOp, ho, hρ, hρi, Instr.index, asIntOf, run_underlying hu, h0, hget]
  · exact hK.elim

theorem sound_bin {op : BinOp} {t u : TypeId} {x y : Operand} (ho : o.op = .binOp op t x y u) (hop : op ≠ .shl ∧ op ≠ .shr) (hI : Inv g S w) {vx vy : V}
    (hx : RelV g S.toks vx (ρ x)) (hy : RelV g S.toks vy (ρ y)) (hK : binK op vx vy S K) : Sem1 P o ρ g S w K := by
  unfold binK at hK
  split at hK
  · rename_i k a k' b
    obtain ⟨rfl, hK⟩ := hK
    generalize hρx : ρ x = ux at hx
    generalize hρy : ρ y = uy at hy
    cases hx with
    | t _ _ h => cases h with
    | int => cases hy with
    | t _ _ h => cases h with
    | int =>
      unfold intB at hK
      cases op <;> simp only at hK <;> first
        | exact hK.elim
        | exact absurd rfl hop.1
        | exact absurd rfl hop.2
        | (obtain ⟨hb, hK⟩ := hK
           refine Sem1.still hI ?_ (.t _ _ (.int _ _)) hK
           simp [execOp, ho, hρx, hρy, eqGuard, binOp, Op.intDiv, hb])
        | (refine Sem1.still hI ?_ (.t _ _ (.int _ _)) hK
           simp [execOp, ho, hρx, hρy, eqGuard, binOp, Op.intArith])
        | (refine Sem1.still hI ?_ (.t _ _ (.bool _)) hK
           simp [execOp, ho, hρx, hρy, eqGuard, binOp, Op.intCmp])
  · rename_i a b
    generalize hρx : ρ x = ux at hx
    generalize hρy : ρ y = uy at hy
    cases hx with
    | t _ _ h => cases h with
    | str => cases hy with
    | t _ _ h => cases h with
    | str =>
      have hbeq : ∀ p q : List UInt8, ((⟨p.toArray⟩ : ByteArray).toList == (⟨q.toArray⟩ : ByteArray).toList) = (p == q) := by
        intro p q; simp [ByteArray.toList_eq]
      have hless : ∀ p : List UInt8, (⟨p.toArray⟩ : ByteArray).toList = p := by intro p; simp [ByteArray.toList_eq]
      unfold strB at hK
      cases op <;> simp only at hK <;> first
        | exact hK.elim
        | (obtain ⟨hb, hK⟩ := hK
           refine Sem1.still hI ?_ (.t _ _ (.str _)) hK
           have hsz : ¬ (((⟨a.toArray⟩ : ByteArray).size + (⟨b.toArray⟩ : ByteArray).size : Nat) : Int) > IntKind.i64.max := by
             have h1 : (⟨a.toArray⟩ : ByteArray).size = a.length := by simp [ByteArray.size]
             have h2 : (⟨b.toArray⟩ : ByteArray).size = b.length := by simp [ByteArray.size]
             have h3 : IntKind.i64.max = 9223372036854775807 := by decide
             rw [h1, h2, h3]
             unfold maxLen at hb
             omega
           have happ : (⟨a.toArray⟩ : ByteArray) ++ ⟨b.toArray⟩ = ⟨(a ++ b).toArray⟩ := by
             apply ByteArray.ext; simp
           simp only [execOp, ho, hρx, hρy, eqGuard, binOp, Op.stringOp, Sem.run_bind, Sem.run_pure, Result.andThen_ok]
           simp only [hsz, if_false, happ, Sem.run_pure, Result.andThen_ok]
           simp)
        | (refine Sem1.still hI ?_ (.t _ _ (.bool _)) hK
           simp [execOp, ho, hρx, hρy, eqGuard, binOp, Op.stringOp, hbeq, hless])
  · exact hK.elim

theorem sound_un {op : UnOp} {t : TypeId} {x : Operand} (ho : o.op = .unOp op t x) (hI : Inv g S w) {v : V} (hv : RelV g S.toks v (ρ x)) (hK : unK op v S K) : Sem1 P o ρ g S w K := by
  unfold unK at hK
  split at hK
  · generalize hρ : ρ x = u at hv
    cases hv with
    | t _ _ h => cases h with
    | bool => exact Sem1.still hI (by simp [execOp, ho, hρ, Op.unary]) (.t _ _ (.bool _)) hK
  · generalize hρ : ρ x = u at hv
    cases hv with
    | t _ _ h => cases h with
    | int => exact Sem1.still hI (by simp [execOp, ho, hρ, Op.unary, Op.intArith]) (.t _ _ (.int _ _)) hK
  · exact hK.elim

theorem sound_cvI {s d : TypeId} {k' k : IntKind} {x : Operand} (ho : o.op = .convert s d x) (hs : P.underlying s = some (.int k')) (hd : P.underlying d = some (.int k)) (hI : Inv g S w) {v : V} (hv : RelV g S.toks v (ρ x))
    (hK : cvIK k v S K) : Sem1 P o ρ g S w K := by
  unfold cvIK at hK
  split at hK
  · generalize hρ : ρ x = u at hv
    cases hv with
    | t _ _ h => cases h with
    | int => exact Sem1.still hI (by simp [execOp, ho, hρ, convert, run_underlying hs, run_underlying hd, Conv.intToInt]) (.t _ _ (.int _ _)) hK
  · exact hK.elim

theorem sound_cvS {s d : TypeId} {x : Operand} (ho : o.op = .convert s d x) (hs : P.underlying s = some .string) (hd : P.underlying d = some .string) (hI : Inv g S w) {v : V} (hv : RelV g S.toks v (ρ x))
    (hK : cvSK v S K) : Sem1 P o ρ g S w K := by
  unfold cvSK at hK
  split at hK
  · generalize hρ : ρ x = u at hv
    cases hv with
    | t _ _ h => cases h with
    | str => exact Sem1.still hI (by simp [execOp, ho, hρ, convert, run_underlying hs, run_underlying hd]) (.t _ _ (.str _)) hK
  · exact hK.elim

theorem sound_ext {i : Nat} {x : Operand} (ho : o.op = .extract x i) (hI : Inv g S w) {v : V} (hv : RelV g S.toks v (ρ x)) (hK : extK i v S K) : Sem1 P o ρ g S w K := by
  unfold extK at hK
  split at hK
  · rename_i vs
    obtain ⟨hi, hK⟩ := hK
    generalize hρ : ρ x = u at hv
    cases hv with
    | tup _ us hl hr =>
      have hlt : i < us.size := by omega
      refine Sem1.still hI (v := us.getD i undef) ?_ (hr i hi) hK
      simp [execOp, ho, hρ, Instr.extract, hlt]
  · exact hK.elim

theorem sound_nilc {x : Operand} (ho : o.op = .nilCheck x) (hI : Inv g S w) {v : V} (hv : RelV g S.toks v (ρ x)) (hK : nilcK v S K) : Sem1 P o ρ g S w K := by
  unfold nilcK at hK
  split at hK
  · generalize hρ : ρ x = u at hv
    have hv' := hv
    cases hv with
    | ptr _ _ blk hβ => exact Sem1.still hI (by simp [execOp, ho, hρ]) hv' hK
  · generalize hρ : ρ x = u at hv
    have hv' := hv
    cases hv with
    | tp _ _ blk base c hc hr => exact Sem1.still hI (by simp [execOp, ho, hρ]) hv' hK
  · exact hK.elim

theorem sound_mkfn {f : Fn} {caps : Array Operand} (ho : o.op = .makeFunc f #[] caps) (hI : Inv g S w) {vs : List V} (hv : RelO g S.toks ρ caps.toList vs) (hK : K (.fn f vs) S) : Sem1 P o ρ g S w K := by
  refine Sem1.still hI (v := .func f #[] (caps.map ρ)) (by simp [execOp, ho, Instr.makeFunc]) (.fn f vs _ (by simp [hv.1]) fun j hj => ?_) hK
  have hlt : j < caps.size := by have := hv.1; simp at this; omega
  have := hv.2 j caps[j] (by simp [hlt])
  have hj' : j < vs.length := hj
  simpa [hlt, hj', List.getD_eq_getElem?_getD] using this

theorem sound_lenS {c : Call} {t : TypeId} {x : Operand} (ho : o.op = .call c) (hc : c.callee = .builtin .len) (ht : c.argTypes.toList = [t]) (hx : c.args.toList = [x]) (hu : P.underlying t = some .string) (hI : Inv g S w) {v : V}
    (hv : RelV g S.toks v (ρ x)) (hK : lenSK v S K) : Sem1 P o ρ g S w K := by
  have ht' : c.argTypes = #[t] := Array.toList_inj.1 (by simpa using ht)
  have hx' : c.args = #[x] := Array.toList_inj.1 (by simpa using hx)
  unfold lenSK at hK
  split at hK
  · generalize hρ : ρ x = u at hv
    cases hv with
    | t _ _ h => cases h with
    | str =>
      refine Sem1.still hI ?_ (.t _ _ (.int _ _)) hK
      simp [execOp, ho, resolve, hc, invoke, builtin, Builtin.len_, ht', hx', run_underlying hu, hρ, goInt, size_mk]
  · exact hK.elim

theorem sound_lenL {c : Call} {t e : TypeId} {x : Operand} (ho : o.op = .call c) (hc : c.callee = .builtin .len) (ht : c.argTypes.toList = [t]) (hx : c.args.toList = [x]) (hu : P.underlying t = some (.slice e)) (hI : Inv g S w) {v : V}
    (hv : RelV g S.toks v (ρ x)) (hK : lenLK v S K) : Sem1 P o ρ g S w K := by
  have ht' : c.argTypes = #[t] := Array.toList_inj.1 (by simpa using ht)
  have hx' : c.args = #[x] := Array.toList_inj.1 (by simpa using hx)
  unfold lenLK at hK
  split at hK
  · rename_i es hes
    have hrel := esOf_rel hv hes
    generalize hρ : ρ x = u at hrel
    cases hrel with
    | slnil =>
      refine Sem1.still hI (v := .int .i64 0) ?_ (.t _ _ (.int _ _)) hK
      simp [execOp, ho, resolve, hc, invoke, builtin, Builtin.len_, ht', hx', run_underlying hu, hρ, goInt]
    | sl _ b off cap z c' hz hcc hm hcell hr =>
      refine Sem1.still hI (v := .int .i64 es.length) ?_ (.t _ _ (.int _ _)) hK
      simp [execOp, ho, resolve, hc, invoke, builtin, Builtin.len_, ht', hx', run_underlying hu, hρ, goInt]
  · split at hK
    · generalize hρ : ρ x = u at hv
      cases hv with
      | vw _ _ _ blk cap hβ hcc hm =>
        refine Sem1.still hI ?_ (.t _ _ (.int _ _)) hK
        simp [execOp, ho, resolve, hc, invoke, builtin, Builtin.len_, ht', hx', run_underlying hu, hρ, goInt]
    · exact hK.elim

theorem sound_lenA {c : Call} {t e : TypeId} {n : Nat} {x : Operand} (ho : o.op = .call c) (hc : c.callee = .builtin .len) (ht : c.argTypes.toList = [t]) (hx : c.args.toList = [x]) (hu : P.underlying t = some (.array n e)) (hI : Inv g S w)
    (hK : K (.t (.int .i64 n)) S) : Sem1 P o ρ g S w K := by
  have ht' : c.argTypes = #[t] := Array.toList_inj.1 (by simpa using ht)
  have hx' : c.args = #[x] := Array.toList_inj.1 (by simpa using hx)
  refine Sem1.still hI (v := .int .i64 n) ?_ (.t _ _ (.int _ _)) hK
  simp [execOp, ho, resolve, hc, invoke, builtin, Builtin.len_, ht', hx', run_underlying hu, goInt]

end
end E
end Go.Proofs.Ythfnaaeddlnckaa
