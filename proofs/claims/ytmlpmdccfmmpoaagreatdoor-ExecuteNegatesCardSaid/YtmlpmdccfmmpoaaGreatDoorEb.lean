/- The engine, part 7: literals of structs and slices, append, slices of slices, equality. -/
import Derived.Test.YtmlpmdccfmmpoaaGreatDoorEa
import Derived.ChangeKeysEq
section
set_option linter.unusedSimpArgs false
set_option linter.unusedVariables false
namespace Go.Proofs.YtmlpmdccfmmpoaaGreatDoor
namespace E

theorem We (l:List Value) : ∀(k off:Nat) (cells:Array Value),(off+k+l.length≤cells.size)→
  ((l.zipIdx k).foldl (fun cs (p:Value×Nat)=>cs.setIfInBounds (off+p.2) p.1) cells).size=cells.size∧
  ∀j,((l.zipIdx k).foldl (fun cs (p:Value×Nat)=>cs.setIfInBounds (off+p.2) p.1) cells).getD j undef=if off+k≤j∧j<off+k+l.length then l.getD (j-(off+k)) undef else cells.getD j undef:=by
 induction l with
 | nil=>intro k off cells h;simp;intro j h1 h2;omega
 | cons v l ih=>
  intro k off cells h
  simp only [List.length_cons] at h
  have:=ih (k+1) off (cells.setIfInBounds (off+k) v) (by simp;omega)
  simp only [List.zipIdx_cons,List.foldl_cons]
  refine⟨by simpa using this.1,fun j=>?_⟩
  rw [this.2 j]
  simp only [List.length_cons]
  by_cases h1:off+(k+1)≤j∧j<off+(k+1)+l.length
  ·rw [if_pos h1,if_pos (by omega)]
   have:j-(off+k)=(j-(off+(k+1)))+1:=by omega
   rw [this];simp
  ·rw [if_neg h1]
   by_cases h2:j=off+k
   ·subst h2
    rw [if_pos (by omega)]
    have:off+k<cells.size:=by omega
    simp [this]
   ·rw [if_neg (by omega)]
    simp [Array.getElem?_setIfInBounds_ne (Ne.symm h2)]

theorem Ln (off:Nat) (cells v:Array Value) (h:off+v.size≤cells.size) :
  (v.zipIdx.foldl (fun cs (p:Value×Nat)=>cs.setIfInBounds (off+p.2) p.1) cells).size=cells.size∧
  ∀j,(v.zipIdx.foldl (fun cs (p:Value×Nat)=>cs.setIfInBounds (off+p.2) p.1) cells).getD j undef=if off≤j∧j<off+v.size then v.getD (j-off) undef else cells.getD j undef:=by
 have:=We v.toList 0 off cells (by simpa using h)
 rw [←Array.foldl_toList,Array.toList_zipIdx]
 simpa [List.getD_eq_getElem?_getD] using this

theorem Jh {place:Nat→Option (Nat×Nat)} {i off size:Nat} (cells:Array Value) (v:Value) (rest:List (Nat×Value)) (hp:place i=some (off,size)) (h1:v.cells.size=size) (h2:off+v.cells.size≤cells.size) :
  Instr.fill place cells ((i,v)::rest)=Instr.fill place (v.cells.zipIdx.foldl (fun cs (p:Value×Nat)=>cs.setIfInBounds (off+p.2) p.1) cells) rest:=by
 show (match place i with|none=>none|some (off,size)=>if v.cells.size≠size||off+v.cells.size>cells.size then none else Instr.fill place (v.cells.zipIdx.foldl (fun cs (p:Value×Nat)=>cs.setIfInBounds (off+p.2) p.1) cells) rest)=_
 rw [hp]
 simp only []
 rw [if_neg]
 simp [h1]
 omega

section
variable {P:Program} {o:Oper} {ρ:Operand→Value} {g:Gh} {S:St} {w:World} {K:V→St→Prop}

theorem Yk {place:Nat→Option (Nat×Nat)} : ∀(parts:List (Nat×Operand)) (ps:List (Nat×Nat)) (vs cells cells':List V) (cs:Array Value),
  (parts.map (·.1)).mapM place=some ps→Lf cells ps vs=some cells'→E6 g S.toks ρ (parts.map (·.2)) vs→(∀v∈vs,isAggV v=true∨cellB v=true)→
  cs.size=cells.length→(∀j,j<cells.length→RelV g S.toks (cells.getD j .junk) (cs.getD j undef))→
  ∃cs',Instr.fill place cs (parts.map fun p=>(p.1,ρ p.2))=some cs'∧cs'.size=cells'.length∧∀j,j<cells'.length→RelV g S.toks (cells'.getD j .junk) (cs'.getD j undef):=by
 intro parts
 induction parts with
 | nil=>
  intro ps vs cells cells' cs hps hf hv _ hsz hrel
  have hvs:vs=[]:=List.eq_nil_of_length_eq_zero (by simpa using hv.1)
  simp at hps
  subst hps;subst hvs
  simp [Lf] at hf
  subst hf
  exact⟨cs,by simp [Instr.fill],hsz,hrel⟩
 | cons p parts ih=>
  intro ps vs cells cells' cs hps hf hv hok hsz hrel
  obtain⟨i,x⟩:=p
  cases vs with
  | nil=>have:=hv.1;simp at this
  | cons v vs=>
  simp only [List.map_cons,List.mapM_cons,Option.bind_eq_bind,Option.pure_def] at hps
  cases hp:place i with
  | none=>simp [hp] at hps
  | some q=>
   obtain⟨off,size⟩:=q
   cases hr:(parts.map (·.1)).mapM place with
   | none=>simp [hp,hr] at hps
   | some ps'=>
    simp [hp,hr] at hps
    subst hps
    simp only [Lf] at hf
    split at hf
    ·rename_i hc
     have hvrel:RelV g S.toks v (ρ x):=by simpa using hv.2 0 x (by simp)
     obtain⟨c1,c2⟩:=Ba hvrel (hok v (by simp))
     have hst:=Ln off cs (ρ x).cells (by rw [c1,hsz];exact hc.2)
     obtain⟨cs',h1,h2,h3⟩:=ih ps' vs (C2 cells off (cellsV v)) cells' ((ρ x).cells.zipIdx.foldl (fun cs (p:Value×Nat)=>cs.setIfInBounds (off+p.2) p.1) cs) hr hf
      ⟨by have:=hv.1;simpa using this,fun j y hy=>by simpa using hv.2 (j+1) y (by simpa using hy)⟩ (fun u hu=>hok u (by simp [hu]))
      (by rw [hst.1,hsz,B8 _ _ _ (by omega)]) (fun j hj=>by
       rw [B8 _ _ _ (by omega)] at hj
       rw [hst.2 j,C2,C0 cells off (cellsV v) .junk (by omega) j,c1]
       split
       ·exact c2 _ (by omega)
       ·exact hrel j hj)
     refine⟨cs',?_,h2,h3⟩
     rw [List.map_cons,Jh cs (ρ x) _ hp (by rw [c1];exact hc.1) (by rw [c1,hsz];exact hc.2)]
     exact h1
    ·cases hf

theorem Q3 (fs:Array Field) (hall:(fs.all fun f=>(P.info? f.type).isSome)=true) :
  ∃pl:List (Nat×Nat),fs.toList.mapM (fun f=>(P.info? f.type).map fun i=>(f.offset,i.size))=some pl∧∀(i:Nat),pl[i]?=match fs[i]? with|some (fd:Field)=>(P.info? fd.type).map fun j=>(fd.offset,j.size)|none=>none:=by
 have key : ∀(l:List Field),(∀f∈l,(P.info? f.type).isSome=true)→∃pl:List (Nat×Nat),l.mapM (fun f=>(P.info? f.type).map fun i=>(f.offset,i.size))=some pl∧
   ∀(i:Nat),pl[i]?=match l[i]? with|some (fd:Field)=>(P.info? fd.type).map fun j=>(fd.offset,j.size)|none=>none:=by
  intro l
  induction l with
  | nil=>intro _;exact⟨[],by simp,by simp⟩
  | cons f l ih=>
   intro h
   obtain⟨pl,h1,h2⟩:=ih fun x hx=>h x (by simp [hx])
   obtain⟨j,hj⟩:=Option.isSome_iff_exists.1 (h f (by simp))
   refine⟨(f.offset,j.size)::pl,by simp [hj,h1],fun i=>?_⟩
   cases i with
   | zero=>simp [hj]
   | succ i=>simpa using h2 i
 obtain⟨pl,h1,h2⟩:=key fs.toList (fun f hf=>by
  have:=Array.all_eq_true_iff_forall_mem.1 hall f (by simpa using hf)
  exact this)
 exact⟨pl,h1,fun i=>by rw [h2 i];simp⟩

theorem Q4 {t:TypeId} {parts:Array (Nat×Operand)} {i:TypeInfo} {z:Value} {zv:V} {ps:List (Nat×Nat)} {cells:List V} (ho:o.op=.build t parts) (hi:P.info? t=some i) (hz:i.zero=some z)
  (hzv:constV z=some zv) (hps:placesOf P t (parts.toList.map (·.1))=some ps)
  (hall:fieldsKnown P t=true)
  (hI:Inv g S w) {vs:List V} (hv:E6 g S.toks ρ (parts.toList.map (·.2)) vs) (hok : ∀v∈vs,isAggV v=true∨cellB v=true) (hf:Lf (cellsV zv) ps vs=some cells) (hK:K (.agg cells) S):Ai P o ρ g S w K:=by
 have hcv:isAggV zv=true∨cellB zv=true:=by
  unfold constV at hzv
  split at hzv
  ·rename_i cs
   cases hx:constVs cs.toList with
   | none=>simp [hx] at hzv
   | some xs=>simp [hx] at hzv;subst hzv;exact .inl rfl
  ·unfold constV1 at hzv
   split at hzv<;>simp at hzv<;>subst hzv<;>exact .inr rfl
 obtain⟨z1,z2⟩:=Ba (Cu (g:=g) (tk:=S.toks) hzv) hcv
 have fin : ∀(place:Nat→Option (Nat×Nat)),(parts.toList.map (·.1)).mapM place=some ps→P.built t (parts.toList.map fun p=>(p.1,ρ p.2))=Instr.fill place z.cells (parts.toList.map fun p=>(p.1,ρ p.2))→Ai P o ρ g S w K:=by
  intro place h1 h2
  obtain⟨cs',e1,e2,e3⟩:=Yk parts.toList ps vs (cellsV zv) cells z.cells h1 hf hv hok z1 z2
  have hr:=run_build (P:=P) w t (parts.map fun p=>(p.1,ρ p.2)) cs' (by simpa using h2.trans e1)
  exact Ai.still hI (v:=.agg cs') (by simp [execOp,ho,hr]) (.agg _ _ e2 e3) hK
 unfold placesOf at hps
 split at hps
 ·rename_i fs hu
  simp only [fieldsKnown,hu] at hall
  obtain⟨pl,h1,h2⟩:=Q3 fs hall
  refine fin (pl.toArray[·]?) ?_ ?_
  ·rw [←hps]
   congr 1
   funext k
   have h3:=h2 k
   simp only [List.getElem?_toArray]
   rw [h3]
   cases fs[k]?<;>rfl
  ·simp only [Program.built,hi,hu,hz,h1]
 ·rename_i n e hu
  split at hps
  ·rename_i j hj
   refine fin (fun i=>some (i*j.size,j.size)) hps ?_
   simp only [Program.built,hi,hu,hz,hj]
  ·cases hps
 ·cases hps

theorem fill_row (size:Nat) (hs:0<size) : ∀(us:List Value) (k:Nat) (cells:Array Value),(∀u∈us,u.cells.size=size)→(k+us.length)*size≤cells.size→
  ∃out,Instr.fill (fun i=>some (i*size,size)) cells ((List.range' k us.length).zip us)=some out∧out.size=cells.size∧
   ∀i q,q<size→k≤i→i<k+us.length→out.getD (i*size+q) undef=(us.getD (i-k) undef).cells.getD q undef:=by
 have keep : ∀(us:List Value) (k:Nat) (cells out:Array Value),Instr.fill (fun i=>some (i*size,size)) cells ((List.range' k us.length).zip us)=some out→(∀u∈us,u.cells.size=size)→(k+us.length)*size≤cells.size→
   ∀j,j<k*size→out.getD j undef=cells.getD j undef:=by
  intro us
  induction us with
  | nil=>intro k cells out h _ _ j _;simp [Instr.fill] at h;rw [h]
  | cons u us ih=>
   intro k cells out h hu hle j hj
   have hus:=hu u (by simp)
   simp only [List.length_cons,List.range'_succ,List.zip_cons_cons] at h hle
   have hle2:k*size+size≤cells.size:=by
    have:(k+1)*size≤(k+(us.length+1))*size:=Nat.mul_le_mul_right _ (by omega)
    rw [Nat.add_mul] at this;omega
   rw [Jh (place:=fun i=>some (i*size,size)) cells u _ rfl hus (by rw [hus];exact hle2)] at h
   have hst:=Ln (k*size) cells u.cells (by rw [hus];exact hle2)
   rw [ih (k+1) _ out h (fun x hx=>hu x (by simp [hx])) (by rw [hst.1];rw [show k+1+us.length=k+(us.length+1) from by omega];exact hle) j (by rw [Nat.add_mul];omega),hst.2 j,if_neg (by omega)]
 intro us
 induction us with
 | nil=>intro k cells _ _;exact⟨cells,by simp [Instr.fill],rfl,fun i q hq h1 h2=>by simp at h2;omega⟩
 | cons u us ih=>
  intro k cells hu hle
  have hus:=hu u (by simp)
  simp only [List.length_cons] at hle
  have hle2:k*size+size≤cells.size:=by
   have:(k+1)*size≤(k+(us.length+1))*size:=Nat.mul_le_mul_right _ (by omega)
   rw [Nat.add_mul] at this;omega
  have hst:=Ln (k*size) cells u.cells (by rw [hus];exact hle2)
  have hle3:(k+1+us.length)*size≤(u.cells.zipIdx.foldl (fun cs (p:Value×Nat)=>cs.setIfInBounds (k*size+p.2) p.1) cells).size:=by
   rw [hst.1,show k+1+us.length=k+(us.length+1) from by omega];exact hle
  obtain⟨out,h1,h2,h3⟩:=ih (k+1) _ (fun x hx=>hu x (by simp [hx])) hle3
  refine⟨out,?_,h2.trans hst.1,?_⟩
  ·simp only [List.length_cons,List.range'_succ,List.zip_cons_cons]
   rw [Jh (place:=fun i=>some (i*size,size)) cells u _ rfl hus (by rw [hus];exact hle2)]
   exact h1
  ·intro i q hq hk hi
   by_cases hik:i=k
   ·subst hik
    rw [keep us (i+1) _ out h1 (fun x hx=>hu x (by simp [hx])) hle3 _ (by rw [Nat.add_mul];omega),hst.2,if_pos (by rw [hus];omega)]
    simp
   ·rw [h3 i q hq (by omega) (by simp at hi;omega),show i-k=(i-(k+1))+1 from by omega]
    simp

theorem Nj {t e:TypeId} {len:Nat} {parts:Array (Nat×Operand)} {i:TypeInfo} {z:Value} (ho:o.op=.buildSlice t len parts) (hu:P.underlying t=some (.slice e)) (hi:P.info? e=some i) (hz:i.zero=some z)
  (hix:parts.toList.map (·.1)=List.range len) (hzs:z.cells.size=i.size) (hsz:0<i.size) (hmax:len*i.size≤2 ^ 24)
  (hI:Inv g S w) {vs:List V} (hv:E6 g S.toks ρ (parts.toList.map (·.2)) vs) (hok : ∀v∈vs,isAggV v=true∨cellB v=true) (hK:Kt i.size vs S K):Ai P o ρ g S w K:=by
 unfold Kt at hK
 split at hK
 ·rename_i es hes
  obtain⟨hlen,hK⟩:=hK
  have hpl:parts.toList.length=len:=by have:=congrArg List.length hix;simpa using this
  have hvl:vs.length=len:=by have:=hv.1;simp at this;simpa using this.trans (by simpa using hpl)
  -- the elements
  have hesl:es.length=vs.length∧∀k,k<vs.length→Bu (cellsV (vs.getD k .und))=some (es.getD k []):=by
   clear hv hok hK hvl hlen
   induction vs generalizing es with
   | nil=>simp at hes;subst hes;simp
   | cons v vs ih=>
    simp only [List.mapM_cons,Option.bind_eq_bind,Option.pure_def] at hes
    cases h1:Bu (cellsV v) with
    | none=>simp [h1] at hes
    | some ts=>
     cases h2:vs.mapM (fun v=>Bu (cellsV v)) with
     | none=>simp [h1,h2] at hes
     | some rs=>
      simp [h1,h2] at hes
      subst hes
      have:=ih rs h2
      refine⟨by simp [this.1],fun k hk=>?_⟩
      cases k with
      | zero=>simpa using h1
      | succ k=>simpa using this.2 k (by simpa using hk)
  let us:List Value:=parts.toList.map fun p=>ρ p.2
  have hul:us.length=len:=by simp [us,hpl]
  have hvu : ∀k,k<len→RelV g S.toks (vs.getD k .und) (us.getD k undef):=by
   intro k hk
   have hk':k<parts.size:=by simpa [←hpl] using hk
   have:=hv.2 k parts[k].2 (by simp [hk'])
   simpa [us,List.getD_eq_getElem?_getD,hk'] using this
  have hokk : ∀k,k<len→isAggV (vs.getD k .und)=true∨cellB (vs.getD k .und)=true:=by
   intro k hk
   have hk':k<vs.length:=by omega
   exact hok _ (by simp [List.getD_eq_getElem?_getD,hk'])
  have hsize : ∀k,k<len→(us.getD k undef).cells.size=i.size:=by
   intro k hk
   rw [(Ba (hvu k hk) (hokk k hk)).1,←(Ch (hesl.2 k (by omega))).1]
   have hk':k<es.length:=by omega
   exact hlen _ (by simp [List.getD_eq_getElem?_getD,hk'])
  have hzip : ∀(l:List (Nat×Operand)) (k:Nat),l.map (·.1)=List.range' k l.length→(l.map fun p=>(p.1,ρ p.2))=(List.range' k l.length).zip (l.map fun p=>ρ p.2):=by
   intro l
   induction l with
   | nil=>intro k _;simp
   | cons p l ih=>
    intro k hk
    simp only [List.map_cons,List.length_cons,List.range'_succ,List.cons.injEq,List.zip_cons_cons] at hk ⊢
    exact⟨by rw [hk.1],ih _ hk.2⟩
  have hparts:(parts.map fun (p:Nat×Operand)=>(p.1,ρ p.2)).toList=(List.range' 0 us.length).zip us:=by
   rw [Array.toList_map,hzip parts.toList 0 (by rw [hix,List.range_eq_range',hpl])]
   simp [us]
  let zeros:Array Value:=(Array.range (len*i.size)).map (z.cells[· % z.cells.size]!)
  obtain⟨out,h1,h2,h3⟩:=fill_row i.size hsz us 0 zeros (fun u hu'=>by
   obtain⟨k,hk⟩:=List.mem_iff_getElem?.1 hu'
   have hkl:k<us.length:=(List.getElem?_eq_some_iff.1 hk).1
   have:=hsize k (by omega)
   simpa [List.getD_eq_getElem?_getD,hk] using this) (by simp [zeros,hul])
  have houts:out.size=len*i.size:=by rw [h2];simp [zeros]
  have hrow:=hI.row out e
  have hrun:(execOp ρ o).run P w=.ok (.value (.slice (some ⟨w.heap.size,0,none⟩) len len)) (w.alloc (.cells out e)):=by
   have hmax' : ¬(2 ^ 24<len*i.size):=by omega
   simp only [execOp,ho,Instr.buildSlice,run_underlying hu,At hi,Sem.run_bind,Result.andThen_ok,Sem.run_ite]
   have hfill:Instr.fill (fun i_1=>some (i_1*i.size,i.size)) (Array.map (fun x=>z.cells[x % z.cells.size]!) (Array.range (len*i.size))) ((parts.map fun (p:Nat×Operand)=>(p.1,ρ p.2)).toList)=some out:=by
    rw [hparts];exact h1
   by_cases h0:len*i.size=0
   ·have hl0:len=0:=by rcases Nat.mul_eq_zero.1 h0 with h|h<;>omega
    have hp0:parts = #[]:=by
     apply Array.toList_inj.1
     exact List.eq_nil_of_length_eq_zero (by omega)
    have ho0:out = #[]:=Array.eq_empty_of_size_eq_zero (by omega)
    subst hp0
    subst ho0
    subst hl0
    simp [Instr.fill,newRow,show Array.range 0 = #[] from rfl]
   ·have hz':((zeroValue e).run P w)=.ok z w:=by simp [zeroValue,typeInfo,hi,hz]
    have hmap:(Array.map (fun (x:Nat×Operand)=>match x with|(i_1,x)=>(i_1,ρ x)) parts)=parts.map fun (p:Nat×Operand)=>(p.1,ρ p.2):=rfl
    rw [Array.toList_map] at hfill
    simp [hmax',h0,hz',newRow]
    rw [hfill]
    simp
  refine⟨.full es,S,_,_,_,.inl hrun,hK,?_,hrow⟩
  have heslen:es.length=len:=by omega
  rw [←heslen]
  refine .full es _ (.sl es w.heap.size 0 es.length i.size (fun a b=>out.getD (a*i.size+b) undef) (fun k hk=>?_) (Nat.le_refl _) ?_ (fun a b ha hb=>?_) (fun a b ha hb=>?_))
  ·exact hlen _ (by simp [List.getD_eq_getElem?_getD,hk])
  ·rw [heslen]
   have:len≤len*i.size:=Nat.le_mul_of_pos_right _ hsz
   unfold maxLen;omega
  ·show (if w.heap.size=w.heap.size then out[0+a*i.size+b]? else _)=_
   rw [if_pos rfl,Nat.zero_add]
   have:a*i.size+b<out.size:=by
    rw [houts]
    have:(a+1)*i.size≤len*i.size:=Nat.mul_le_mul_right _ (by omega)
    rw [Nat.add_mul] at this;omega
   simp [this]
  ·rw [h3 a b hb (by omega) (by omega)]
   have hc:=(Ba (hvu a (by omega)) (hokk a (by omega))).2 b (by rw [←(Ch (hesl.2 a (by omega))).1,hlen (es.getD a []) (by simp [List.getD_eq_getElem?_getD,ha])];exact hb)
   have ht:=(Ch (hesl.2 a (by omega))).2 b (by rw [←(Ch (hesl.2 a (by omega))).1,hlen (es.getD a []) (by simp [List.getD_eq_getElem?_getD,ha])];exact hb)
   exact (Ik hc ht).mono hrow.ext.I
 ·exact hK.elim


end
end E
end Go.Proofs.YtmlpmdccfmmpoaaGreatDoor
end

/- The engine, part 8: append. -/
section
set_option linter.unusedSimpArgs false
set_option linter.unusedVariables false
namespace Go.Proofs.YtmlpmdccfmmpoaaGreatDoor
namespace E
section
variable {P:Program} {o:Oper} {ρ:Operand→Value} {g:Gh} {S:St} {w:World} {K:V→St→Prop}

theorem RelT.oneCell {I:Nat→Nat→Option Value} {x:T} {v:Value} (h:RelT I x v):v.oneCell'=true:=by cases h<;>rfl

theorem RelT.flat {I:Nat→Nat→Option Value} {es:List (List T)} {z:Nat} {b off:Nat} {c:Nat→Nat→Value} (hz : ∀x∈es,x.length=z)
  (hI : ∀i j,i<es.length→j<z→I b (off+i*z+j)=some (c i j)) (hr : ∀i j,i<es.length→j<z→RelT I ((es.getD i []).getD j .nilp) (c i j)) :
  ∃news:List Value,news.length=es.length*z∧(∀(j:Nat) (u:Value),news[j]?=some u→I b (off+j)=some u)∧
   (∀i j,i<es.length→j<z→RelT I ((es.getD i []).getD j .nilp) (news.getD (i*z+j) undef))∧∀u∈news,u.oneCell'=true:=by
 by_cases hz0:z=0
 ·subst hz0
  exact⟨[],by simp,by simp,fun i j _ h=>absurd h (Nat.not_lt_zero _),by simp⟩
 ·have hpos:0<z:=Nat.pos_of_ne_zero hz0
  have hdm : ∀k,k<es.length*z→k / z<es.length∧k % z<z∧k / z*z+k % z=k:=fun k hk=>
   ⟨(Nat.div_lt_iff_lt_mul hpos).2 hk,Nat.mod_lt _ hpos,by rw [Nat.mul_comm];exact Nat.div_add_mod k z⟩
  refine⟨(List.range (es.length*z)).map fun k=>c (k / z) (k % z),by simp,fun j u hu=>?_,fun i j hi hj=>?_,fun u hu=>?_⟩
  ·have hlt:j<es.length*z:=by have:=(List.getElem?_eq_some_iff.1 hu).1;simpa using this
   obtain⟨h1,h2,h3⟩:=hdm j hlt
   simp [hlt] at hu
   have:=hI _ _ h1 h2
   rw [Nat.add_assoc,h3] at this
   rw [this,hu]
  ·have hlt:i*z+j<es.length*z:=by
    have:(i+1)*z≤es.length*z:=Nat.mul_le_mul_right _ hi
    rw [Nat.add_mul] at this;omega
   have e1:(i*z+j) / z=i:=by rw [Nat.mul_comm,Nat.mul_add_div hpos,Nat.div_eq_of_lt hj];omega
   have e2:(i*z+j) % z=j:=by rw [Nat.mul_comm,Nat.mul_add_mod,Nat.mod_eq_of_lt hj]
   have:=hr i j hi hj
   simpa [List.getD_eq_getElem?_getD,hlt,e1,e2] using this
  ·obtain⟨k,hk,rfl⟩:=List.mem_map.1 hu
   have hlt:k<es.length*z:=by simpa using hk
   obtain⟨h1,h2,h3⟩:=hdm k hlt
   exact (hr _ _ h1 h2).oneCell

theorem Lo {sz:Nat} {x:V} {v:Value} {new:List (List T)} (hsz:0<sz) (hI:Inv g S w) (hv:RelV g S.toks x v) (hs:Ks sz x S=some new) (hn : ∀y∈new,y.length=sz) :
  (v=.slice none 0 0∧new=[])∨
  ∃(a:Addr) (c:Nat) (news:List Value),v=.slice (some a) new.length c∧news.length=new.length*sz∧(∀(j:Nat) (u:Value),news[j]?=some u→w.cell? (a.add j)=some u)∧
   (∀i j,i<new.length→j<sz→RelT g.I ((new.getD i []).getD j .nilp) (news.getD (i*sz+j) undef))∧∀u∈news,u.oneCell'=true:=by
 unfold Ks at hs
 split at hs
 ·rename_i es hes
  simp only [Option.some.injEq] at hs
  subst hs
  have hrel:=Gn hv hes
  cases hrel with
  | slnil=>exact .inl ⟨rfl,rfl⟩
  | slz a cap hm=>exact .inr ⟨a,cap,[],rfl,by simp,by simp,fun i j hi=>by simp at hi,by simp⟩
  | sl _ b off cap z c hz hc hm hcell hr=>
   right
   by_cases h0:es=[]
   ·subst h0
    exact⟨⟨b,off,none⟩,cap,[],rfl,by simp,by simp,fun i j hi=>by simp at hi,by simp⟩
   ·have hpos:0<es.length:=List.length_pos_iff.2 h0
    have hzz:z=sz:=by
     rw [←hz 0 hpos]
     exact hn _ (by simp [List.getD_eq_getElem?_getD,hpos])
    subst hzz
    obtain⟨news,n1,n2,n3,n4⟩:=RelT.flat hn hcell hr
    exact⟨⟨b,off,none⟩,cap,news,rfl,n1,fun j u hu=>by rw [Addr.add_lit];exact hI.imm _ _ _ (n2 j u hu),n3,n4⟩
 ·have view : ∀(b off n blk cap:Nat),g.β[b]?=some blk→(S.boxes[b]?.bind B5).bind (Ef sz off n)=some new→v=.slice (some ⟨blk,off,none⟩) n cap→
   ∃(b off c:Nat) (news:List Value),v=.slice (some ⟨b,off,none⟩) new.length c∧news.length=new.length*sz∧(∀(j:Nat) (u:Value),news[j]?=some u→w.cell? ((⟨b,off,none⟩:Addr).add j)=some u)∧
   (∀i j,i<new.length→j<sz→RelT g.I ((new.getD i []).getD j .nilp) (news.getD (i*sz+j) undef))∧∀u∈news,u.oneCell'=true:=by
   intro b off n blk cap hβ hs hv
   cases hcs:S.boxes[b]?.bind B5 with
   | none=>simp [hcs] at hs
   | some cs=>
   simp only [hcs,Option.bind_some,Ef] at hs
   cases hts:Bu ((cs.drop off).take (n*sz)) with
   | none=>simp [hts] at hs
   | some ts=>
   simp only [hts,Option.bind_some,F0] at hs
   split at hs
   ·rename_i hlen
    simp only [Option.some.injEq] at hs
    obtain⟨bx,hbx,hcx,vs,ty,hh,hvsz,hrel⟩:=Fk hI hβ hcs
    obtain⟨t1,t2⟩:=Ch hts
    have hnl:new.length=n:=by rw [←hs];simp
    have hlen2:((cs.drop off).take (n*sz)).length=n*sz:=by rw [←t1];exact hlen
    have hle:off+n*sz≤cs.length∨n*sz=0:=by
     simp at hlen2;omega
    have hcell : ∀j,j<n*sz→RelT g.I (ts.getD j .nilp) (vs.getD (off+j) undef):=by
     intro j hj
     have h1:=t2 j (by rw [hlen2];exact hj)
     have h2:=hrel (off+j) (by omega)
     refine Ik h2 ?_
     rw [←h1]
     simp [List.getD_eq_getElem?_getD,List.getElem?_take,hj]
    refine⟨blk,off,cap,(List.range (n*sz)).map fun j=>vs.getD (off+j) undef,by rw [hnl,hv],by simp [hnl],fun j u hu=>?_,fun i j hi hj=>?_,fun u hu=>?_⟩
    ·have hlt:j<n*sz:=by have:=(List.getElem?_eq_some_iff.1 hu).1;simpa using this
     rw [Addr.add_lit,cell_of_row w blk (off+j) vs ty _ hh]
     have:off+j<vs.size:=by omega
     simp [hlt,this] at hu
     simp [this,hu]
    ·have hin:i<n:=by omega
     have hlt:i*sz+j<n*sz:=by
      have:(i+1)*sz≤n*sz:=Nat.mul_le_mul_right _ hin
      rw [Nat.add_mul] at this;omega
     have h1:=hcell _ hlt
     have e1:(new.getD i []).getD j .nilp=ts.getD (i*sz+j) .nilp:=by
      rw [←hs]
      simp [List.getD_eq_getElem?_getD,hin,List.getElem?_take,hj]
     rw [e1]
     simpa [List.getD_eq_getElem?_getD,hlt] using h1
    ·obtain⟨k,hk,rfl⟩:=List.mem_map.1 hu
     exact (hcell k (by simpa using hk)).oneCell
   ·cases hs
  cases x with
  | vw b off n=>
   simp only [] at hs
   right
   cases hv with
   | vw _ _ _ blk cap hβ hc hm=>obtain⟨b',o',c',nw,h⟩:=view b off n blk cap hβ hs rfl;exact⟨⟨b',o',none⟩,c',nw,h⟩
  | bw b n=>
   simp only [] at hs
   right
   cases hv with
   | bw _ _ blk cap hβ hc hk hm=>obtain⟨b',o',c',nw,h⟩:=view b 0 n blk cap hβ hs rfl;exact⟨⟨b',o',none⟩,c',nw,h⟩
  | _=>simp at hs

theorem Q5 : ∀{l:List (List T)},(∀y∈l,y.length=1)→l.flatten=l.map fun y=>y.getD 0 .nilp
 | [],_=>rfl
 | y::l,h=>by
  have h1:=h y (by simp)
  rw [List.flatten_cons,Q5 fun z hz=>h z (by simp [hz])]
  match y,h1 with
  | [a],_=>rfl
theorem Wf {c:Call} {t e:TypeId} {j:TypeInfo} {x y:Operand} (ho:o.op=.call c) (hc:c.callee=.builtin .copy) (ht:c.argTypes.toList=[t,t]) (hx:c.args.toList=[x,y]) (hu:P.underlying t=some (.slice e))
  (hj:P.info? e=some j) (hs:j.size=1) (hI:Inv g S w) {vd vx:V} (hvd:RelV g S.toks vd (ρ x)) (hvx:RelV g S.toks vx (ρ y)) (hK:Pw vd vx S K):Ai P o ρ g S w K:=by
 have ht':c.argTypes = #[t,t]:=Array.toList_inj.1 (by simpa using ht)
 have hx':c.args = #[x,y]:=Array.toList_inj.1 (by simpa using hx)
 unfold Pw at hK
 split at hK
 ·exact hK.elim
 ·rename_i new hsrc
  obtain⟨hn,hK⟩:=hK
  have hsp:=Lo (by decide:0<1) hI hvx hsrc hn
  split at hK
  ·rename_i b n
   generalize hρ:ρ x=u at hvd
   cases hvd with
   | bw _ _ blk cap hβ hcc hk hm=>
    split at hK
    ·rename_i cs hcs
     obtain⟨⟨hle1,hle2⟩,hK⟩:=hK
     have hfl:=Q5 hn
     have hxl:(new.flatten.map V.t).length=new.length:=by rw [hfl];simp
     have fin : ∀(news:List Value),news.length=new.length→(∀i j,i<new.length→j<1→RelT g.I ((new.getD i []).getD j .nilp) (news.getD (i*1+j) undef))→(∀u∈news,u.oneCell'=true)→
       ∃w',(storeCells ⟨blk,0,none⟩ news).run P w=.ok () w'∧Mv g S w g { S with boxes:=S.boxes.set b (Lg (S.boxes.getD b .dead) (C2 cs 0 (new.flatten.map .t))) } w':=by
      intro news h1 h2 h3
      refine Nh (P:=P) hI hβ hcs news (new.flatten.map .t) (by rw [hxl,h1]) (by rw [hxl];omega) (fun i hi=>?_) h3
      rw [hxl] at hi
      have h4:=h2 i 0 hi (by omega)
      have e1:(new.flatten.map V.t).getD i .junk=.t ((new.getD i []).getD 0 .nilp):=by
       rw [hfl];simp [List.getD_eq_getElem?_getD,hi]
      rw [e1]
      simp only [Nat.mul_one,Nat.add_zero] at h4
      exact .t _ _ h4
     rcases hsp with ⟨hv,rfl⟩|⟨a,c',news,hv,h1,h2,h3,h4⟩
     ·obtain⟨w',hst,hm'⟩:=fin [] rfl (by simp) (by simp)
      refine⟨_,_,g,goInt 0,w',.inl ?_,hK,.t _ _ (.int _ _),hm'⟩
      simp [execOp,ho,resolve,hc,invoke,builtin,Builtin.copy_,ht',hx',run_underlying hu,hρ,hv,Builtin.lenOf,Builtin.firstCells,sizeOf,typeInfo,hj,hs,hst]
     ·rw [Nat.mul_one] at h1
      obtain⟨w',hst,hm'⟩:=fin news h1 h3 h4
      have hl:=run_loadCells_list (P:=P) w a news h2
      rw [h1] at hl
      have hmin:Nat.min new.length n=new.length:=Nat.min_eq_left hle1
      refine⟨_,_,g,goInt new.length,w',.inl ?_,hK,.t _ _ (.int _ _),hm'⟩
      simp [execOp,ho,resolve,hc,invoke,builtin,Builtin.copy_,ht',hx',run_underlying hu,hρ,hv,Builtin.lenOf,Builtin.firstCells,sizeOf,typeInfo,hj,hs,hmin,hl,hst]
    ·exact hK.elim
  ·exact hK.elim

theorem Io {I:Nat→Nat→Option Value} {es new:List (List T)} {sz:Nat} (hes : ∀y∈es,y.length=sz) (hnew : ∀y∈new,y.length=sz) {xs news:List Value} (hxl:xs.length=es.length*sz) (hnl:news.length=new.length*sz)
  (hx : ∀i j,i<es.length→j<sz→RelT I ((es.getD i []).getD j .nilp) (xs.getD (i*sz+j) undef)) (hn : ∀i j,i<new.length→j<sz→RelT I ((new.getD i []).getD j .nilp) (news.getD (i*sz+j) undef)) :
  ∀i j,i<(es++new).length→j<sz→RelT I (((es++new).getD i []).getD j .nilp) ((xs++news).getD (i*sz+j) undef):=by
 intro i j hi hj
 rcases Nat.lt_or_ge i es.length with h|h
 ·have h1:(es++new).getD i []=es.getD i []:=by simp [List.getD_eq_getElem?_getD,List.getElem?_append_left h]
  have hlt:i*sz+j<xs.length:=by
   have:(i+1)*sz≤es.length*sz:=Nat.mul_le_mul_right _ h
   rw [Nat.add_mul] at this;omega
  have h2:(xs++news).getD (i*sz+j) undef=xs.getD (i*sz+j) undef:=by simp only [List.getD_eq_getElem?_getD,List.getElem?_append_left hlt]
  rw [h1,h2]
  exact hx i j h hj
 ·have h1:(es++new).getD i []=new.getD (i-es.length) []:=by simp [List.getD_eq_getElem?_getD,List.getElem?_append_right h]
  have hge:xs.length≤i*sz+j:=by
   have:es.length*sz≤i*sz:=Nat.mul_le_mul_right _ h
   omega
  have h2:(xs++news).getD (i*sz+j) undef=news.getD ((i-es.length)*sz+j) undef:=by
   simp only [List.getD_eq_getElem?_getD,List.getElem?_append_right hge]
   congr 2
   rw [hxl,Nat.sub_mul]
   have:es.length*sz≤i*sz:=Nat.mul_le_mul_right _ h
   omega
  rw [h1,h2]
  exact hn _ _ (by simp at hi;omega) hj

theorem Inv.newTok (h:Inv g S w) (cells:Array Value) (e:TypeId) (sz n cap q:Nat) (hcs:cells.size=cap*sz) (hnc:n≤cap) (hcm:cap≤maxLen) (τ':List (Option (Nat×TypeId×Nat×Nat))) (tk':List Nat)
  (hlen:τ'.length=tk'.length) (hq:τ'[q]?=some (some (w.heap.size,e,sz,cap))∧tk'[q]?=some n) (hold : ∀k,k≠q→τ'[k]?=g.τ[k]?∧tk'[k]?=S.toks[k]?)
  (hgrow : ∀m,S.toks[q]?=some m→m<n) :
  Mv g S w { g with I:=fun b o=>if b=w.heap.size then (if o<n*sz then cells[o]? else none) else g.I b o,τ:=τ' } { S with toks:=tk' } (w.drew.alloc (.cells cells e)):=by
 have hext:Ext g S.toks { g with I:=fun b o=>if b=w.heap.size then (if o<n*sz then cells[o]? else none) else g.I b o,τ:=τ' } tk':=by
  refine⟨fun b o c hc=>?_,fun _ _ h=>h,fun k m hm=>?_,rfl,rfl,fun b o c hc=>?_,fun _ _ _=>rfl⟩
  ·have:=h.Ilt hc
   simp only []
   rw [if_neg (by omega)]
   exact hc
  ·by_cases hk:k=q
   ·subst hk
    have:=hgrow m hm
    exact⟨n,hq.2,by omega,fun he=>by omega⟩
   ·exact⟨m,by rw [(hold k hk).2];exact hm,Nat.le_refl _,fun _=>(hold k hk).1⟩
  ·simp only [] at hc
   split at hc
   ·right;left;have:=h.lo;omega
   ·exact .inl hc
 have hlt : ∀{k:Nat},k<w.heap.size→(w.drew.alloc (.cells cells e)).heap[k]?=w.heap[k]?:=fun {k} hk=>B3 (w:=w.drew) (by simpa using hk)
 refine⟨⟨?_,h.len,h.nodup,?_,?_,h.bwr,hlen,?_,?_,?_,by have:=h.lo;simp;omega,fun i blk hi=>by have:=h.bold i blk hi;simp;omega,fun b o c hc=>hext.I _ _ _ (h.lay b o c hc),h.lszOf fun b hb _=>hlt hb⟩,hext,⟨rfl,rfl,rfl,by simp,fun k hk _=>hlt (Nat.lt_of_lt_of_le hk h.lo)⟩⟩
 ·intro b o c hc
  simp only [] at hc
  split at hc
  ·rename_i hb
   subst hb
   split at hc
   ·have:=World.cell?_alloc_new (w:=w.drew) cells e o
    exact this.trans hc
   ·cases hc
  ·rw [Dm (hlt (h.Ilt hc))]
   exact h.imm b o c hc
 ·intro i blk bx hi hbx
  exact (h.box i blk bx hi hbx).mono hext hi (hlt (h.bold i blk hi))
 ·intro i blk bx hi hbx hd o
  have:=h.bold i blk hi
  simp only []
  rw [if_neg (by omega)]
  exact h.sep i blk bx hi hbx hd o
 ·intro k m blk e' z' cap' ht hm
  by_cases hk:k=q
  ·subst hk
   simp only [] at ht hm
   rw [hq.1] at ht
   rw [hq.2] at hm
   simp only [Option.some.injEq,Prod.mk.injEq] at ht hm
   obtain⟨rfl,rfl,rfl,rfl⟩:=ht
   subst hm
   refine⟨.inr ⟨cells,heap_alloc_new w.drew _,hcs,hnc,hcm⟩,fun o ho=>?_,fun hmem=>?_,.inl h.lo,by simp⟩
   ·simp only [if_true]
    rw [if_neg (by omega)]
   ·obtain⟨i,hi⟩:=List.mem_iff_getElem?.1 hmem
    exact absurd (h.bold i _ hi) (Nat.lt_irrefl _)
  ·simp only [] at ht hm
   rw [(hold k hk).1] at ht
   rw [(hold k hk).2] at hm
   obtain⟨h1,h5,h6,h7,hblt⟩:=h.tok k m blk e' z' cap' ht hm
   refine⟨h1.imp id fun ⟨cur,a,r⟩=>⟨cur,by rw [hlt hblt];exact a,r⟩,fun o ho=>?_,h6,h7,by simp;omega⟩
   simp only []
   rw [if_neg (by omega)]
   exact h5 o ho
 ·intro k m ht hm
  by_cases hk:k=q
  ·subst hk
   simp only [] at ht
   rw [hq.1] at ht
   simp at ht
  ·simp only [] at ht hm
   rw [(hold k hk).1] at ht
   rw [(hold k hk).2] at hm
   exact h.tnil k m ht hm
 ·intro k l x y hx hy hxy
  simp only [] at hx hy
  have oldlt : ∀(k:Nat) (x:Nat×TypeId×Nat×Nat),k≠q→τ'[k]?=some (some x)→x.1<w.heap.size:=by
   intro k x hk hx
   have hkl:k<tk'.length:=by rw [←hlen];exact (List.getElem?_eq_some_iff.1 hx).1
   rw [(hold k hk).1] at hx
   have hm:S.toks[k]?=some tk'[k]:=by rw [←(hold k hk).2];simp [hkl]
   exact (h.tok k _ x.1 x.2.1 x.2.2.1 x.2.2.2 hx hm).2.2.2.2
  by_cases hk:k=q<;>by_cases hl:l=q
  ·rw [hk,hl]
  ·subst hk
   rw [hq.1] at hx
   simp at hx
   have:=oldlt l y hl hy
   rw [←hx] at hxy
   simp at hxy
   omega
  ·subst hl
   rw [hq.1] at hy
   simp at hy
   have:=oldlt k x hk hx
   rw [←hy] at hxy
   simp at hxy
   omega
  ·rw [(hold k hk).1] at hx
   rw [(hold l hl).1] at hy
   exact h.tdis k l x y hx hy hxy

theorem Inv.room (h:Inv g S w) (k n m blk cap sz:Nat) (e:TypeId) (hnm:n≤maxLen) (hτ:g.τ[k]?=some (some (blk,e,sz,cap))) (hn:S.toks[k]?=some n) (hroom:n+m≤cap) (cur:Array Value) (hcur:w.heap[blk]?=some (.cells cur e (0,0)))
  (news:List Value) (hl:news.length=m*sz) :
  Mv g S w { g with I:=fun b o=>if b=blk∧n*sz≤o∧o<(n+m)*sz then news[o-n*sz]? else g.I b o } { S with toks:=S.toks.set k (n+m) }
   (w.setRow blk (cur.toList.take (n*sz)++news++cur.toList.drop (n*sz+news.length)).toArray):=by
 obtain⟨tt,t5,t6,t7,t8⟩:=h.tok k n blk e sz cap hτ hn
 obtain⟨cur',t1,t2,t3,t4⟩:=tt.resolve_left (by omega)
 rw [hcur] at t1
 simp only [Option.some.injEq,Obj.cells.injEq,and_true] at t1
 obtain⟨rfl,_⟩:=t1
 have hkl:k<S.toks.length:=(List.getElem?_eq_some_iff.1 hn).1
 have hfit:n*sz+news.length≤cur.size:=by
  rw [hl,t2,←Nat.add_mul];exact Nat.mul_le_mul_right _ hroom
 have hmul:(n+m)*sz=n*sz+m*sz:=Nat.add_mul _ _ _
 have hext:Ext g S.toks { g with I:=fun b o=>if b=blk∧n*sz≤o∧o<(n+m)*sz then news[o-n*sz]? else g.I b o } (S.toks.set k (n+m)):=by
  refine⟨fun b o c hc=>?_,fun _ _ h=>h,fun i j hj=>?_,rfl,rfl,fun b o c hc=>?_,fun _ _ _=>rfl⟩
  ·simp only []
   rw [if_neg]
   ·exact hc
   ·rintro ⟨rfl,h1,_⟩
    rw [t5 o h1] at hc
    cases hc
  ·by_cases hik:i=k
   ·subst hik
    rw [hn] at hj
    cases hj
    exact⟨n+m,by simp [hkl],by omega,fun _=>rfl⟩
   ·exact⟨j,by rw [List.getElem?_set_ne (fun e=>hik e.symm)];exact hj,Nat.le_refl _,fun _=>rfl⟩
  ·simp only [] at hc
   split at hc
   ·rename_i hb
    rw [hb.1]
    rcases t7 with t7|t7
    ·exact .inr (.inl t7)
    ·exact .inr (.inr t7)
   ·exact .inl hc
 have hother : ∀{b:Nat},b≠blk→(w.setRow blk (cur.toList.take (n*sz)++news++cur.toList.drop (n*sz+news.length)).toArray).heap[b]?=w.heap[b]?:=fun {b} hb=>setRow_other w blk b _ hb
 have hnew:(w.setRow blk (cur.toList.take (n*sz)++news++cur.toList.drop (n*sz+news.length)).toArray).heap[blk]?=some (.cells (cur.toList.take (n*sz)++news++cur.toList.drop (n*sz+news.length)).toArray e (0,0)):=setRow_heap w blk cur _ e _ hcur
 have hget : ∀j,(cur.toList.take (n*sz)++news++cur.toList.drop (n*sz+news.length)).getD j undef=if n*sz≤j∧j<n*sz+news.length then news.getD (j-n*sz) undef else cur.toList.getD j undef:=
  fun j=>C0 cur.toList (n*sz) news undef (by simpa using hfit) j
 have hsz:(cur.toList.take (n*sz)++news++cur.toList.drop (n*sz+news.length)).length=cur.size:=by simp;omega
 refine⟨⟨?_,h.len,h.nodup,?_,?_,h.bwr,by simp [h.tlen],?_,?_,h.tdis,by have:=h.lo;simpa using this,fun i b hi=>by have:=h.bold i b hi;simpa using this,fun b o c hc=>hext.I _ _ _ (h.lay b o c hc),fun b c hc=>?lszc⟩,hext,⟨rfl,rfl,rfl,by simp,fun b h1 h2=>hother ?_⟩⟩
 case lszc=>
  obtain⟨cs,ty,fz,q1,q2⟩:=h.lsz b c hc
  by_cases hb:b=blk
  ·subst hb
   rw [hcur] at q1
   cases q1
   exact⟨_,_,_,hnew,by rw [←q2];simpa using hsz⟩
  ·exact⟨cs,ty,fz,(hother hb).trans q1,q2⟩
 ·intro b o c hc
  simp only [] at hc
  by_cases hb:b=blk
  ·subst hb
   have hc' : ∀d,(cur.toList.take (n*sz)++news++cur.toList.drop (n*sz+news.length)).getD o undef=d→o<cur.size→(w.setRow b (cur.toList.take (n*sz)++news++cur.toList.drop (n*sz+news.length)).toArray).cell? ⟨b,o,none⟩=some d:=by
    intro d hd ho
    rw [cell_of_row _ b o _ e _ hnew,List.getElem?_toArray,←hd,List.getD_eq_getElem?_getD]
    have:o<(cur.toList.take (n*sz)++news++cur.toList.drop (n*sz+news.length)).length:=by rw [hsz];exact ho
    rw [List.getElem?_eq_getElem this]
    rfl
   split at hc
   ·rename_i hr
    have hlt:o-n*sz<news.length:=by omega
    refine hc' c ?_ (by omega)
    rw [hget o,if_pos (by omega),List.getD_eq_getElem?_getD,hc]
    rfl
   ·rename_i hr
    have hold:=h.imm b o c hc
    rw [cell_of_row w b o cur e _ hcur] at hold
    have ho:o<cur.size:=(Array.getElem?_eq_some_iff.1 hold).1
    have hlt:o<n*sz:=by
     rcases Nat.lt_or_ge o (n*sz) with h1|h1
     ·exact h1
     ·rw [t5 o h1] at hc;cases hc
    refine hc' c ?_ ho
    rw [hget o,if_neg (by omega),List.getD_eq_getElem?_getD,Array.getElem?_toList,hold]
    rfl
  ·rw [if_neg (fun h=>hb h.1)] at hc
   rw [Dm (hother hb)]
   exact h.imm b o c hc
 ·intro i b bx hi hbx
  exact (h.box i b bx hi hbx).mono hext hi (hother (fun e=>t6 (e▸List.mem_of_getElem? hi)))
 ·intro i b bx hi hbx hd o
  simp only []
  rw [if_neg (fun (hh:b=blk∧n*sz≤o∧o<(n+m)*sz)=>t6 (hh.1▸List.mem_of_getElem? hi))]
  exact h.sep i b bx hi hbx hd o
 ·intro i j b e' z' cap' ht hj
  by_cases hik:i=k
  ·subst hik
   rw [hτ] at ht
   simp only [Option.some.injEq,Prod.mk.injEq] at ht
   obtain⟨rfl,rfl,rfl,rfl⟩:=ht
   simp [hkl] at hj
   subst hj
   refine⟨.inr ⟨_,hnew,by rw [List.size_toArray,hsz];exact t2,hroom,t4⟩,fun o ho=>?_,t6,t7,by simpa using t8⟩
   simp only []
   rw [if_neg (by omega)]
   exact t5 o (by omega)
  ·simp only [] at hj
   rw [List.getElem?_set_ne (fun e=>hik e.symm)] at hj
   obtain⟨h1,h5,h6,h7,h8⟩:=h.tok i j b e' z' cap' ht hj
   have hbb:b≠blk:=fun e=>hik (h.tdis i k _ _ ht hτ e)
   refine⟨h1.imp id fun ⟨cur,a,r⟩=>⟨cur,by rw [hother hbb];exact a,r⟩,fun o ho=>?_,h6,h7,by simpa using h8⟩
   simp only []
   rw [if_neg (fun (hh:b=blk∧n*sz≤o∧o<(n+m)*sz)=>hbb hh.1)]
   exact h5 o ho
 ·intro i j ht hj
  by_cases hik:i=k
  ·subst hik
   rw [hτ] at ht
   simp at ht
  ·simp only [] at hj
   rw [List.getElem?_set_ne (fun e=>hik e.symm)] at hj
   exact h.tnil i j ht hj
 ·intro e
  subst e
  rcases t7 with t7|t7
  ·omega
  ·exact h2 t7

end
end E
end Go.Proofs.YtmlpmdccfmmpoaaGreatDoor
end

/- The engine, part 9: append as an operation; slices of slices; equality. -/
section
set_option linter.unusedSimpArgs false
set_option linter.unusedVariables false
namespace Go.Proofs.YtmlpmdccfmmpoaaGreatDoor
namespace E
section
variable {P:Program} {o:Oper} {ρ:Operand→Value} {g:Gh} {S:St} {w:World} {K:V→St→Prop}

theorem C1 {c:Call} {t t2:TypeId} {x y:Operand} (ho:o.op=.call c) (hc:c.callee=.builtin .append) (ht:c.argTypes.toList=[t,t2]) (hx:c.args.toList=[x,y]) {v:Value} {w':World}
  (h:(Builtin.append_ #[t,t2] o.type #[ρ x,ρ y]).run P w=.ok v w'):(execOp ρ o).run P w=.ok (.value v) w':=by
 have ht':c.argTypes = #[t,t2]:=Array.toList_inj.1 (by simpa using ht)
 have hx':c.args = #[x,y]:=Array.toList_inj.1 (by simpa using hx)
 unfold execOp
 simp only [ho,resolve,hc,invoke,builtin,Sem.run_bind,Sem.run_pure,Result.andThen_ok,ht',hx',List.map_toArray,List.map_cons,List.map_nil,h]

theorem Ao {c:Call} {t:TypeId} {x y:Operand} (ho:o.op=.call c) (hc:c.callee=.builtin .append) (ht:c.argTypes.toList=[t,t]) (hx:c.args.toList=[x,y]) {v:Value} {w':World}
  (h:(Builtin.append_ #[t,t] o.type #[ρ x,ρ y]).run P w=.ok v w'):(execOp ρ o).run P w=.ok (.value v) w':=by
 have ht':c.argTypes = #[t,t]:=Array.toList_inj.1 (by simpa using ht)
 have hx':c.args = #[x,y]:=Array.toList_inj.1 (by simpa using hx)
 unfold execOp
 simp only [ho,resolve,hc,invoke,builtin,Sem.run_bind,Sem.run_pure,Result.andThen_ok,ht',hx',List.map_toArray,List.map_cons,List.map_nil,h]

theorem Kx {I:Nat→Nat→Option Value} {es:List (List T)} {sz b cap N:Nat} (hN:es.length=N) (hcap:es.length≤cap) (hcm:cap≤maxLen) (hes : ∀y∈es,y.length=sz) {xs:List Value} (hxl:xs.length=es.length*sz)
  (hI : ∀j,j<es.length*sz→I b j=xs[j]?) (hx : ∀i j,i<es.length→j<sz→RelT I ((es.getD i []).getD j .nilp) (xs.getD (i*sz+j) undef)) :
  RelT I (.sl es) (.slice (some ⟨b,0,none⟩) N cap):=by
 subst hN
 refine .sl es b 0 cap sz (fun i j=>xs.getD (i*sz+j) undef) (fun i hi=>hes _ (by simp [List.getD_eq_getElem?_getD,hi])) hcap hcm (fun i j hi hj=>?_) hx
 have hlt:i*sz+j<es.length*sz:=by
  have:(i+1)*sz≤es.length*sz:=Nat.mul_le_mul_right _ hi
  rw [Nat.add_mul] at this;omega
 rw [Nat.zero_add,hI _ hlt]
 have:i*sz+j<xs.length:=by omega
 simp [List.getD_eq_getElem?_getD,this]

theorem Wg {c:Call} {t e:TypeId} {j:TypeInfo} {z:Value} {x y:Operand} (ho:o.op=.call c) (hc:c.callee=.builtin .append) (ht:c.argTypes.toList=[t,t]) (hxy:c.args.toList=[x,y]) (hu:P.underlying t=some (.slice e))
    (hj:P.info? e=some j) (hz:j.zero=some z) (hsz:0<j.size) (hzs:z.cells.size=j.size) (hI:Inv g S w) {vs vx:V} (hvs:RelV g S.toks vs (ρ x)) (hvx:RelV g S.toks vx (ρ y)) (hK:T1 e j.size j.bytes vs vx S K):Ai P o ρ g S w K:=by
  unfold T1 at hK
  split at hK
  · exact hK.elim
  · rename_i new hsrc
    unfold Lk at hK
    obtain⟨hnew,hK⟩:=hK
    have hsrc':=Lo hsz hI hvx hsrc hnew
    have hml:maxLen=9223372036854775807:=by decide
    -- a new block: what it holds and what follows
    have mk : ∀(es:List (List T)) (xs:List Value) (b off cc old:Nat) (news:List Value) (q:Nat) (τ':List (Option (Nat×TypeId×Nat×Nat))) (tk':List Nat),
        (∀u∈es,u.length=j.size)→xs.length=es.length*j.size→(∀i k,i<es.length→k<j.size→RelT g.I ((es.getD i []).getD k .nilp) (xs.getD (i*j.size+k) undef))→
        news.length=new.length*j.size→(∀i k,i<new.length→k<j.size→RelT g.I ((new.getD i []).getD k .nilp) (news.getD (i*j.size+k) undef))→
        es.length+new.length≤maxLen→τ'.length=tk'.length→τ'[q]?=some (some (w.heap.size,e,j.size,grownCap w (es.length+new.length) old e))→tk'[q]?=some (es.length+new.length)→
        (∀k,k≠q→τ'[k]?=g.τ[k]?∧tk'[k]?=S.toks[k]?)→(∀m,S.toks[q]?=some m→m<es.length+new.length)→
        (execOp ρ o).run P w=.ok (.value (.slice (some ⟨w.heap.size,0,none⟩) (es.length+new.length) (grownCap w (es.length+new.length) old e)))
          (w.drew.alloc (.cells (xs.toArray++news.toArray++Builtin.zeroCells z.cells (grownCap w (es.length+new.length) old e-(es.length+new.length))) e))→
        K (.own q e j.size (es++new)) { S with toks:=tk' }→Ai P o ρ g S w K:=by
      intro es xs b off cc old news q τ' tk' hes hxl hx hnl hn hmax hlen hτq htq hold hlt hrun hKK
      have hge:=grownCap_ge w (es.length+new.length) old e
      have hle:=grownCap_le_maxLen w (es.length+new.length) old e hmax
      have hcells:(xs.toArray++news.toArray++Builtin.zeroCells z.cells (grownCap w (es.length+new.length) old e-(es.length+new.length))).size=grownCap w (es.length+new.length) old e*j.size:=by
        simp only [Array.size_append,List.size_toArray,size_zeroCells,hzs,hxl,hnl,←Nat.add_mul]
        congr 1
        omega
      have hm:=hI.newTok (xs.toArray++news.toArray++Builtin.zeroCells z.cells (grownCap w (es.length+new.length) old e-(es.length+new.length))) e j.size (es.length+new.length) _ q hcells hge hle τ' tk' hlen ⟨hτq,htq⟩ hold hlt
      have hel:(es++new).length=es.length+new.length:=by simp
      have hall : ∀u∈es++new,u.length=j.size:=fun u hu=>by
        rcases List.mem_append.1 hu with h|h
        · exact hes u h
        · exact hnew u h
      have htwo:=Io (I:=g.I) hes hnew hxl hnl hx hn
      refine⟨_,_,_,_,_,.inl hrun,hKK,?_,hm⟩
      refine .own q e j.size (es++new) _ (es.length+new.length) (Kx (xs:=xs++news) hel (by rw [hel];exact hge) hle hall (by rw [List.length_append,hxl,hnl,hel,Nat.add_mul]) (fun k hk=>?_) (fun i k hi hk=>(htwo i k hi hk).mono hm.ext.I)) hall htq (by rw [hel];exact Nat.le_refl _)
        (fun _=>.inr ⟨w.heap.size,_,hτq,by rw [hel]⟩)
      rw [hel] at hk
      show (if w.heap.size=w.heap.size then (if k<(es.length+new.length)*j.size then _ else _) else _)=_
      rw [if_pos rfl,if_pos hk]
      have h1:k<(xs++news).length:=by rw [List.length_append,hxl,hnl,←Nat.add_mul];exact hk
      have h2:xs.toArray++news.toArray=(xs++news).toArray:=by simp
      rw [h2,Array.getElem?_append_left (by simpa using h1)]
      simp
    cases vs with
    | snil=>
      simp only [] at hK
      obtain⟨⟨hm,hb⟩,hK⟩:=hK
      have hρ:ρ x=.slice none 0 0:=by generalize ρ x=u at hvs;cases hvs;rfl
      have hnilK:new=[]→(execOp ρ o).run P w=.ok (.value (.slice none 0 0)) w→Ai P o ρ g S w K:=by
        intro h0 hrun
        subst h0
        refine⟨_,_,{ g with τ:=g.τ++[none] },_,w,.inl hrun,hK,.own _ _ _ _ _ 0 .slnil (by simp) (by simp) (by simp) (fun _=>.inl ⟨by rw [←hI.tlen];simp,rfl,rfl⟩),?_⟩
        have hcase : ∀(k:Nat) (v:Option (Nat×TypeId×Nat×Nat)),(g.τ++[none])[k]?=some v→(g.τ[k]?=some v∧k<S.toks.length)∨(k=S.toks.length∧v=none):=by
          intro k v hk
          rcases Nat.lt_or_ge k g.τ.length with h|h
          · rw [List.getElem?_append_left h] at hk;exact .inl ⟨hk,by rw [←hI.tlen];exact h⟩
          · rw [List.getElem?_append_right h] at hk
            have hk0:k-g.τ.length=0:=by have:=(List.getElem?_eq_some_iff.1 hk).1;simp at this;omega
            rw [hk0] at hk
            simp at hk
            exact .inr ⟨by have:=hI.tlen;omega,hk.symm⟩
        have hext:Ext g S.toks { g with τ:=g.τ++[none] } (S.toks++[0]):=⟨fun _ _ _ h=>h,fun _ _ h=>h,fun k n hk=>by
          have hkl:=(List.getElem?_eq_some_iff.1 hk).1
          exact⟨n,by rw [List.getElem?_append_left hkl];exact hk,Nat.le_refl _,fun _=>by simp only [];rw [List.getElem?_append_left (by rw [hI.tlen];exact hkl)]⟩,rfl,rfl,fun _ _ _ h=>.inl h,fun _ _ _=>rfl⟩
        refine⟨⟨hI.imm,hI.len,hI.nodup,fun i blk bx h1 h2=>(hI.box i blk bx h1 h2).mono hext h1 rfl,hI.sep,hI.bwr,by simp [hI.tlen],?_,?_,?_,hI.lo,hI.bold,hI.lay,hI.lsz⟩,hext,Frm.refl _ _⟩
        · intro k n blk e' z' cap' hk hn
          rcases hcase k _ hk with ⟨h1,h2⟩|⟨_,h2⟩
          · simp only [] at hn;rw [List.getElem?_append_left h2] at hn
            exact hI.tok k n blk e' z' cap' h1 hn
          · cases h2
        · intro k n hk hn
          rcases hcase k _ hk with ⟨h1,h2⟩|⟨h1,_⟩
          · simp only [] at hn;rw [List.getElem?_append_left h2] at hn
            exact hI.tnil k n h1 hn
          · subst h1;simp at hn;exact hn.symm
        · intro k l a b hk hl hab
          rcases hcase k _ hk with ⟨h1,_⟩|⟨_,h2⟩
          · rcases hcase l _ hl with ⟨h3,_⟩|⟨_,h4⟩
            · exact hI.tdis k l a b h1 h3 hab
            · cases h4
          · cases h2
      rcases hsrc' with ⟨hy,hn0⟩|⟨sa,cc,news,hy,hnl,hcell,hrel,hone⟩
      · refine hnilK hn0 (Ao ho hc ht hxy ?_)
        rw [hρ,hy]
        exact run_append_owned_none (P:=P) w 0 t o.type e j j.size hu hj _ 0 [] (World.ownsRow_nil w 0 e j.size)
      · by_cases h0:new=[]
        · subst h0
          refine hnilK rfl (Ao ho hc ht hxy ?_)
          rw [hρ,hy]
          simp at hnl
          have hn0:news=[]:=List.eq_nil_of_length_eq_zero (by simpa using hnl)
          simp [Builtin.append_,run_underlying hu,sizeOf,typeInfo,hj,Builtin.lenOf,Builtin.firstCells,loadCells,loadCellsFrom]
        · have hpos:0<new.length:=List.length_pos_iff.2 h0
          have hr:=run_append_nil (P:=P) w t o.type e j z hu hj hz sa new.length cc news hnl hcell hpos (by omega) (by omega)
          refine mk [] [] 0 0 0 0 news S.toks.length (g.τ++[some (w.heap.size,e,j.size,grownCap w (([]:List (List T)).length+new.length) 0 e)]) (S.toks++[([]:List (List T)).length+new.length]) (by simp) (by simp) (fun i k hi=>by simp at hi) hnl hrel (by simpa using hm) (by simp [hI.tlen]) (by rw [←hI.tlen];simp) (by simp)
            (fun k hk=>⟨?_,?_⟩) (fun m hm'=>by simp at hm') ?_ (by simpa using hK)
          · rcases Nat.lt_or_ge k g.τ.length with h|h
            · rw [List.getElem?_append_left h]
            · rw [List.getElem?_eq_none (by simp;have:=hI.tlen;omega),List.getElem?_eq_none h]
          · rcases Nat.lt_or_ge k S.toks.length with h|h
            · rw [List.getElem?_append_left h]
            · rw [List.getElem?_eq_none (by simp;omega),List.getElem?_eq_none h]
          · refine Ao ho hc ht hxy ?_
            rw [hρ,hy]
            simpa using hr
    | full es=>
      simp only [] at hK
      by_cases hne:new=[]
      · rw [if_pos hne] at hK
        have hl0 : ∃a,ρ x=.slice a es.length es.length:=by generalize ρ x=u at hvs;cases hvs with|full _ a h=>exact⟨a,rfl⟩
        obtain⟨a,hρ⟩:=hl0
        have hrun:(Builtin.append_ #[t,t] o.type #[ρ x,ρ y]).run P w=.ok (ρ x) w:=by
          rcases hsrc' with ⟨hy,_⟩|⟨sa,cc,news,hy,hnl,hcell,hrel,hone⟩
          · rw [hρ,hy]
            cases a<;>simp [Builtin.append_,run_underlying hu,sizeOf,typeInfo,hj,Builtin.lenOf,Builtin.firstCells,storeCells]
          · subst hne
            rw [hρ,hy]
            cases a<;>simp [Builtin.append_,run_underlying hu,sizeOf,typeInfo,hj,Builtin.lenOf,Builtin.firstCells,storeCells,loadCells,loadCellsFrom]
        exact⟨_,_,g,_,w,.inl (Ao ho hc ht hxy hrun),hK,hvs,Mv.refl hI⟩
      rw [if_neg hne] at hK
      obtain⟨⟨hes,hm,hb⟩,hK⟩:=hK
      have hpos:0<new.length:=List.length_pos_iff.2 hne
      rcases hsrc' with ⟨hy,hn0⟩|⟨sa,cc,news,hy,hnl,hcell,hrel,hone⟩
      · exact absurd hn0 hne
      · have key : ∀ (xs : List Value), xs.length = es.length * j.size → (∀ i k, i < es.length → k < j.size → RelT g.I ((es.getD i []).getD k .nilp) (xs.getD (i * j.size + k) undef)) →
            (Builtin.append_ #[t,t] o.type #[ρ x,ρ y]).run P w=.ok (.slice (some ⟨w.heap.size,0,none⟩) (es.length+new.length) (grownCap w (es.length+new.length) es.length e))
              (w.drew.alloc (.cells (xs.toArray++news.toArray++Builtin.zeroCells z.cells (grownCap w (es.length+new.length) es.length e-(es.length+new.length))) e))→Ai P o ρ g S w K:=by
          intro xs hxl hx hr
          refine mk es xs 0 0 0 es.length news S.toks.length (g.τ++[some (w.heap.size,e,j.size,grownCap w (es.length+new.length) es.length e)]) (S.toks++[es.length+new.length]) hes hxl hx hnl hrel hm (by simp [hI.tlen]) (by rw [←hI.tlen];simp) (by simp)
            (fun k hk=>⟨?_,?_⟩) (fun m hm'=>by simp at hm') (Ao ho hc ht hxy hr) hK
          · rcases Nat.lt_or_ge k g.τ.length with h|h
            · rw [List.getElem?_append_left h]
            · rw [List.getElem?_eq_none (by simp;have:=hI.tlen;omega),List.getElem?_eq_none h]
          · rcases Nat.lt_or_ge k S.toks.length with h|h
            · rw [List.getElem?_append_left h]
            · rw [List.getElem?_eq_none (by simp;omega),List.getElem?_eq_none h]
        generalize hρ:ρ x=u at hvs
        cases hvs with
        | full _ a h=>
          cases h with
          | slnil=>
            have hr:=run_append_nil (P:=P) w t o.type e j z hu hj hz sa new.length cc news hnl hcell hpos (by simp at hm;omega) (by simp at hb;omega)
            exact key [] (by simp) (fun i k hi=>by simp at hi) (by rw [hρ,hy];simpa using hr)
          | slz a2 _ hm2=>
            have hr:=run_append_grow (P:=P) w t o.type e j z hu hj hz a2 0 0 [] (by simp) (by simp) sa new.length cc news hnl hcell (by omega) (by simp at hm ⊢;omega) (growslice_fits (by omega) (by simpa using hb))
            exact key [] (by simp) (fun i k hi=>by simp at hi) (by rw [hρ,hy];simpa using hr)
          | sl _ b2 off2 _ z2 c2 hz2 hc2 hm2 hI2 hr2=>
            have hz2' : ∀y∈es,y.length=j.size:=hes
            by_cases h0:es=[]
            · subst h0
              have hr:=run_append_grow (P:=P) w t o.type e j z hu hj hz ⟨b2,off2,none⟩ 0 0 [] (by simp) (by simp) sa new.length cc news hnl hcell (by omega) (by simp at hm ⊢;omega) (growslice_fits (by omega) (by simpa using hb))
              exact key [] (by simp) (fun i k hi=>by simp at hi) (by rw [hρ,hy];simpa using hr)
            · have hp:0<es.length:=List.length_pos_iff.2 h0
              have hzz:z2=j.size:=by
                rw [←hz2 0 hp];exact hes _ (by simp [List.getD_eq_getElem?_getD,hp])
              subst hzz
              obtain⟨xs,n1,n2,n3,n4⟩:=RelT.flat hes hI2 hr2
              have hr:=run_append_grow (P:=P) w t o.type e j z hu hj hz ⟨b2,off2,none⟩ es.length es.length xs n1 (fun k u hu=>by rw [Addr.add_lit];exact hI.imm _ _ _ (n2 k u hu)) sa new.length cc news hnl hcell (by omega) (by omega) (growslice_fits (by omega) hb)
              exact key xs n1 n3 (by rw [hρ,hy];exact hr)
    | own k e' z' es=>
      simp only [] at hK
      obtain⟨⟨rfl,rfl,hk,hm,hb⟩,hK⟩:=hK
      have hkl:k<S.toks.length:=(List.getElem?_eq_some_iff.1 hk).1
      generalize hρ:ρ x=u at hvs
      cases hvs with
      | own _ _ _ _ _ n hrel' hzz hn hle hg=>
      rw [hk] at hn
      cases hn
      have hset0:new=[]→S.toks.set k (es.length+new.length)=S.toks:=by
        intro h0;subst h0
        simp only [List.length_nil,Nat.add_zero]
        apply List.ext_getElem?
        intro i
        by_cases hik:i=k
        · subst hik;rw [List.getElem?_set_self hkl,hk]
        · rw [List.getElem?_set_ne (Ne.symm hik)]
      have hsame:new=[]→(execOp ρ o).run P w=.ok (.value u) w→Ai P o ρ g S w K:=by
        intro h0 hrun
        have h1:=hset0 h0
        subst h0
        rw [h1] at hK
        exact Ai.still hI hrun (.own k e' j.size (es++[]) u es.length (by simpa using hrel') (by simpa using hzz) hk (by simp) (by simpa using hg)) hK
      rcases hg rfl with ⟨g1,rfl,rfl⟩|⟨blk,cap,g1,rfl⟩
      · -- nil so far
        rcases hsrc' with ⟨hy,hn0⟩|⟨sa,cc,news,hy,hnl,hcell,hrel,hone⟩
        · refine hsame hn0 (Ao ho hc ht hxy ?_)
          rw [hρ,hy]
          exact run_append_owned_none (P:=P) w 0 t o.type e' j j.size hu hj _ 0 [] (World.ownsRow_nil w 0 e' j.size)
        · by_cases h0:new=[]
          · subst h0
            refine hsame rfl (Ao ho hc ht hxy ?_)
            rw [hρ,hy]
            have hn0:news=[]:=List.eq_nil_of_length_eq_zero (by simpa using hnl)
            simp [Builtin.append_,run_underlying hu,sizeOf,typeInfo,hj,Builtin.lenOf,Builtin.firstCells,loadCells,loadCellsFrom]
          · have hpos:0<new.length:=List.length_pos_iff.2 h0
            have hr:=run_append_nil (P:=P) w t o.type e' j z hu hj hz sa new.length cc news hnl hcell hpos (by simp at hm;omega) (by simp at hb;omega)
            refine mk [] [] 0 0 0 0 news k (g.τ.set k (some (w.heap.size,e',j.size,grownCap w (([]:List (List T)).length+new.length) 0 e'))) (S.toks.set k (([]:List (List T)).length+new.length)) (by simp) (by simp) (fun i k hi=>by simp at hi) hnl hrel (by simpa using hm) (by simp [hI.tlen])
              (by rw [List.getElem?_set_self (by rw [hI.tlen];exact hkl)]) (by rw [List.getElem?_set_self hkl]) (fun i hi=>⟨List.getElem?_set_ne (Ne.symm hi),List.getElem?_set_ne (Ne.symm hi)⟩) (fun m hm'=>by rw [hk] at hm';cases hm';simpa using hpos) ?_ (by simpa using hK)
            refine Ao ho hc ht hxy ?_
            rw [hρ,hy]
            simpa using hr
      · obtain⟨tt,t5,t6,t7,t8⟩:=hI.tok k es.length blk e' j.size cap g1 hk
        obtain⟨cur,t1,t2,t3,t4⟩:=tt.resolve_left (by omega)
        -- the cells that are there
        have hxs : ∃xs:List Value,xs.length=es.length*j.size∧(∀(q:Nat) (u:Value),xs[q]?=some u→w.cell? ((⟨blk,0,none⟩:Addr).add q)=some u)∧
            (∀i q,i<es.length→q<j.size→RelT g.I ((es.getD i []).getD q .nilp) (xs.getD (i*j.size+q) undef))∧(∀q,q<es.length*j.size→g.I blk q=xs[q]?):=by
          cases hrel' with
          | slz _ _ _=>exact⟨[],by simp,by simp,fun i q hi=>by simp at hi,fun q hq=>by simp at hq⟩
          | sl _ _ _ _ z2 c2 hz2 hc2 hm2 hI2 hr2=>
            by_cases h0:es=[]
            · subst h0;exact⟨[],by simp,by simp,fun i q hi=>by simp at hi,fun q hq=>by simp at hq⟩
            · have hp:0<es.length:=List.length_pos_iff.2 h0
              have hzz2:z2=j.size:=by
                rw [←hz2 0 hp];exact hzz _ (by simp [List.getD_eq_getElem?_getD,hp])
              subst hzz2
              obtain⟨xs,n1,n2,n3,n4⟩:=RelT.flat hzz hI2 hr2
              refine⟨xs,n1,fun q u hu=>by rw [Addr.add_lit];exact hI.imm _ _ _ (n2 q u hu),n3,fun q hq=>?_⟩
              have hql:q<xs.length:=by omega
              have:=n2 q xs[q] (by simp [hql])
              rw [Nat.zero_add] at this
              rw [this];simp [hql]
        obtain⟨xs,x1,x2,x3,x4⟩:=hxs
        rcases hsrc' with ⟨hy,hn0⟩|⟨sa,cc,news,hy,hnl,hcell,hrel,hone⟩
        · refine hsame hn0 (Ao ho hc ht hxy ?_)
          rw [hρ,hy]
          simp [Builtin.append_,run_underlying hu,sizeOf,typeInfo,hj,Builtin.lenOf,Builtin.firstCells,t3,storeCells]
        · by_cases hroom:es.length+new.length≤cap
          · have hfit:es.length*j.size+news.length≤cur.size:=by rw [hnl,t2,←Nat.add_mul];exact Nat.mul_le_mul_right _ hroom
            have hr:=run_append_room (P:=P) w t o.type e' j hu hj blk es.length cap cur t1 sa new.length cc news hnl hcell hone hroom hfit
            have hmv:=hI.room k es.length new.length blk cap j.size e' (by omega) g1 hk hroom cur t1 news hnl
            have hel:(es++new).length=es.length+new.length:=by simp
            have hall : ∀u∈es++new,u.length=j.size:=fun u hu=>by
              rcases List.mem_append.1 hu with h|h
              · exact hzz u h
              · exact hnew u h
            have htwo:=Io (I:=g.I) hzz hnew x1 hnl x3 hrel
            refine⟨_,_,_,_,_,.inl (Ao ho hc ht hxy (by rw [hρ,hy];exact hr)),hK,?_,hmv⟩
            refine .own k e' j.size (es++new) _ (es.length+new.length) (Kx (xs:=xs++news) hel (by rw [hel];exact hroom) t4 hall (by rw [List.length_append,x1,hnl,hel,Nat.add_mul]) (fun q hq=>?_) (fun i q hi hq=>(htwo i q hi hq).mono hmv.ext.I)) hall
              (List.getElem?_set_self hkl) (by rw [hel];exact Nat.le_refl _) (fun _=>.inr ⟨blk,cap,g1,by rw [hel]⟩)
            rw [hel] at hq
            show (if blk=blk∧es.length*j.size≤q∧q<(es.length+new.length)*j.size then news[q-es.length*j.size]? else g.I blk q)=_
            rcases Nat.lt_or_ge q (es.length*j.size) with h|h
            · rw [if_neg (by omega),x4 q h,List.getElem?_append_left (by omega)]
            · rw [if_pos ⟨rfl,h,hq⟩,List.getElem?_append_right (by omega),x1]
          · have hlt:cap<es.length+new.length:=by omega
            have hr:=run_append_grow (P:=P) w t o.type e' j z hu hj hz ⟨blk,0,none⟩ es.length cap xs x1 x2 sa new.length cc news hnl hcell hlt (by omega) (growslice_fits hlt hb)
            have hnpos:0<new.length:=by omega
            exact mk es xs 0 0 0 cap news k (g.τ.set k (some (w.heap.size,e',j.size,grownCap w (es.length+new.length) cap e'))) (S.toks.set k (es.length+new.length)) hzz x1 x3 hnl hrel hm (by simp [hI.tlen])
              (by rw [List.getElem?_set_self (by rw [hI.tlen];exact hkl)]) (by rw [List.getElem?_set_self hkl]) (fun i hi=>⟨List.getElem?_set_ne (Ne.symm hi),List.getElem?_set_ne (Ne.symm hi)⟩) (fun m hm'=>by rw [hk] at hm';cases hm';omega)
              (Ao ho hc ht hxy (by rw [hρ,hy];exact hr)) hK
    | _=>simp at hK


theorem Yl {g:Gh} {S:St} {sz:Nat} {bs:List UInt8} {v:Value} (hs1:sz=1) (hv:RelV g S.toks (.t (.str bs)) v) :
  ∃(sa:ByteArray) (news:List Value),v=.string sa∧news.length=(Ii bs).length*sz∧(sa.size=(Ii bs).length∧news=Lib.strCells sa)∧
   (∀i j,i<(Ii bs).length→j<sz→RelT g.I (((Ii bs).getD i []).getD j .nilp) (news.getD (i*sz+j) undef))∧True:=by
 subst hs1
 cases hv with
 | t _ _ h=>cases h with
 | str=>
  have hsz:(⟨bs.toArray⟩:ByteArray).size=bs.length:=by simp [ByteArray.size]
  refine⟨_,_,rfl,?_,⟨?_,rfl⟩,fun i j hi hj=>?_,trivial⟩
  ·rw [Lib.strCells_length,hsz];simp [Ii]
  ·rw [hsz];simp [Ii]
  ·have h0:j=0:=by omega
   subst h0
   have hi':i<bs.length:=by simpa [Ii] using hi
   have e1:((Ii bs).getD i []).getD 0 .nilp=.int .u8 (bs[i].toNat:Int):=by simp [Ii,List.getD_eq_getElem?_getD,hi']
   have e2:(Lib.strCells ⟨bs.toArray⟩).getD (i*1+0) undef=.int .u8 (bs[i].toNat:Int):=by simp [Lib.strCells,List.getD_eq_getElem?_getD,hi']
   rw [e1,e2]
   exact .int _ _
theorem Ji (w:World) (t t2 ty e:TypeId) (j:TypeInfo) (hu:P.underlying t=some (.slice e)) (hu2:P.underlying t2=some .string) (hj:P.info? e=some j) (hs1:j.size=1) (sa:ByteArray) (news:List Value)
  (hc:sa.size=0∧news=Lib.strCells sa) (a:Option Addr) (n c:Nat) (hn:n≤c):(Builtin.append_ #[t,t2] ty #[.slice a n c,.string sa]).run P w=.ok (.slice a n c) w:=by
 have hf:=Lib.run_firstCells_string (P:=P) w 1 sa
 have h0:Lib.strCells sa=[]:=List.eq_nil_of_length_eq_zero (by rw [Lib.strCells_length];exact hc.1)
 rw [hc.1,h0] at hf
 cases a<;>simp [Builtin.append_,run_underlying hu,run_underlying hu2,sizeOf,typeInfo,hj,hs1,Builtin.lenOf,hc.1,hn,hf,storeCells]
theorem Lp (w:World) (t t2 ty e:TypeId) (j:TypeInfo) (z:Value) (hu:P.underlying t=some (.slice e)) (hu2:P.underlying t2=some .string) (hj:P.info? e=some j) (hz:j.zero=some z) (hs1:j.size=1) (sa:ByteArray) (n:Nat) (news:List Value)
  (hc:sa.size=n∧news=Lib.strCells sa) (hpos:0<n) (h1:(n:Int)≤9223372036854775807) (h2:n*j.bytes≤281474976710656) :
  (Builtin.append_ #[t,t2] ty #[.slice none 0 0,.string sa]).run P w=.ok (.slice (some ⟨w.heap.size,0,none⟩) n (grownCap w n 0 e)) (w.drew.alloc (.cells (news.toArray++Builtin.zeroCells z.cells (grownCap w n 0 e-n)) e)):=by
 obtain⟨rfl,rfl⟩:=hc
 have hr:=run_append_nil_string (P:=P) w t t2 ty e j z hu hu2 hj hz sa hpos h1 h2
 have e1:(sa.data.map fun b=>Value.int .u8 b.toNat)=(Lib.strCells sa).toArray:=by
  apply Array.ext'
  simp [Lib.strCells]
 rw [e1] at hr
 exact hr
theorem Wh (w:World) (t t2 ty e:TypeId) (j:TypeInfo) (hu:P.underlying t=some (.slice e)) (hu2:P.underlying t2=some .string) (hj:P.info? e=some j) (hs1:j.size=1) (g sLen sCap:Nat) (cur:Array Value) (hg:w.heap[g]?=some (.cells cur e (0,0)))
  (sa:ByteArray) (n:Nat) (news:List Value) (hc:sa.size=n∧news=Lib.strCells sa) (hroom:sLen+n≤sCap) (hfit:sLen*j.size+news.length≤cur.size) :
  (Builtin.append_ #[t,t2] ty #[.slice (some ⟨g,0,none⟩) sLen sCap,.string sa]).run P w=.ok (.slice (some ⟨g,0,none⟩) (sLen+n) sCap) (w.setRow g (cur.toList.take (sLen*j.size)++news++cur.toList.drop (sLen*j.size+news.length)).toArray):=by
 obtain⟨rfl,rfl⟩:=hc
 have hr:=Lib.run_append_room_string (P:=P) w t t2 ty e j hu hu2 hj hs1 g sLen sCap cur hg sa hroom (by rw [hs1,Lib.strCells_length] at hfit;omega)
 rw [hs1,Nat.mul_one,Lib.strCells_length]
 exact hr
theorem H4 (w:World) (t t2 ty e:TypeId) (j:TypeInfo) (z:Value) (hu:P.underlying t=some (.slice e)) (hu2:P.underlying t2=some .string) (hj:P.info? e=some j) (hz:j.zero=some z) (hs1:j.size=1) (b:Addr) (sLen sCap:Nat) (olds:List Value)
  (hlo:olds.length=sLen*j.size) (holds : ∀q v,olds[q]?=some v→w.cell? (b.add q)=some v) (sa:ByteArray) (n:Nat) (news:List Value) (hc:sa.size=n∧news=Lib.strCells sa)
  (hg:sCap<sLen+n) (h63:((sLen+n:Nat):Int)≤9223372036854775807) (hfit:Builtin.nextslicecap (sLen+n) sCap*j.bytes≤281474976710656) :
  (Builtin.append_ #[t,t2] ty #[.slice (some b) sLen sCap,.string sa]).run P w=.ok (.slice (some ⟨w.heap.size,0,none⟩) (sLen+n) (grownCap w (sLen+n) sCap e))
    (w.drew.alloc (.cells (olds.toArray++news.toArray++Builtin.zeroCells z.cells (grownCap w (sLen+n) sCap e-(sLen+n))) e)):=by
 obtain⟨rfl,rfl⟩:=hc
 exact Lib.run_append_grow_string (P:=P) w t t2 ty e j z hu hu2 hj hz b sLen sCap olds hlo holds sa hg h63 hfit

theorem Tf {c:Call} {t tS e:TypeId} {j:TypeInfo} {z:Value} {x y:Operand} (ho:o.op=.call c) (hc:c.callee=.builtin .append) (ht:c.argTypes.toList=[t,tS]) (hxy:c.args.toList=[x,y]) (hu:P.underlying t=some (.slice e)) (hu2:P.underlying tS=some .string)
    (hj:P.info? e=some j) (hz:j.zero=some z) (hs1:j.size=1) (hb1:j.bytes=1) (hzs:z.cells.size=j.size) (hI:Inv g S w) {vs vx:V} (hvs:RelV g S.toks vs (ρ x)) (hvx:RelV g S.toks vx (ρ y)) (hK:Ll e vs vx S K):Ai P o ρ g S w K:=by
  have hsz:0<j.size:=by omega
  unfold Ll at hK
  split at hK
  · rename_i bs
    rw [show Lk e 1 1 vs (Ii bs) S K=Lk e j.size j.bytes vs (Ii bs) S K by rw [hs1,hb1]] at hK
    have hsrc':=Yl (g:=g) (S:=S) hs1 hvx
    generalize Ii bs=new at *
    unfold Lk at hK
    obtain⟨hnew,hK⟩:=hK
    have hml:maxLen=9223372036854775807:=by decide
    -- a new block: what it holds and what follows
    have mk : ∀(es:List (List T)) (xs:List Value) (b off cc old:Nat) (news:List Value) (q:Nat) (τ':List (Option (Nat×TypeId×Nat×Nat))) (tk':List Nat),
        (∀u∈es,u.length=j.size)→xs.length=es.length*j.size→(∀i k,i<es.length→k<j.size→RelT g.I ((es.getD i []).getD k .nilp) (xs.getD (i*j.size+k) undef))→
        news.length=new.length*j.size→(∀i k,i<new.length→k<j.size→RelT g.I ((new.getD i []).getD k .nilp) (news.getD (i*j.size+k) undef))→
        es.length+new.length≤maxLen→τ'.length=tk'.length→τ'[q]?=some (some (w.heap.size,e,j.size,grownCap w (es.length+new.length) old e))→tk'[q]?=some (es.length+new.length)→
        (∀k,k≠q→τ'[k]?=g.τ[k]?∧tk'[k]?=S.toks[k]?)→(∀m,S.toks[q]?=some m→m<es.length+new.length)→
        (execOp ρ o).run P w=.ok (.value (.slice (some ⟨w.heap.size,0,none⟩) (es.length+new.length) (grownCap w (es.length+new.length) old e)))
          (w.drew.alloc (.cells (xs.toArray++news.toArray++Builtin.zeroCells z.cells (grownCap w (es.length+new.length) old e-(es.length+new.length))) e))→
        K (.own q e j.size (es++new)) { S with toks:=tk' }→Ai P o ρ g S w K:=by
      intro es xs b off cc old news q τ' tk' hes hxl hx hnl hn hmax hlen hτq htq hold hlt hrun hKK
      have hge:=grownCap_ge w (es.length+new.length) old e
      have hle:=grownCap_le_maxLen w (es.length+new.length) old e hmax
      have hcells:(xs.toArray++news.toArray++Builtin.zeroCells z.cells (grownCap w (es.length+new.length) old e-(es.length+new.length))).size=grownCap w (es.length+new.length) old e*j.size:=by
        simp only [Array.size_append,List.size_toArray,size_zeroCells,hzs,hxl,hnl,←Nat.add_mul]
        congr 1
        omega
      have hm:=hI.newTok (xs.toArray++news.toArray++Builtin.zeroCells z.cells (grownCap w (es.length+new.length) old e-(es.length+new.length))) e j.size (es.length+new.length) _ q hcells hge hle τ' tk' hlen ⟨hτq,htq⟩ hold hlt
      have hel:(es++new).length=es.length+new.length:=by simp
      have hall : ∀u∈es++new,u.length=j.size:=fun u hu=>by
        rcases List.mem_append.1 hu with h|h
        · exact hes u h
        · exact hnew u h
      have htwo:=Io (I:=g.I) hes hnew hxl hnl hx hn
      refine⟨_,_,_,_,_,.inl hrun,hKK,?_,hm⟩
      refine .own q e j.size (es++new) _ (es.length+new.length) (Kx (xs:=xs++news) hel (by rw [hel];exact hge) hle hall (by rw [List.length_append,hxl,hnl,hel,Nat.add_mul]) (fun k hk=>?_) (fun i k hi hk=>(htwo i k hi hk).mono hm.ext.I)) hall htq (by rw [hel];exact Nat.le_refl _)
        (fun _=>.inr ⟨w.heap.size,_,hτq,by rw [hel]⟩)
      rw [hel] at hk
      show (if w.heap.size=w.heap.size then (if k<(es.length+new.length)*j.size then _ else _) else _)=_
      rw [if_pos rfl,if_pos hk]
      have h1:k<(xs++news).length:=by rw [List.length_append,hxl,hnl,←Nat.add_mul];exact hk
      have h2:xs.toArray++news.toArray=(xs++news).toArray:=by simp
      rw [h2,Array.getElem?_append_left (by simpa using h1)]
      simp
    cases vs with
    | snil=>
      simp only [] at hK
      obtain⟨⟨hm,hb⟩,hK⟩:=hK
      have hρ:ρ x=.slice none 0 0:=by generalize ρ x=u at hvs;cases hvs;rfl
      have hnilK:new=[]→(execOp ρ o).run P w=.ok (.value (.slice none 0 0)) w→Ai P o ρ g S w K:=by
        intro h0 hrun
        subst h0
        refine⟨_,_,{ g with τ:=g.τ++[none] },_,w,.inl hrun,hK,.own _ _ _ _ _ 0 .slnil (by simp) (by simp) (by simp) (fun _=>.inl ⟨by rw [←hI.tlen];simp,rfl,rfl⟩),?_⟩
        have hcase : ∀(k:Nat) (v:Option (Nat×TypeId×Nat×Nat)),(g.τ++[none])[k]?=some v→(g.τ[k]?=some v∧k<S.toks.length)∨(k=S.toks.length∧v=none):=by
          intro k v hk
          rcases Nat.lt_or_ge k g.τ.length with h|h
          · rw [List.getElem?_append_left h] at hk;exact .inl ⟨hk,by rw [←hI.tlen];exact h⟩
          · rw [List.getElem?_append_right h] at hk
            have hk0:k-g.τ.length=0:=by have:=(List.getElem?_eq_some_iff.1 hk).1;simp at this;omega
            rw [hk0] at hk
            simp at hk
            exact .inr ⟨by have:=hI.tlen;omega,hk.symm⟩
        have hext:Ext g S.toks { g with τ:=g.τ++[none] } (S.toks++[0]):=⟨fun _ _ _ h=>h,fun _ _ h=>h,fun k n hk=>by
          have hkl:=(List.getElem?_eq_some_iff.1 hk).1
          exact⟨n,by rw [List.getElem?_append_left hkl];exact hk,Nat.le_refl _,fun _=>by simp only [];rw [List.getElem?_append_left (by rw [hI.tlen];exact hkl)]⟩,rfl,rfl,fun _ _ _ h=>.inl h,fun _ _ _=>rfl⟩
        refine⟨⟨hI.imm,hI.len,hI.nodup,fun i blk bx h1 h2=>(hI.box i blk bx h1 h2).mono hext h1 rfl,hI.sep,hI.bwr,by simp [hI.tlen],?_,?_,?_,hI.lo,hI.bold,hI.lay,hI.lsz⟩,hext,Frm.refl _ _⟩
        · intro k n blk e' z' cap' hk hn
          rcases hcase k _ hk with ⟨h1,h2⟩|⟨_,h2⟩
          · simp only [] at hn;rw [List.getElem?_append_left h2] at hn
            exact hI.tok k n blk e' z' cap' h1 hn
          · cases h2
        · intro k n hk hn
          rcases hcase k _ hk with ⟨h1,h2⟩|⟨h1,_⟩
          · simp only [] at hn;rw [List.getElem?_append_left h2] at hn
            exact hI.tnil k n h1 hn
          · subst h1;simp at hn;exact hn.symm
        · intro k l a b hk hl hab
          rcases hcase k _ hk with ⟨h1,_⟩|⟨_,h2⟩
          · rcases hcase l _ hl with ⟨h3,_⟩|⟨_,h4⟩
            · exact hI.tdis k l a b h1 h3 hab
            · cases h4
          · cases h2
      obtain⟨sa,news,hy,hnl,hcell,hrel,hone⟩:=hsrc'
      · by_cases h0:new=[]
        · subst h0
          refine hnilK rfl (C1 ho hc ht hxy ?_)
          rw [hρ,hy]
          simp at hnl
          have hn0:news=[]:=List.eq_nil_of_length_eq_zero (by simpa using hnl)
          exact Ji (P:=P) w t tS o.type _ j hu hu2 hj hs1 sa news hcell none 0 0 (Nat.le_refl _)
        · have hpos:0<new.length:=List.length_pos_iff.2 h0
          have hr:=Lp (P:=P) w t tS o.type e j z hu hu2 hj hz hs1 sa new.length news hcell hpos (by omega) (by omega)
          refine mk [] [] 0 0 0 0 news S.toks.length (g.τ++[some (w.heap.size,e,j.size,grownCap w (([]:List (List T)).length+new.length) 0 e)]) (S.toks++[([]:List (List T)).length+new.length]) (by simp) (by simp) (fun i k hi=>by simp at hi) hnl hrel (by simpa using hm) (by simp [hI.tlen]) (by rw [←hI.tlen];simp) (by simp)
            (fun k hk=>⟨?_,?_⟩) (fun m hm'=>by simp at hm') ?_ (by simpa using hK)
          · rcases Nat.lt_or_ge k g.τ.length with h|h
            · rw [List.getElem?_append_left h]
            · rw [List.getElem?_eq_none (by simp;have:=hI.tlen;omega),List.getElem?_eq_none h]
          · rcases Nat.lt_or_ge k S.toks.length with h|h
            · rw [List.getElem?_append_left h]
            · rw [List.getElem?_eq_none (by simp;omega),List.getElem?_eq_none h]
          · refine C1 ho hc ht hxy ?_
            rw [hρ,hy]
            simpa using hr
    | full es=>
      simp only [] at hK
      by_cases hne:new=[]
      · rw [if_pos hne] at hK
        have hl0 : ∃a,ρ x=.slice a es.length es.length:=by generalize ρ x=u at hvs;cases hvs with|full _ a h=>exact⟨a,rfl⟩
        obtain⟨a,hρ⟩:=hl0
        have hrun:(Builtin.append_ #[t,tS] o.type #[ρ x,ρ y]).run P w=.ok (ρ x) w:=by
          obtain⟨sa,news,hy,hnl,hcell,hrel,hone⟩:=hsrc'
          · subst hne
            rw [hρ,hy]
            exact Ji (P:=P) w t tS o.type _ j hu hu2 hj hs1 sa news hcell _ _ _ (Nat.le_refl _)
        exact⟨_,_,g,_,w,.inl (C1 ho hc ht hxy hrun),hK,hvs,Mv.refl hI⟩
      rw [if_neg hne] at hK
      obtain⟨⟨hes,hm,hb⟩,hK⟩:=hK
      have hpos:0<new.length:=List.length_pos_iff.2 hne
      obtain⟨sa,news,hy,hnl,hcell,hrel,hone⟩:=hsrc'
      · have key : ∀ (xs : List Value), xs.length = es.length * j.size → (∀ i k, i < es.length → k < j.size → RelT g.I ((es.getD i []).getD k .nilp) (xs.getD (i * j.size + k) undef)) →
            (Builtin.append_ #[t,tS] o.type #[ρ x,ρ y]).run P w=.ok (.slice (some ⟨w.heap.size,0,none⟩) (es.length+new.length) (grownCap w (es.length+new.length) es.length e))
              (w.drew.alloc (.cells (xs.toArray++news.toArray++Builtin.zeroCells z.cells (grownCap w (es.length+new.length) es.length e-(es.length+new.length))) e))→Ai P o ρ g S w K:=by
          intro xs hxl hx hr
          refine mk es xs 0 0 0 es.length news S.toks.length (g.τ++[some (w.heap.size,e,j.size,grownCap w (es.length+new.length) es.length e)]) (S.toks++[es.length+new.length]) hes hxl hx hnl hrel hm (by simp [hI.tlen]) (by rw [←hI.tlen];simp) (by simp)
            (fun k hk=>⟨?_,?_⟩) (fun m hm'=>by simp at hm') (C1 ho hc ht hxy hr) hK
          · rcases Nat.lt_or_ge k g.τ.length with h|h
            · rw [List.getElem?_append_left h]
            · rw [List.getElem?_eq_none (by simp;have:=hI.tlen;omega),List.getElem?_eq_none h]
          · rcases Nat.lt_or_ge k S.toks.length with h|h
            · rw [List.getElem?_append_left h]
            · rw [List.getElem?_eq_none (by simp;omega),List.getElem?_eq_none h]
        generalize hρ:ρ x=u at hvs
        cases hvs with
        | full _ a h=>
          cases h with
          | slnil=>
            have hr:=Lp (P:=P) w t tS o.type e j z hu hu2 hj hz hs1 sa new.length news hcell hpos (by simp at hm;omega) (by simp at hb;omega)
            exact key [] (by simp) (fun i k hi=>by simp at hi) (by rw [hρ,hy];simpa using hr)
          | slz a2 _ hm2=>
            have hr:=H4 (P:=P) w t tS o.type e j z hu hu2 hj hz hs1 a2 0 0 [] (by simp) (by simp) sa new.length news hcell (by omega) (by simp at hm ⊢;omega) (growslice_fits (by omega) (by simpa using hb))
            exact key [] (by simp) (fun i k hi=>by simp at hi) (by rw [hρ,hy];simpa using hr)
          | sl _ b2 off2 _ z2 c2 hz2 hc2 hm2 hI2 hr2=>
            have hz2' : ∀y∈es,y.length=j.size:=hes
            by_cases h0:es=[]
            · subst h0
              have hr:=H4 (P:=P) w t tS o.type e j z hu hu2 hj hz hs1 ⟨b2,off2,none⟩ 0 0 [] (by simp) (by simp) sa new.length news hcell (by omega) (by simp at hm ⊢;omega) (growslice_fits (by omega) (by simpa using hb))
              exact key [] (by simp) (fun i k hi=>by simp at hi) (by rw [hρ,hy];simpa using hr)
            · have hp:0<es.length:=List.length_pos_iff.2 h0
              have hzz:z2=j.size:=by
                rw [←hz2 0 hp];exact hes _ (by simp [List.getD_eq_getElem?_getD,hp])
              subst hzz
              obtain⟨xs,n1,n2,n3,n4⟩:=RelT.flat hes hI2 hr2
              have hr:=H4 (P:=P) w t tS o.type e j z hu hu2 hj hz hs1 ⟨b2,off2,none⟩ es.length es.length xs n1 (fun k u hu=>by rw [Addr.add_lit];exact hI.imm _ _ _ (n2 k u hu)) sa new.length news hcell (by omega) (by omega) (growslice_fits (by omega) hb)
              exact key xs n1 n3 (by rw [hρ,hy];exact hr)
    | own k e' z' es=>
      simp only [] at hK
      obtain⟨⟨rfl,rfl,hk,hm,hb⟩,hK⟩:=hK
      have hkl:k<S.toks.length:=(List.getElem?_eq_some_iff.1 hk).1
      generalize hρ:ρ x=u at hvs
      cases hvs with
      | own _ _ _ _ _ n hrel' hzz hn hle hg=>
      rw [hk] at hn
      cases hn
      have hset0:new=[]→S.toks.set k (es.length+new.length)=S.toks:=by
        intro h0;subst h0
        simp only [List.length_nil,Nat.add_zero]
        apply List.ext_getElem?
        intro i
        by_cases hik:i=k
        · subst hik;rw [List.getElem?_set_self hkl,hk]
        · rw [List.getElem?_set_ne (Ne.symm hik)]
      have hsame:new=[]→(execOp ρ o).run P w=.ok (.value u) w→Ai P o ρ g S w K:=by
        intro h0 hrun
        have h1:=hset0 h0
        subst h0
        rw [h1] at hK
        exact Ai.still hI hrun (.own k e' j.size (es++[]) u es.length (by simpa using hrel') (by simpa using hzz) hk (by simp) (by simpa using hg)) hK
      rcases hg rfl with ⟨g1,rfl,rfl⟩|⟨blk,cap,g1,rfl⟩
      · -- nil so far
        obtain⟨sa,news,hy,hnl,hcell,hrel,hone⟩:=hsrc'
        · by_cases h0:new=[]
          · subst h0
            refine hsame rfl (C1 ho hc ht hxy ?_)
            rw [hρ,hy]
            have hn0:news=[]:=List.eq_nil_of_length_eq_zero (by simpa using hnl)
            exact Ji (P:=P) w t tS o.type _ j hu hu2 hj hs1 sa news hcell none 0 0 (Nat.le_refl _)
          · have hpos:0<new.length:=List.length_pos_iff.2 h0
            have hr:=Lp (P:=P) w t tS o.type e' j z hu hu2 hj hz hs1 sa new.length news hcell hpos (by simp at hm;omega) (by simp at hb;omega)
            refine mk [] [] 0 0 0 0 news k (g.τ.set k (some (w.heap.size,e',j.size,grownCap w (([]:List (List T)).length+new.length) 0 e'))) (S.toks.set k (([]:List (List T)).length+new.length)) (by simp) (by simp) (fun i k hi=>by simp at hi) hnl hrel (by simpa using hm) (by simp [hI.tlen])
              (by rw [List.getElem?_set_self (by rw [hI.tlen];exact hkl)]) (by rw [List.getElem?_set_self hkl]) (fun i hi=>⟨List.getElem?_set_ne (Ne.symm hi),List.getElem?_set_ne (Ne.symm hi)⟩) (fun m hm'=>by rw [hk] at hm';cases hm';simpa using hpos) ?_ (by simpa using hK)
            refine C1 ho hc ht hxy ?_
            rw [hρ,hy]
            simpa using hr
      · obtain⟨tt,t5,t6,t7,t8⟩:=hI.tok k es.length blk e' j.size cap g1 hk
        obtain⟨cur,t1,t2,t3,t4⟩:=tt.resolve_left (by omega)
        -- the cells that are there
        have hxs : ∃xs:List Value,xs.length=es.length*j.size∧(∀(q:Nat) (u:Value),xs[q]?=some u→w.cell? ((⟨blk,0,none⟩:Addr).add q)=some u)∧
            (∀i q,i<es.length→q<j.size→RelT g.I ((es.getD i []).getD q .nilp) (xs.getD (i*j.size+q) undef))∧(∀q,q<es.length*j.size→g.I blk q=xs[q]?):=by
          cases hrel' with
          | slz _ _ _=>exact⟨[],by simp,by simp,fun i q hi=>by simp at hi,fun q hq=>by simp at hq⟩
          | sl _ _ _ _ z2 c2 hz2 hc2 hm2 hI2 hr2=>
            by_cases h0:es=[]
            · subst h0;exact⟨[],by simp,by simp,fun i q hi=>by simp at hi,fun q hq=>by simp at hq⟩
            · have hp:0<es.length:=List.length_pos_iff.2 h0
              have hzz2:z2=j.size:=by
                rw [←hz2 0 hp];exact hzz _ (by simp [List.getD_eq_getElem?_getD,hp])
              subst hzz2
              obtain⟨xs,n1,n2,n3,n4⟩:=RelT.flat hzz hI2 hr2
              refine⟨xs,n1,fun q u hu=>by rw [Addr.add_lit];exact hI.imm _ _ _ (n2 q u hu),n3,fun q hq=>?_⟩
              have hql:q<xs.length:=by omega
              have:=n2 q xs[q] (by simp [hql])
              rw [Nat.zero_add] at this
              rw [this];simp [hql]
        obtain⟨xs,x1,x2,x3,x4⟩:=hxs
        obtain⟨sa,news,hy,hnl,hcell,hrel,hone⟩:=hsrc'
        · by_cases hroom:es.length+new.length≤cap
          · have hfit:es.length*j.size+news.length≤cur.size:=by rw [hnl,t2,←Nat.add_mul];exact Nat.mul_le_mul_right _ hroom
            have hr:=Wh (P:=P) w t tS o.type e' j hu hu2 hj hs1 blk es.length cap cur t1 sa new.length news hcell hroom hfit
            have hmv:=hI.room k es.length new.length blk cap j.size e' (by omega) g1 hk hroom cur t1 news hnl
            have hel:(es++new).length=es.length+new.length:=by simp
            have hall : ∀u∈es++new,u.length=j.size:=fun u hu=>by
              rcases List.mem_append.1 hu with h|h
              · exact hzz u h
              · exact hnew u h
            have htwo:=Io (I:=g.I) hzz hnew x1 hnl x3 hrel
            refine⟨_,_,_,_,_,.inl (C1 ho hc ht hxy (by rw [hρ,hy];exact hr)),hK,?_,hmv⟩
            refine .own k e' j.size (es++new) _ (es.length+new.length) (Kx (xs:=xs++news) hel (by rw [hel];exact hroom) t4 hall (by rw [List.length_append,x1,hnl,hel,Nat.add_mul]) (fun q hq=>?_) (fun i q hi hq=>(htwo i q hi hq).mono hmv.ext.I)) hall
              (List.getElem?_set_self hkl) (by rw [hel];exact Nat.le_refl _) (fun _=>.inr ⟨blk,cap,g1,by rw [hel]⟩)
            rw [hel] at hq
            show (if blk=blk∧es.length*j.size≤q∧q<(es.length+new.length)*j.size then news[q-es.length*j.size]? else g.I blk q)=_
            rcases Nat.lt_or_ge q (es.length*j.size) with h|h
            · rw [if_neg (by omega),x4 q h,List.getElem?_append_left (by omega)]
            · rw [if_pos ⟨rfl,h,hq⟩,List.getElem?_append_right (by omega),x1]
          · have hlt:cap<es.length+new.length:=by omega
            have hr:=H4 (P:=P) w t tS o.type e' j z hu hu2 hj hz hs1 ⟨blk,0,none⟩ es.length cap xs x1 x2 sa new.length news hcell hlt (by omega) (growslice_fits hlt hb)
            have hnpos:0<new.length:=by omega
            exact mk es xs 0 0 0 cap news k (g.τ.set k (some (w.heap.size,e',j.size,grownCap w (es.length+new.length) cap e'))) (S.toks.set k (es.length+new.length)) hzz x1 x3 hnl hrel hm (by simp [hI.tlen])
              (by rw [List.getElem?_set_self (by rw [hI.tlen];exact hkl)]) (by rw [List.getElem?_set_self hkl]) (fun i hi=>⟨List.getElem?_set_ne (Ne.symm hi),List.getElem?_set_ne (Ne.symm hi)⟩) (fun m hm'=>by rw [hk] at hm';cases hm';omega)
              (C1 ho hc ht hxy (by rw [hρ,hy];exact hr)) hK
    | _=>simp at hK
  · exact hK.elim

end
end E
end Go.Proofs.YtmlpmdccfmmpoaaGreatDoor
end

/- The engine, part 10: slices of arrays, strings and slices. -/
section
set_option linter.unusedSimpArgs false
set_option linter.unusedVariables false
namespace Go.Proofs.YtmlpmdccfmmpoaaGreatDoor
namespace E
section
variable {P:Program} {o:Oper} {ρ:Operand→Value} {g:Gh} {S:St} {w:World} {K:V→St→Prop}

theorem Hv (isS:Bool) (len cap:Nat) (lo hi:Option Operand) {vs:List V} (hv:E6 g S.toks ρ (lo.toList++hi.toList) vs) (l h:Int)
  (hl:loI lo.isSome vs 0=l) (hh:loI hi.isSome (vs.drop (if lo.isSome then 1 else 0)) len=h) (h0:0≤l) (h1:l≤h) (h2:h≤len) (h3:len≤cap) :
  (Instr.sliceBounds isS len cap (lo.map ρ) (hi.map ρ) none).run P w=.ok (l.toNat,h.toNat,cap) w:=by
 have bnd : ∀(x:Operand) (v:V) (n:Int) (c:BoundsCode) (y:Nat),RelV g S.toks v (ρ x)→(match v with | .t (.int _ m)=>m|_=>-1)=n→0≤n→n≤y→(Instr.sliceBound (ρ x) y c).run P w=.ok n.toNat w:=by
  intro x v n c y hr hm hn0 hny
  split at hm
  ·subst hm
   generalize ρ x=u at hr
   cases hr with
   | t _ _ hh=>cases hh with
   | int=>simp [Instr.sliceBound,asIntOf,hn0,hny]
  ·omega
 cases lo with
 | none=>
  simp [loI] at hl
  subst hl
  cases hi with
  | none=>
   simp [loI] at hh
   subst hh
   simp [Instr.sliceBounds]
  | some y=>
   have hy:=hv.2 0 y (by simp)
   simp [loI] at hh
   have e:vs.headD .und=vs.getD 0 .und:=by cases vs<;>rfl
   have:=bnd y (vs.getD 0 .und) h (if isS then .sliceAcap else .sliceAlen) cap hy (by rw [←hh,←e];cases vs<;>rfl) (by omega) (by omega)
   simp [Instr.sliceBounds,this]
 | some x=>
  have hx:=hv.2 0 x (by simp)
  simp [loI] at hl
  have e:vs.headD .und=vs.getD 0 .und:=by cases vs<;>rfl
  cases hi with
  | none=>
   simp [loI] at hh
   subst hh
   have:=bnd x (vs.getD 0 .und) l .sliceB len hx (by rw [←hl,←e];cases vs<;>rfl) h0 (by omega)
   simp [Instr.sliceBounds,this]
  | some y=>
   have hy:=hv.2 1 y (by simp)
   simp [loI] at hh
   have e2:(vs.drop 1).headD .und=vs.getD 1 .und:=by cases vs with|nil=>rfl|cons a vs=>cases vs<;>rfl
   have b1:=bnd y (vs.getD 1 .und) h (if isS then .sliceAcap else .sliceAlen) cap hy (by rw [←hh];cases vs with|nil=>rfl|cons a t=>cases t<;>rfl) (by omega) (by omega)
   have b2:=bnd x (vs.getD 0 .und) l .sliceB h.toNat hx (by rw [←hl,←e];cases vs<;>rfl) h0 (by omega)
   simp [Instr.sliceBounds,b1,b2]

theorem E6.tail {x:Operand} {xs:List Operand} {vs:List V} (h:E6 g S.toks ρ (x::xs) vs):E6 g S.toks ρ xs (vs.drop 1):=by
 refine⟨by have:=h.1;simp at this ⊢;omega,fun j y hy=>?_⟩
 have:=h.2 (j+1) y (by simpa using hy)
 simpa [List.getD_eq_getElem?_getD,Nat.add_comm] using this

theorem Wi {t e:TypeId} {len:Nat} {j:TypeInfo} {x:Operand} {lo hi:Option Operand} (ho:o.op=.slice t x lo hi none) (hu:P.underlying t=some (.array len e)) (hj:P.info? e=some j) (hI:Inv g S w) {vs:List V}
  (hv:E6 g S.toks ρ (x::(lo.toList++hi.toList)) vs) (hK:Af (.slA len j.size lo.isSome hi.isSome) vs S K):Ai P o ρ g S w K:=by
 simp only [Af] at hK
 have hx:=hv.2 0 x (by simp)
 split at hK
 ·rename_i b off hb
  rw [hb] at hx
  obtain⟨⟨h0,h1,h2,h3,h4⟩,hK⟩:=hK
  generalize hρ:ρ x=u at hx
  cases hx with
  | ptr _ _ blk hβ=>
  have hd:(vs.drop 1).drop (if lo.isSome=true then 1 else 0)=vs.drop (if lo.isSome=true then 2 else 1):=by
   cases lo.isSome<;>simp [List.drop_drop]
  have hb:=Hv (P:=P) (w:=w) false len len lo hi hv.tail _ _ rfl (by rw [hd]) h0 h1 h2 (Nat.le_refl _)
  generalize hl:loI lo.isSome (vs.drop 1) 0=l at *
  generalize hh:loI hi.isSome (vs.drop (if lo.isSome=true then 2 else 1)) len=h at *
  refine Ai.still hI (v:=.slice (some (if len=l.toNat then ⟨blk,off,none⟩ else ⟨blk,off+l.toNat*j.size,none⟩)) (h.toNat-l.toNat) (len-l.toNat)) ?_ ?_ hK
  ·simp only [execOp,ho,hρ,Instr.sliceAt,run_underlying hu,Instr.sureAddr,hb,At hj,Sem.run_bind,Sem.run_pure,Result.andThen_ok,Addr.add_lit,Option.map_none]
  ·have e1:(h-l).toNat=h.toNat-l.toNat:=by omega
   rw [e1]
   rw [if_neg (by omega)]
   exact .vw _ _ _ blk _ hβ (by omega) (by omega)
 ·exact hK.elim

theorem Wj {t:TypeId} {x:Operand} {lo hi:Option Operand} (ho:o.op=.slice t x lo hi none) (hu:P.underlying t=some .string) (hI:Inv g S w) {vs:List V}
  (hv:E6 g S.toks ρ (x::(lo.toList++hi.toList)) vs) (hK:Af (.slS lo.isSome hi.isSome) vs S K):Ai P o ρ g S w K:=by
 simp only [Af] at hK
 have hx:=hv.2 0 x (by simp)
 split at hK
 ·rename_i s hb
  rw [hb] at hx
  obtain⟨⟨h0,h1,h2⟩,hK⟩:=hK
  generalize hρ:ρ x=u at hx
  cases hx with
  | t _ _ hh=>cases hh with
  | str=>
  have hd:(vs.drop 1).drop (if lo.isSome=true then 1 else 0)=vs.drop (if lo.isSome=true then 2 else 1):=by
   cases lo.isSome<;>simp [List.drop_drop]
  have hb:=Hv (P:=P) (w:=w) false s.length s.length lo hi hv.tail _ _ rfl (by rw [hd]) h0 h1 h2 (Nat.le_refl _)
  generalize hl:loI lo.isSome (vs.drop 1) 0=l at *
  generalize hh:loI hi.isSome (vs.drop (if lo.isSome=true then 2 else 1)) s.length=h at *
  have hex:(⟨s.toArray⟩:ByteArray).extract l.toNat h.toNat=⟨((s.take h.toNat).drop l.toNat).toArray⟩:=by
   apply ByteArray.ext
   apply Array.ext'
   simp [List.drop_take]
  refine Ai.still hI (v:=.string ⟨((s.take h.toNat).drop l.toNat).toArray⟩) ?_ (.t _ _ (.str _)) hK
  simp only [execOp,ho,hρ,Instr.sliceAt,Instr.slice,run_underlying hu,Kw,hb,hex,Sem.run_bind,Sem.run_pure,Result.andThen_ok,Option.map_none,Option.isSome_none,Bool.false_eq_true,if_false]
 ·exact hK.elim

def iv:V→Int
 | .t (.int _ m)=>m
 | _=>-1
theorem A3m (l:List V) (d:Int):loI true l d=iv (l.headD .und):=by
 unfold loI
 rw [if_pos rfl]
 generalize l.headD .und=v
 cases v with
 | t x=>cases x<;>rfl
 | _=>rfl
theorem A3n (l:List V) (d:Int):loI false l d=d:=by simp [loI]

theorem Q6 (len cap:Nat) (lo hi mx:Option Operand) {vs:List V} (hv:E6 g S.toks ρ (lo.toList++(hi.toList++mx.toList)) (vs.drop 1)) (hok:W1 lo.isSome hi.isSome mx.isSome vs len) (h3:len≤cap) :
  ∃m:Nat,(loI hi.isSome (vs.drop (if lo.isSome then 2 else 1)) len).toNat≤m∧m≤cap∧(mx=none→m=cap)∧
   (Instr.sliceBounds true len cap (lo.map ρ) (hi.map ρ) (mx.map ρ)).run P w=.ok ((loI lo.isSome (vs.drop 1) 0).toNat,(loI hi.isSome (vs.drop (if lo.isSome then 2 else 1)) len).toNat,m) w:=by
 obtain⟨⟨h0,h1,h2⟩,hm⟩:=hok
 cases mx with
 | none=>
  have hd:(vs.drop 1).drop (if lo.isSome=true then 1 else 0)=vs.drop (if lo.isSome=true then 2 else 1):=by
   cases lo.isSome<;>simp [List.drop_drop]
  refine⟨cap,by omega,Nat.le_refl _,fun _=>rfl,?_⟩
  exact Hv (P:=P) (w:=w) true len cap lo hi (by simpa using hv) _ _ rfl (by rw [hd]) h0 h1 h2 h3
 | some z=>
  obtain⟨hhi,m1,m2⟩:=hm rfl
  cases hi with
  | none=>simp at hhi
  | some y=>
   have bnd : ∀(x:Operand) (v:V) (n:Int) (c:BoundsCode) (y:Nat),RelV g S.toks v (ρ x)→iv v=n→0≤n→n≤y→(Instr.sliceBound (ρ x) y c).run P w=.ok n.toNat w:=by
    intro x v n c y hr hm hn0 hny
    unfold iv at hm
    split at hm
    ·subst hm
     generalize ρ x=u at hr
     cases hr with
     | t _ _ hh=>cases hh with
     | int=>simp [Instr.sliceBound,asIntOf,hn0,hny]
    ·omega
   have hget : ∀k,(vs.drop k).headD .und=vs.getD k .und:=fun k=>by
    simp [List.getD_eq_getElem?_getD,List.headD_eq_head?_getD,List.head?_drop]
   cases lo with
   | none=>
    simp only [Option.isSome_none,Option.isSome_some,Bool.false_eq_true,if_false,A3m,A3n,hget] at h0 h1 h2 m1 m2 ⊢
    have hy:=hv.2 0 y (by simp)
    have hz:=hv.2 1 z (by simp)
    have ey:(vs.drop 1).getD 0 .und=vs.getD 1 .und:=by simp [List.getD_eq_getElem?_getD]
    have ez:(vs.drop 1).getD 1 .und=vs.getD 2 .und:=by simp [List.getD_eq_getElem?_getD]
    rw [ey] at hy
    rw [ez] at hz
    generalize hH:iv (vs.getD 1 .und)=H at *
    generalize hM:iv (vs.getD 2 .und)=M at *
    have b1:=bnd z _ M .slice3Acap cap hz hM (by omega) (by omega)
    have b2:=bnd y _ H .slice3B M.toNat hy hH (by omega) (by omega)
    refine⟨M.toNat,by omega,by omega,fun h=>by simp at h,?_⟩
    simp [Instr.sliceBounds,b1,b2]
   | some x=>
    simp only [Option.isSome_some,if_true,A3m,A3n,hget] at h0 h1 h2 m1 m2 ⊢
    have hx:=hv.2 0 x (by simp)
    have hy:=hv.2 1 y (by simp)
    have hz:=hv.2 2 z (by simp)
    have ex:(vs.drop 1).getD 0 .und=vs.getD 1 .und:=by simp [List.getD_eq_getElem?_getD]
    have ey:(vs.drop 1).getD 1 .und=vs.getD 2 .und:=by simp [List.getD_eq_getElem?_getD]
    have ez:(vs.drop 1).getD 2 .und=vs.getD 3 .und:=by simp [List.getD_eq_getElem?_getD]
    rw [ex] at hx
    rw [ey] at hy
    rw [ez] at hz
    generalize hL:iv (vs.getD 1 .und)=L at *
    generalize hH:iv (vs.getD 2 .und)=H at *
    generalize hM:iv (vs.getD 3 .und)=M at *
    have b1:=bnd z _ M .slice3Acap cap hz hM (by omega) (by omega)
    have b2:=bnd y _ H .slice3B M.toNat hy hH (by omega) (by omega)
    have b3:=bnd x _ L .slice3C H.toNat hx hL (by omega) (by omega)
    refine⟨M.toNat,by omega,by omega,fun h=>by simp at h,?_⟩
    simp [Instr.sliceBounds,b1,b2,b3]

theorem Wk {t e:TypeId} {j:TypeInfo} {x:Operand} {lo hi mx:Option Operand} (ho:o.op=.slice t x lo hi mx) (hu:P.underlying t=some (.slice e)) (hj:P.info? e=some j) (hI:Inv g S w) {vs:List V}
    (hv:E6 g S.toks ρ (x::(lo.toList++(hi.toList++mx.toList))) vs) (hK:Af (.slL j.size lo.isSome hi.isSome mx.isSome) vs S K):Ai P o ρ g S w K:=by
  simp only [Af] at hK
  have hx:=hv.2 0 x (by simp)
  -- what the operation gives at a slice
  have go : ∀(a:Option Addr) (len cap:Nat),ρ x=.slice a len cap→len≤cap→W1 lo.isSome hi.isSome mx.isSome vs len→
      ∃m:Nat,(loI hi.isSome (vs.drop (if lo.isSome then 2 else 1)) len).toNat≤m∧m≤cap∧(mx=none→m=cap)∧
      (execOp ρ o).run P w=.ok (.value (.slice (if m=(loI lo.isSome (vs.drop 1) 0).toNat then a else a.map (·.add ((loI lo.isSome (vs.drop 1) 0).toNat*j.size)))
        ((loI hi.isSome (vs.drop (if lo.isSome then 2 else 1)) len).toNat-(loI lo.isSome (vs.drop 1) 0).toNat) (m-(loI lo.isSome (vs.drop 1) 0).toNat))) w:=by
    intro a len cap hρ hlc hok
    obtain⟨m,m1,m2,m3,hb⟩:=Q6 (P:=P) (w:=w) len cap lo hi mx hv.tail hok hlc
    refine⟨m,m1,m2,m3,?_⟩
    simp only [execOp,ho,hρ,Instr.sliceAt,Instr.slice,run_underlying hu,hb,At hj,Sem.run_bind,Sem.run_pure,Result.andThen_ok]
  have empty : ∀(a:Option Addr) (c:Nat),a.all (·.spot.isNone)=true→(a=none→c=0)→c≤maxLen→RelV g S.toks (.t (.sl [])) (.slice a 0 c):=by
    intro a c ha hn hc
    cases a with
    | none=>rw [hn rfl];exact .t _ _ .slnil
    | some a=>
      obtain⟨b,o,s⟩:=a
      simp at ha
      subst ha
      exact .t _ _ (.sl [] b o c j.size (fun _ _=>undef) (by simp) (by simp) hc (by simp) (by simp))
  unfold W2 at hK
  split at hK
  · rename_i b n hb
    rw [hb] at hx
    obtain⟨hok,hK⟩:=hK
    obtain⟨u,hρ⟩ : ∃u,ρ x=u:=⟨_,rfl⟩
    rw [hρ] at hx
    cases hx with
    | bw _ _ blk cap hβ hc hk hm=>
    obtain⟨m,m1,m2,m3,hrun⟩:=go _ _ _ hρ hc hok
    refine Ai.still hI hrun ?_ hK
    obtain⟨⟨h0,h1,h2⟩,h4⟩:=hok
    unfold A45
    generalize hl:loI lo.isSome (vs.drop 1) 0=l at *
    generalize hh:loI hi.isSome (vs.drop (if lo.isSome=true then 2 else 1)) n=h at *
    by_cases hcase:lo.isSome=false∧mx.isSome=false
    · rw [if_pos hcase]
      have hl0:l=0:=by rw [←hl,hcase.1];rfl
      subst hl0
      have hmm:=m3 (by simpa using hcase.2)
      subst hmm
      simp only [Int.toNat_zero,Nat.zero_mul,Nat.sub_zero,Option.map_some,Addr.add_lit,Nat.add_zero,ite_self]
      exact .bw b _ blk m hβ m1 hk hm
    · rw [if_neg hcase]
      split
      · have hml:m≠l.toNat:=by omega
        rw [if_neg hml]
        simp only [Option.map_some,Addr.add_lit,Nat.zero_add]
        rw [show (h-l).toNat=h.toNat-l.toNat from by omega]
        exact .vw b _ _ blk _ hβ (by omega) (by omega)
      · have he:h.toNat-l.toNat=0:=by omega
        rw [he]
        refine empty _ _ ?_ ?_ (by omega)
        · split<;>simp [Addr.add_lit]
        · split<;>simp
  · rename_i b off n hb
    rw [hb] at hx
    obtain⟨hok,hK⟩:=hK
    obtain⟨u,hρ⟩ : ∃u,ρ x=u:=⟨_,rfl⟩
    rw [hρ] at hx
    cases hx with
    | vw _ _ _ blk cap hβ hc hm=>
    obtain⟨m,m1,m2,m3,hrun⟩:=go _ _ _ hρ hc hok
    refine Ai.still hI hrun ?_ hK
    obtain⟨⟨h0,h1,h2⟩,h4⟩:=hok
    unfold A46
    generalize hl:loI lo.isSome (vs.drop 1) 0=l at *
    generalize hh:loI hi.isSome (vs.drop (if lo.isSome=true then 2 else 1)) n=h at *
    split
    · have hml:m≠l.toNat:=by omega
      rw [if_neg hml]
      simp only [Option.map_some,Addr.add_lit]
      rw [show (h-l).toNat=h.toNat-l.toNat from by omega]
      exact .vw b _ _ blk _ hβ (by omega) (by omega)
    · have he:h.toNat-l.toNat=0:=by omega
      rw [he]
      refine empty _ _ ?_ ?_ (by omega)
      · split<;>simp [Addr.add_lit]
      · split<;>simp
  · split at hK
    · rename_i es hes
      obtain⟨⟨hok,hsz⟩,hK⟩:=hK
      have hrel:=Gn hx hes
      obtain⟨u,hρ⟩ : ∃u,ρ x=u:=⟨_,rfl⟩
      rw [hρ] at hrel
      have hok':=hok
      obtain⟨⟨h0,h1,h2⟩,h4⟩:=hok'
      cases hrel with
      | slnil=>
        obtain⟨m,m1,m2,m3,hrun⟩:=go _ _ _ hρ (Nat.le_refl _) hok
        refine Ai.still hI hrun ?_ hK
        have hm0:m=0:=by omega
        have hh0:(loI hi.isSome (vs.drop (if lo.isSome=true then 2 else 1)) ((0:Nat):Int)).toNat=0:=by
          simp only [List.length_nil] at h2
          have:((([]:List (List T)).length:Nat):Int)=0:=rfl
          omega
        have hl0:(loI lo.isSome (vs.drop 1) 0).toNat=0:=by
          have:((([]:List (List T)).length:Nat):Int)=0:=rfl
          omega
        subst hm0
        simp only [List.take_nil,List.drop_nil,hl0,Nat.zero_sub,if_true]
        rw [hh0]
        exact empty _ _ rfl (fun _=>rfl) (by simp [maxLen])
      | slz a cap hm=>
        obtain⟨m,m1,m2,m3,hrun⟩:=go _ _ _ hρ (Nat.zero_le _) hok
        refine Ai.still hI hrun ?_ hK
        have hh0:(loI hi.isSome (vs.drop (if lo.isSome=true then 2 else 1)) ((0:Nat):Int)).toNat=0:=by
          simp only [List.length_nil] at h2
          have:((([]:List (List T)).length:Nat):Int)=0:=rfl
          omega
        have hl0:(loI lo.isSome (vs.drop 1) 0).toNat=0:=by
          have:((([]:List (List T)).length:Nat):Int)=0:=rfl
          omega
        simp only [List.take_nil,List.drop_nil,hl0,Nat.zero_sub,Option.map_some]
        rw [hh0]
        split<;>exact .t _ _ (.slz _ _ (by omega))
      | sl _ b off cap z c hz hc hm hcell hr=>
        obtain⟨m,m1,m2,m3,hrun⟩:=go _ _ _ hρ hc hok
        refine Ai.still hI hrun ?_ hK
        generalize hl:loI lo.isSome (vs.drop 1) 0=l at *
        generalize hh:loI hi.isSome (vs.drop (if lo.isSome=true then 2 else 1)) es.length=h at *
        have hlen:((es.take h.toNat).drop l.toNat).length=h.toNat-l.toNat:=by simp;omega
        by_cases hnil:(es.take h.toNat).drop l.toNat=[]
        · have he:h.toNat-l.toNat=0:=by rw [←hlen,hnil];rfl
          rw [hnil,he]
          refine empty _ _ ?_ ?_ (by omega)
          · split<;>simp [Addr.add_lit]
          · split<;>simp
        · have hpos:0<((es.take h.toNat).drop l.toNat).length:=List.length_pos_iff.2 hnil
          have hml:m≠l.toNat:=by omega
          rw [if_neg hml]
          have hzz:z=j.size:=by
            rw [←hz 0 (by omega)]
            exact hsz _ (by have : 0 < es.length := by omega
                            simp [List.getD_eq_getElem?_getD,this])
          subst hzz
          have hget : ∀i,i<h.toNat-l.toNat→((es.take h.toNat).drop l.toNat).getD i []=es.getD (l.toNat+i) []:=by
            intro i hi
            simp only [List.getD_eq_getElem?_getD,List.getElem?_drop,List.getElem?_take]
            rw [if_pos (by omega)]
          simp only [Option.map_some,Addr.add_lit]
          rw [←hlen]
          refine .t _ _ (.sl _ b (off+l.toNat*j.size) (m-l.toNat) j.size (fun i q=>c (l.toNat+i) q) (fun i hi=>?_) (by omega) (by omega) (fun i q hi hq=>?_) (fun i q hi hq=>?_))
          · rw [hget i (by omega)];exact hz _ (by omega)
          · have:=hcell (l.toNat+i) q (by omega) hq
            rw [←this]
            congr 1
            rw [Nat.add_mul];omega
          · rw [hget i (by omega)];exact hr _ q (by omega) hq
    · exact hK.elim

end
end E
end Go.Proofs.YtmlpmdccfmmpoaaGreatDoor
end

/- The engine, part 11: equality of bools, structs and arrays. -/
section
set_option linter.unusedSimpArgs false
set_option linter.unusedVariables false
namespace Go.Proofs.YtmlpmdccfmmpoaaGreatDoor
namespace E
section
variable {P:Program} {o:Oper} {ρ:Operand→Value} {g:Gh} {S:St} {w:World} {K:V→St→Prop}

def mkv (a:Bool) (cs:Array Value):Value:=if a then .agg cs else cs.getD 0 undef

def C9 (I:Nat→Nat→Option Value) (cs:Array Value) (xs:List T):Prop:=cs.size=xs.length∧∀j,j<xs.length→RelT I (xs.getD j .nilp) (cs.getD j undef)

theorem Fw : ∀{ks:List Nat} {xs ys:List T} {r:Bool},eqC ks xs ys=some r→xs.length=ks.length∧ys.length=ks.length
 | [],xs,ys,r,h=>by cases xs<;>cases ys<;>simp_all [eqC]
 | k::ks,xs,ys,r,h=>by
  have ih:=fun (xs ys:List T) (r:Bool) (h:eqC ks xs ys=some r)=>Fw h
  cases xs with
  | nil=>simp [eqC] at h
  | cons x xs=>
  cases ys with
  | nil=>unfold eqC at h;split at h<;>simp_all
  | cons y ys=>
   have key : ∀q,eqC ks xs ys=some q→(x::xs).length=(k::ks).length∧(y::ys).length=(k::ks).length:=fun q hq=>by
    have:=ih xs ys q hq
    simp [this.1,this.2]
   cases hq:eqC ks xs ys with
   | some q=>exact key q hq
   | none=>
    exfalso
    unfold eqC at h
    split at h<;>simp_all

theorem F2 {k:Nat} {xs ys:List T} {r:Bool} (h:eqC [k] xs ys=some r) :
  (∃a b,k=0∧xs=[.bool a]∧ys=[.bool b]∧r=(a==b))∨(∃q a b,k=1∧xs=[.int q a]∧ys=[.int q b]∧r=(a==b))∨(∃a b,k=2∧xs=[.str a]∧ys=[.str b]∧r=(a==b)):=by
 obtain⟨e1,e2⟩:=Fw h
 match xs,ys,e1,e2 with
 | [x],[y],_,_=>
  match k,h with
  | 0,h=>cases x<;>cases y<;>simp [eqC] at h;exact .inl ⟨_,_,rfl,rfl,rfl,h.symm⟩
  | 1,h=>cases x<;>cases y<;>simp [eqC] at h;exact .inr (.inl ⟨_,_,_,rfl,rfl,by rw [h.1],h.2.symm⟩)
  | 2,h=>cases x<;>cases y<;>simp [eqC] at h;exact .inr (.inr ⟨_,_,rfl,rfl,rfl,h.symm⟩)
  | k+3,h=>cases x<;>cases y<;>simp [eqC] at h

theorem Ky : ∀(k1:List Nat) {k2:List Nat} {xs ys:List T} {r:Bool},eqC (k1++k2) xs ys=some r→
  ∃r1 r2,eqC k1 (xs.take k1.length) (ys.take k1.length)=some r1∧eqC k2 (xs.drop k1.length) (ys.drop k1.length)=some r2∧r=(r1&&r2)
 | [],k2,xs,ys,r,h=>⟨true,r,by simp [eqC],by simpa using h,by simp⟩
 | k::k1,k2,xs,ys,r,h=>by
  have ih:=fun (xs ys:List T) (r:Bool) (h:eqC (k1++k2) xs ys=some r)=>Ky k1 h
  cases xs with
  | nil=>simp [eqC] at h
  | cons x xs=>
  cases ys with
  | nil=>simp only [List.cons_append] at h;unfold eqC at h;split at h<;>simp_all
  | cons y ys=>
   simp only [List.cons_append] at h
   unfold eqC at h
   split at h<;>try (cases h;done)
   ·simp_all
   ·rename_i ks a xs' b ys' e1 e2 e3
    simp only [List.cons.injEq] at e1 e2 e3
    obtain⟨rfl,rfl⟩:=e1
    obtain⟨rfl,rfl⟩:=e2
    obtain⟨rfl,rfl⟩:=e3
    cases hq:eqC (k1++k2) xs ys with
    | none=>simp [hq] at h
    | some q=>
     simp [hq] at h
     obtain⟨r1,r2,h1,h2,h3⟩:=ih xs ys q hq
     exact⟨(a==b)&&r1,r2,by simp [eqC,h1],by simpa using h2,by rw [←h,h3,Bool.and_assoc]⟩
   ·rename_i ks ka a xs' kb b ys' e1 e2 e3
    simp only [List.cons.injEq] at e1 e2 e3
    obtain⟨rfl,rfl⟩:=e1
    obtain⟨rfl,rfl⟩:=e2
    obtain⟨rfl,rfl⟩:=e3
    split at h
    ·rename_i hk
     cases hq:eqC (k1++k2) xs ys with
     | none=>simp [hq] at h
     | some q=>
      simp [hq] at h
      obtain⟨r1,r2,h1,h2,h3⟩:=ih xs ys q hq
      exact⟨(a==b)&&r1,r2,by simp [eqC,h1,hk],by simpa using h2,by rw [←h,h3,Bool.and_assoc]⟩
    ·cases h
   ·rename_i ks a xs' b ys' e1 e2 e3
    simp only [List.cons.injEq] at e1 e2 e3
    obtain⟨rfl,rfl⟩:=e1
    obtain⟨rfl,rfl⟩:=e2
    obtain⟨rfl,rfl⟩:=e3
    cases hq:eqC (k1++k2) xs ys with
    | none=>simp [hq] at h
    | some q=>
     simp [hq] at h
     obtain⟨r1,r2,h1,h2,h3⟩:=ih xs ys q hq
     exact⟨(a==b)&&r1,r2,by simp [eqC,h1],by simpa using h2,by rw [←h,h3,Bool.and_assoc]⟩

theorem C9.part {I:Nat→Nat→Option Value} {cs:Array Value} {xs:List T} (h:C9 I cs xs) (off n:Nat) (hle:off+n≤xs.length) :
  C9 I ((List.range n).map fun j=>cs.getD (off+j) undef).toArray ((xs.drop off).take n):=by
 refine⟨by simp;omega,fun j hj=>?_⟩
 have hjn:j<n:=by simp at hj;omega
 have:=h.2 (off+j) (by omega)
 simpa [List.getD_eq_getElem?_getD,List.getElem?_take,List.getElem?_drop,hjn] using this

theorem Ci {t:TypeId} {n:Nat} {a:Bool} (hs:shapeOf P t=some (n,a)) (vs:Array Value) (off:Nat) (h:off+n≤vs.size) :
  (part t vs off).run P w=.ok (mkv a ((List.range n).map fun j=>vs.getD (off+j) undef).toArray) w:=by
 rw [Lm hs vs off h]
 obtain⟨i,d,hi,hd,rfl,rfl,hor⟩:=Ax hs
 cases ha:aggD d
 ·rw [ha] at hor
  have h1:i.size=1:=by simpa using hor
  simp [mkv,h1]
 ·simp [mkv]

theorem C9.one {I:Nat→Nat→Option Value} {cs:Array Value} {x:T} (h:C9 I cs [x]):RelT I x (cs.getD 0 undef):=by simpa using h.2 0 (by simp)

theorem Q7 (D:Nat) (rec:TypeId→Option (List Nat))
  (ih : ∀(t:TypeId) (ks:List Nat),rec t=some ks→∀(a:Bool),(P.underlying t).map aggD=some a→∀(c1 c2:Array Value) (xs ys:List T) (r:Bool),C9 g.I c1 xs→C9 g.I c2 ys→eqC ks xs ys=some r→(Op.equalIn D t (mkv a c1) (mkv a c2)).run P w=.ok r w)
  (c1 c2:Array Value) (xs ys:List T) (h1:C9 g.I c1 xs) (h2:C9 g.I c2 ys) : ∀(fs:List Field) (off:Nat) (ks:List Nat) (r:Bool),off≤xs.length∧off≤ys.length→eqFs P rec fs off=some ks→eqC ks (xs.drop off) (ys.drop off)=some r→(Op.eqFields D c1 c2 fs).run P w=.ok r w
 | [],off,ks,r,_,h,hr=>by
  simp [eqFs] at h
  subst h
  cases hx:xs.drop off<;>cases hy:ys.drop off<;>simp [hx,hy,eqC] at hr
  subst hr
  simp [Op.eqFields]
 | f::fs,off,ks,r,ho,h,hr=>by
  simp only [eqFs] at h
  split at h
  ·rename_i k1 n a' hk hs
   split at h
   ·rename_i hc
    obtain⟨c1',c2',c3⟩:=hc
    cases hq:eqFs P rec fs (off+n) with
    | none=>simp [hq] at h
    | some k2=>
     simp [hq] at h
     subst h
     obtain⟨r1,r2,e1,e2,rfl⟩:=Ky k1 hr
     obtain⟨i,d,hi,hd,hn,ha,hor⟩:=Ax hs
     have hl:=Fw e1
     have hlx:off+n≤xs.length∧off+n≤ys.length:=by
      obtain⟨a1,a2⟩:=hl
      rw [c3] at a1 a2
      simp at a1 a2
      omega
     have p1:=Ci (P:=P) (w:=w) hs c1 off (by rw [h1.1];exact hlx.1)
     have p2:=Ci (P:=P) (w:=w) hs c2 off (by rw [h2.1];exact hlx.2)
     rw [c3] at e1 e2
     have hih:=ih f.type k1 hk a' (by simp [hd,ha]) _ _ _ _ r1 (h1.part off n hlx.1) (h2.part off n hlx.2) e1
     have hrest:=Q7 D rec ih c1 c2 xs ys h1 h2 fs (off+n) k2 r2 hlx hq (by simpa [List.drop_drop] using e2)
     rw [←c2'] at p1 p2
     simp only [Op.eqFields,c1',ne_eq,not_false_eq_true,if_true,Sem.run_bind,p1,p2,Result.andThen_ok]
     rw [←c2'] at hih
     rw [hih]
     cases r1
     ·simp
     ·simpa using hrest
   ·cases h
  ·cases h

theorem K8 (D:Nat) (e:TypeId) (k:Nat) (a:Bool) (ks:List Nat) (hs:shapeOf P e=some (k,a)) (hk:ks.length=k)
  (ih : ∀(c1 c2:Array Value) (xs ys:List T) (r:Bool),C9 g.I c1 xs→C9 g.I c2 ys→eqC ks xs ys=some r→(Op.equalIn D e (mkv a c1) (mkv a c2)).run P w=.ok r w)
  (c1 c2:Array Value) (xs ys:List T) (h1:C9 g.I c1 xs) (h2:C9 g.I c2 ys) : ∀(m i:Nat) (r:Bool),i*k≤xs.length∧i*k≤ys.length→eqC (List.replicate m ks).flatten (xs.drop (i*k)) (ys.drop (i*k))=some r→
   (Op.eqItems D e k c1 c2 (List.range' i m)).run P w=.ok r w
 | 0,i,r,_,hr=>by
  cases hx:xs.drop (i*k)<;>cases hy:ys.drop (i*k)<;>simp [hx,hy,eqC] at hr
  subst hr
  simp [Op.eqItems]
 | m+1,i,r,ho,hr=>by
  rw [List.replicate_succ,List.flatten_cons] at hr
  obtain⟨r1,r2,e1,e2,rfl⟩:=Ky ks hr
  have hl:=Fw e1
  have hlx:i*k+k≤xs.length∧i*k+k≤ys.length:=by
   obtain⟨a1,a2⟩:=hl
   rw [hk] at a1 a2
   simp at a1 a2
   omega
  have p1:=Ci (P:=P) (w:=w) hs c1 (i*k) (by rw [h1.1];exact hlx.1)
  have p2:=Ci (P:=P) (w:=w) hs c2 (i*k) (by rw [h2.1];exact hlx.2)
  rw [hk] at e1 e2
  have hih:=ih _ _ _ _ r1 (h1.part (i*k) k hlx.1) (h2.part (i*k) k hlx.2) e1
  have hrest:=K8 D e k a ks hs hk ih c1 c2 xs ys h1 h2 m (i+1) r2 (by rw [Nat.add_mul];omega) (by rw [Nat.add_mul,Nat.one_mul];simpa [List.drop_drop] using e2)
  rw [List.range'_succ]
  simp only [Op.eqItems,Sem.run_bind,p1,p2,Result.andThen_ok,hih]
  cases r1
  ·simp
  ·simpa using hrest

theorem Ip : ∀(d:Nat) (t:TypeId) (ks:List Nat),eqCells P d t=some ks→∀(D:Nat),d≤D→∀(a:Bool),(P.underlying t).map aggD=some a→
  ∀(c1 c2:Array Value) (xs ys:List T) (r:Bool),C9 g.I c1 xs→C9 g.I c2 ys→eqC ks xs ys=some r→(Op.equalIn D t (mkv a c1) (mkv a c2)).run P w=.ok r w
 | 0,t,ks,h,_,_,_,_,_,_,_,_,_,_,_,_=>by simp [eqCells] at h
 | d+1,t,ks,h,D,hD,a,ha,c1,c2,xs,ys,r,h1,h2,hr=>by
  obtain⟨D,rfl⟩ : ∃D',D=D'+1:=⟨D-1,by omega⟩
  simp only [eqCells] at h
  split at h
  ·rename_i hu
   simp only [Option.some.injEq] at h;subst h
   simp [hu,aggD] at ha;subst ha
   rcases F2 hr with ⟨x,y,_,rfl,rfl,rfl⟩|⟨_,_,_,h0,_⟩|⟨_,_,h0,_⟩
   ·have b1:=h1.one;have b2:=h2.one
    simp only [mkv,Bool.false_eq_true,if_false]
    generalize c1.getD 0 undef=u at *
    generalize c2.getD 0 undef=v at *
    cases b1;cases b2
    simp [Op.equalIn,run_underlying hu]
   ·cases h0
   ·cases h0
  ·rename_i hu
   simp only [Option.some.injEq] at h;subst h
   simp [hu,aggD] at ha;subst ha
   rcases F2 hr with ⟨_,_,h0,_⟩|⟨q,x,y,_,rfl,rfl,rfl⟩|⟨_,_,h0,_⟩
   ·cases h0
   ·have b1:=h1.one;have b2:=h2.one
    simp only [mkv,Bool.false_eq_true,if_false]
    generalize c1.getD 0 undef=u at *
    generalize c2.getD 0 undef=v at *
    cases b1;cases b2
    simp [Op.equalIn,run_underlying hu]
   ·cases h0
  ·rename_i hu
   simp only [Option.some.injEq] at h;subst h
   simp [hu,aggD] at ha;subst ha
   rcases F2 hr with ⟨_,_,h0,_⟩|⟨_,_,_,h0,_⟩|⟨x,y,_,rfl,rfl,rfl⟩
   ·cases h0
   ·cases h0
   ·have b1:=h1.one;have b2:=h2.one
    simp only [mkv,Bool.false_eq_true,if_false]
    generalize c1.getD 0 undef=u at *
    generalize c2.getD 0 undef=v at *
    cases b1;cases b2
    simp [Op.equalIn,run_underlying hu,beq_toListBytes,ByteArray.toList_eq]
  ·rename_i fs hu
   split at h
   ·cases h
   ·rename_i hst
    simp [hu,aggD] at ha;subst ha
    have hf:P.underlying t=some (.struct (P.fieldsOf t)):=by simp [Program.fieldsOf,hu]
    have hfs:P.fieldsOf t=fs:=by simp [Program.fieldsOf,hu]
    simp only [mkv,if_true]
    rw [run_equalIn_struct w D t c1 c2 hf (by simpa using hst),hfs]
    exact Q7 D (eqCells P d) (fun t ks hk a ha c1 c2 xs ys r h1 h2 hr=>Ip d t ks hk D (by omega) a ha c1 c2 xs ys r h1 h2 hr) c1 c2 xs ys h1 h2 fs.toList 0 ks r (by simp) h (by simpa using hr)
  ·rename_i len e hu
   split at h
   ·rename_i k1 k a' hk hs
    split at h
    ·rename_i hkk
     simp only [Option.some.injEq] at h;subst h
     simp [hu,aggD] at ha;subst ha
     obtain⟨i,dd,hi,hd,hn,hda,hor⟩:=Ax hs
     simp only [mkv,if_true]
     rw [run_equalIn_array w D c1 c2 hu hi,List.range_eq_range',show P.cellsOf e=k by simp [Program.cellsOf,hi,hn]]
     exact K8 D e k a' k1 hs hkk (fun c1 c2 xs ys r h1 h2 hr=>Ip d e k1 hk D (by omega) a' (by simp [hd,hda]) c1 c2 xs ys r h1 h2 hr) c1 c2 xs ys h1 h2 len 0 r (by simp) (by simpa using hr)
    ·cases h
   ·cases h
  ·cases h

theorem H5 {x:V} {v:Value} {xs:List T} (h:RelV g S.toks x v) (ht:Bu (cellsV x)=some xs):C9 g.I v.cells xs∧(isAggV x=true∨cellB x=true):=by
 obtain⟨t1,t2⟩:=Ch ht
 have hb:isAggV x=true∨cellB x=true:=by
  cases x<;>simp [isAggV,cellB]<;>simp [cellsV,Bu,toT] at ht
 obtain⟨c1,c2⟩:=Ba h hb
 exact⟨⟨by rw [c1,t1],fun j hj=>Ik (c2 j (by omega)) (t2 j (by omega))⟩,hb⟩

theorem H6 {x:V} {v:Value} (h:RelV g S.toks x v) (hb:isAggV x=true∨cellB x=true):v=mkv (isAggV x) v.cells:=by
 have one:v.cells = #[v]→v=mkv false v.cells:=fun h=>by rw [h];rfl
 cases h with
 | und=>simp [isAggV,cellB] at hb
 | junk v=>simp [isAggV,cellB] at hb
 | tup cs vs hl hr=>simp [isAggV,cellB] at hb
 | agg cs vs hl hr=>rfl
 | t x v h=>exact one (by cases h<;>rfl)
 | own k e z es v n h hz hn hle hg=>exact one (by cases h<;>rfl)
 | _=>exact one rfl

theorem Nk {neg:Bool} {op:BinOp} {t u:TypeId} {x y:Operand} {ks:List Nat} {d:TypeDesc} (ho:o.op=.binOp op t x y u) (hop:op=if neg then .neq else .eql) (hk:eqCells P 100 t=some ks) (hd:P.underlying t=some d)
  (hni : ∀k,d≠.int k) (hns:d≠.string) (hg:P.eqGuardType P.depth t=false) (hI:Inv g S w) {vx vy:V} (hx:RelV g S.toks vx (ρ x)) (hy:RelV g S.toks vy (ρ y)) (hK:W0 neg (aggD d) ks vx vy S K):Ai P o ρ g S w K:=by
 obtain⟨⟨a1,a2⟩,hK⟩:=hK
 split at hK
 ·rename_i xs ys hxs hys
  split at hK
  ·rename_i r hr
   obtain⟨c1,b1⟩:=H5 hx hxs
   obtain⟨c2,b2⟩:=H5 hy hys
   have hrun:=Ip (P:=P) (g:=g) (w:=w) 100 t ks hk 10000 (by omega) (aggD d) (by simp [hd]) (ρ x).cells (ρ y).cells xs ys r c1 c2 hr
   have e1:=H6 hx b1
   have e2:=H6 hy b2
   rw [a1] at e1
   rw [a2] at e2
   rw [←e1,←e2] at hrun
   have fin:(execOp ρ o).run P w=.ok (.value (.bool (if neg then !r else r))) w:=by
    cases hagg:aggD d
    ·rw [hagg] at e1 e2
     have hu:d=.bool:=by
      have h3 : ∀n,eqCells P (n+1) t=some ks→d=.bool:=by
       intro n hn
       clear hk hrun hK
       simp only [eqCells,hd] at hn
       cases d<;>first|rfl|(simp [aggD] at hagg;done)|(exact absurd rfl (hni _))|(exact absurd rfl hns)|(simp at hn;done)
      exact h3 99 hk
     have hks:ks=[0]:=by
      have h3 : ∀n,eqCells P (n+1) t=some ks→ks=[0]:=by
       intro n hn
       simp only [eqCells,hd,hu,Option.some.injEq] at hn
       exact hn.symm
      exact h3 99 hk
     subst hks
     rcases F2 hr with ⟨p,q,_,rfl,rfl,rfl⟩|⟨_,_,_,h0,_⟩|⟨_,_,h0,_⟩
     ·have d1:=c1.one;have d2:=c2.one
      simp only [mkv,Bool.false_eq_true,if_false] at e1 e2
      rw [←e1] at d1
      rw [←e2] at d2
      obtain⟨ux,hux⟩ : ∃u,ρ x=u:=⟨_,rfl⟩
      obtain⟨uy,huy⟩ : ∃u,ρ y=u:=⟨_,rfl⟩
      rw [hux] at d1 hrun
      rw [huy] at d2 hrun
      cases d1;cases d2
      subst hop
      cases neg<;>simp [execOp,ho,eqGuard,binOp,Op.equal,Op.maxDepth,hrun,hux,huy]
     ·cases h0
     ·cases h0
    ·rw [hagg] at e1 e2
     simp only [mkv,if_true] at e1 e2
     obtain⟨ux,hux⟩ : ∃u,(ρ x).cells=u:=⟨_,rfl⟩
     obtain⟨uy,huy⟩ : ∃u,(ρ y).cells=u:=⟨_,rfl⟩
     rw [hux] at e1
     rw [huy] at e2
     rw [e1,e2] at hrun
     subst hop
     cases neg<;>simp [execOp,ho,e1,e2,run_eqGuard_agg,hg,run_eql_struct,run_neq_struct,hrun]
   exact Ai.still hI fin (.t _ _ (.bool _)) hK
  ·exact hK.elim
 ·exact hK.elim

end
end E
end Go.Proofs.YtmlpmdccfmmpoaaGreatDoor
end
