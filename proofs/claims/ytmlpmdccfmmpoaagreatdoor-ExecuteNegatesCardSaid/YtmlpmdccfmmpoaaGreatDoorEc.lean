/- The engine, on maps: what a look-up, a write and the making of a map do. -/
import Derived.Test.YtmlpmdccfmmpoaaGreatDoorEb
import Derived.Laws.MakeOwn
import Derived.Laws.CopyRow
section
set_option linter.unusedSimpArgs false
set_option linter.unusedVariables false
namespace Go.Proofs.YtmlpmdccfmmpoaaGreatDoor
namespace E
section
variable {P:Program} {o:Oper} {ρ:Operand→Value} {g:Gh} {S:St} {w:World} {K:V→St→Prop}

theorem Q8 (rec:TypeId→Option (List Nat)) : ∀(fs:List Field) (off:Nat) (ks:List Nat),eqFs P rec fs off=some ks→
  ∀ f ∈ fs, f.name ≠ "_" ∧ ∃ k1 n a, rec f.type = some k1 ∧ shapeOf P f.type = some (n, a) ∧ k1.length = n ∧ f.offset + n ≤ off + ks.length
 | [],_,_,_,f,hf=>by cases hf
 | f0::fs,off,ks,h,f,hf=>by
  simp only [eqFs] at h
  split at h
  ·rename_i k1 n a hk hs
   split at h
   ·rename_i hc
    obtain⟨c1,c2,c3⟩:=hc
    cases hq:eqFs P rec fs (off+n) with
    | none=>simp [hq] at h
    | some k2=>
     simp [hq] at h
     subst h
     rcases List.mem_cons.1 hf with rfl|hf
     ·exact⟨c1,k1,n,a,hk,hs,c3,by rw [c2];simp;omega⟩
     ·obtain⟨d1,k',n',a',d2,d3,d4,d5⟩:=Q8 rec fs (off+n) k2 hq f hf
      exact⟨d1,k',n',a',d2,d3,d4,by simp;omega⟩
   ·cases h
  ·cases h

theorem Tg : ∀(d:Nat) (t:TypeId) (ks:List Nat),eqCells P d t=some ks→∀(em:Bool) (D:Nat),d≤D→∀(a:Bool),(P.underlying t).map aggD=some a→
  ∀(c:Array Value),c.size=ks.length→(Instr.checkKey em D t (mkv a c)).run P w=.ok () w
 | 0,t,ks,h,_,_,_,_,_,_,_=>by simp [eqCells] at h
 | d+1,t,ks,h,em,D,hD,a,ha,c,hc=>by
  obtain⟨D,rfl⟩ : ∃D',D=D'+1:=⟨D-1,by omega⟩
  simp only [eqCells] at h
  split at h
  ·rename_i hu
   unfold Instr.checkKey
   simp only [Sem.run_bind,run_underlying hu,Result.andThen_ok]
   generalize mkv a c=u
   cases u<;>rfl
  ·rename_i hu
   unfold Instr.checkKey
   simp only [Sem.run_bind,run_underlying hu,Result.andThen_ok]
   generalize mkv a c=u
   cases u<;>rfl
  ·rename_i hu
   unfold Instr.checkKey
   simp only [Sem.run_bind,run_underlying hu,Result.andThen_ok]
   generalize mkv a c=u
   cases u<;>rfl
  ·rename_i fs hu
   split at h
   ·cases h
   ·simp [hu,aggD] at ha;subst ha
    simp only [mkv,if_true]
    unfold Instr.checkKey
    simp only [Sem.run_bind,run_underlying hu,Result.andThen_ok]
    rw [←Array.forIn_toList]
    have each:=Q8 (P:=P) (eqCells P d) fs.toList 0 ks h
    clear h
    generalize fs.toList=L at each
    induction L with
    | nil=>simp
    | cons f L ih=>
     obtain⟨hn,k1,n,a',e1,e2,e3,e4⟩:=each f (by simp)
     obtain⟨i,dd,hi,hd,hin,hda,hor⟩:=Ax e2
     have p1:=Ci (P:=P) (w:=w) e2 c f.offset (by omega)
     have p2:=Tg d f.type k1 e1 em D (by omega) a' (by simp [hd,hda]) ((List.range n).map fun j=>c.getD (f.offset+j) undef).toArray (by simp [e3])
     simp only [List.forIn_cons,Sem.run_bind,hn,ne_eq,not_false_eq_true,if_true,Result.andThen_ok,p1,p2,Sem.run_pure]
     exact ih (fun y hy=>each y (by simp [hy]))
  ·rename_i len e hu
   split at h
   ·rename_i k1 k a' hk hs
    split at h
    ·rename_i hkk
     simp only [Option.some.injEq] at h;subst h
     simp [hu,aggD] at ha;subst ha
     obtain⟨i,dd,hi,hd,hin,hda,hor⟩:=Ax hs
     simp only [mkv,if_true]
     unfold Instr.checkKey
     simp only [Sem.run_bind,run_underlying hu,Result.andThen_ok]
     simp only [Std.Legacy.Range.forIn_eq_forIn_range',Std.Legacy.Range.size,Nat.sub_zero,Nat.add_one_sub_one,Nat.div_one]
     have each : ∀j∈List.range' 0 len,j*k+k≤c.size:=fun j hj=>by
      have hjl:j<len:=by simpa using hj
      have h1:(j+1)*k≤len*k:=Nat.mul_le_mul_right _ hjl
      rw [Nat.add_mul,Nat.one_mul] at h1
      rw [hc];simp [hkk];exact h1
     generalize List.range' 0 len=is at each
     induction is with
     | nil=>simp
     | cons j is ih=>
      have p1:=Ci (P:=P) (w:=w) hs c (j*k) (each j (by simp))
      have p2:=Tg d e k1 hk em D (by omega) a' (by simp [hd,hda]) ((List.range k).map fun q=>c.getD (j*k+q) undef).toArray (by simp [hkk])
      rw [←hin] at p1 p2
      simp only [List.forIn_cons,Sem.run_bind,At hi,Result.andThen_ok,p1,p2,Sem.run_pure]
      exact ih (fun y hy=>each y (by simp [hy]))
    ·cases h
   ·cases h
  ·cases h

theorem Dd {t:TypeId} {ka:Bool} {ks:List Nat} (h:keyOf P t=some (ka,ks)) : ∃d,P.underlying t=some d∧aggD d=ka∧eqCells P 100 t=some ks∧
  ((∃fs,d=.struct fs)∨(d=.bool∧ks=[0])∨(∃k,d=.int k∧ks=[1])∨(d=.string∧ks=[2])):=by
 unfold keyOf at h
 split at h
 ·rename_i hu;simp at h;obtain⟨rfl,rfl⟩:=h;exact⟨_,hu,rfl,by simp [eqCells,hu],.inr (.inl ⟨rfl,rfl⟩)⟩
 ·rename_i hu;simp at h;obtain⟨rfl,rfl⟩:=h;exact⟨_,hu,rfl,by simp [eqCells,hu],.inr (.inr (.inl ⟨_,rfl,rfl⟩))⟩
 ·rename_i hu;simp at h;obtain⟨rfl,rfl⟩:=h;exact⟨_,hu,rfl,by simp [eqCells,hu],.inr (.inr (.inr ⟨rfl,rfl⟩))⟩
 ·rename_i fs hu
  split at h
  ·rename_i ks' hk;simp at h;obtain⟨rfl,rfl⟩:=h;exact⟨_,hu,rfl,hk,.inl ⟨_,rfl⟩⟩
  ·cases h
 ·cases h

theorem Nl {t:TypeId} {ka:Bool} {ks:List Nat} (h:keyOf P t=some (ka,ks)) {k:V} {kv:Value} (hk:RelV g S.toks k kv) {kt:List T} (hkt:Bu (cellsV k)=some kt) (ha:isAggV k=ka) (hl:kt.length=ks.length) (em:Bool) :
  (Instr.checkKey em 10000 t kv).run P w=.ok () w:=by
 obtain⟨d,hu,hd,he,_⟩:=Dd h
 obtain⟨c1,b1⟩:=H5 hk hkt
 have e1:=H6 hk b1
 rw [ha] at e1
 rw [e1]
 exact Tg 100 t ks he em 10000 (by omega) ka (by simp [hu,hd]) kv.cells (by rw [c1.1,hl])

theorem Uv {t:TypeId} {ka:Bool} {ks:List Nat} (h:keyOf P t=some (ka,ks)) {k q:V} {kv qv:Value} (hk:RelV g S.toks k kv) (hq:RelV g S.toks q qv) {kt:List T} (hkt:Bu (cellsV k)=some kt) (ha:isAggV k=ka) {b:Bool} (hb:eqK ka ks kt q=some b) :
  (Op.equal t kv qv).run P w=.ok b w∧(ka=false→∃d,P.underlying t=some d∧Instr.sameNow d kv qv=some b)∧(b=true→kv=qv∧Instr.sameBits 10000 qv kv=true):=by
 obtain⟨d,hu,hd,he,hcase⟩:=Dd h
 unfold eqK at hb
 split at hb
 ·rename_i hqa
  split at hb
  ·rename_i ys hys
   obtain⟨c1,b1⟩:=H5 hk hkt
   obtain⟨c2,b2⟩:=H5 hq hys
   have e1:=H6 hk b1
   have e2:=H6 hq b2
   rw [ha] at e1
   rw [hqa] at e2
   have hrun:=Ip (P:=P) (g:=g) (w:=w) 100 t ks he 10000 (by omega) ka (by simp [hu,hd]) kv.cells qv.cells kt ys b c1 c2 hb
   rw [←e1,←e2] at hrun
   -- the cells themselves
   have cellEq : ∀(ks:List Nat) (xs ys:List T) (c1 c2:Array Value),C9 g.I c1 xs→C9 g.I c2 ys→eqC ks xs ys=some true→c1=c2∧∀j,j<c1.size→∀n,Instr.sameBits n (c2.getD j undef) (c1.getD j undef)=true:=by
    intro ks xs ys c1 c2 h1 h2 hr
    have hl:=Fw hr
    have hsz:c1.size=c2.size:=by rw [h1.1,h2.1,hl.1,hl.2]
    have each : ∀j,j<xs.length→∃x,RelT g.I x (c1.getD j undef)∧RelT g.I x (c2.getD j undef)∧(∃b,x=.bool b)∨(∃k n,RelT g.I (.int k n) (c1.getD j undef)∧RelT g.I (.int k n) (c2.getD j undef))∨(∃s,RelT g.I (.str s) (c1.getD j undef)∧RelT g.I (.str s) (c2.getD j undef)):=by
     have gen : ∀(ks:List Nat) (xs ys:List T),eqC ks xs ys=some true→∀j,j<xs.length→xs.getD j .nilp=ys.getD j .nilp∧((∃b,xs.getD j .nilp=.bool b)∨(∃k n,xs.getD j .nilp=.int k n)∨(∃s,xs.getD j .nilp=.str s)):=by
      intro ks
      induction ks with
      | nil=>intro xs ys h j hj;cases xs<;>cases ys<;>simp [eqC] at h hj
      | cons k ks ih=>
       intro xs ys h j hj
       obtain⟨r1,r2,e1,e2,e3⟩:=Ky [k] (k2:=ks) (xs:=xs) (ys:=ys) (r:=true) (by simpa using h)
       simp at e3
       obtain⟨rfl,rfl⟩:=e3
       cases xs with
       | nil=>simp at hj
       | cons x xs=>
       cases ys with
       | nil=>simp at e1;have:=(Fw e1).2;simp at this
       | cons y ys=>
       simp only [List.length_cons,List.length_nil,Nat.zero_add,List.take_succ_cons,List.take_zero,List.drop_succ_cons,List.drop_zero] at e1 e2
       cases j with
       | zero=>
        rcases F2 e1 with ⟨a,b,_,h1,h2,h3⟩|⟨q,a,b,_,h1,h2,h3⟩|⟨a,b,_,h1,h2,h3⟩
        ·simp at h1 h2 h3;subst h1;subst h2;subst h3;simp
        ·simp at h1 h2 h3;subst h1;subst h2;subst h3;simp
        ·simp at h1 h2 h3;subst h1;subst h2;subst h3;simp
       | succ j=>simpa using ih xs ys e2 j (by simpa using hj)
     intro j hj
     obtain⟨g1,g2⟩:=gen ks xs ys hr j hj
     have r1:=h1.2 j hj
     have r2:=h2.2 j (by omega)
     rw [←g1] at r2
     rcases g2 with ⟨b,hb⟩|⟨k,n,hb⟩|⟨s,hb⟩
     ·rw [hb] at r1 r2;exact⟨.bool b,.inl ⟨r1,r2,b,rfl⟩⟩
     ·rw [hb] at r1 r2;exact⟨.nilp,.inr (.inl ⟨k,n,r1,r2⟩)⟩
     ·rw [hb] at r1 r2;exact⟨.nilp,.inr (.inr ⟨s,r1,r2⟩)⟩
    have both : ∀j,j<c1.size→c1.getD j undef=c2.getD j undef∧∀n,Instr.sameBits n (c2.getD j undef) (c1.getD j undef)=true:=by
     intro j hj
     obtain⟨x,hx⟩:=each j (by rw [←h1.1];exact hj)
     rcases hx with ⟨r1,r2,b,rfl⟩|⟨k,n,r1,r2⟩|⟨s,r1,r2⟩
     ·generalize c1.getD j undef=u at *;generalize c2.getD j undef=v at *;cases r1;cases r2;exact⟨rfl,fun n=>by cases n<;>simp [Instr.sameBits,beq_toListBytes]⟩
     ·generalize c1.getD j undef=u at *;generalize c2.getD j undef=v at *;cases r1;cases r2;exact⟨rfl,fun n=>by cases n<;>simp [Instr.sameBits,beq_toListBytes]⟩
     ·generalize c1.getD j undef=u at *;generalize c2.getD j undef=v at *;cases r1;cases r2;exact⟨rfl,fun n=>by cases n<;>simp [Instr.sameBits,beq_toListBytes]⟩
    refine⟨Array.ext hsz fun j h1' h2'=>?_,fun j hj=>(both j hj).2⟩
    have:=(both j h1').1
    simpa [h1',h2'] using this
   have hall:b=true→kv=qv∧Instr.sameBits 10000 qv kv=true:=by
    rintro rfl
    obtain⟨d1,d2⟩:=cellEq ks kt ys kv.cells qv.cells c1 c2 hb
    refine⟨by rw [e1,e2,d1],?_⟩
    cases ka
    ·simp only [mkv,Bool.false_eq_true,if_false] at e1 e2
     have hpos:0<kv.cells.size:=by
      rw [c1.1,(Fw hb).1]
      rcases hcase with ⟨fs,rfl⟩|⟨_,rfl⟩|⟨_,_,rfl⟩|⟨_,rfl⟩
      ·simp [aggD] at hd
      ·simp
      ·simp
      ·simp
     have:=d2 0 hpos 10000
     rw [←e1,←e2] at this
     exact this
    ·simp only [mkv,if_true] at e1 e2
     have hz : ∀(n:Nat) (a b:Array Value),a=b→(∀j,j<b.size→Instr.sameBits n (a.getD j undef) (b.getD j undef)=true)→Instr.sameBits (n+1) (.agg a) (.agg b)=true:=by
      intro n a b hab hj
      subst hab
      simp only [Instr.sameBits,beq_self_eq_true,Bool.true_and,List.all_eq_true]
      rintro ⟨x,y⟩ hxy
      obtain⟨i,hi⟩:=List.mem_iff_getElem?.1 hxy
      rw [List.getElem?_zip_eq_some] at hi
      simp only at hi
      obtain⟨h3,h4⟩:=hi
      have hil:i<a.size:=by simpa using (List.getElem?_eq_some_iff.1 h3).1
      have:=hj i hil
      simp only [Array.getElem?_toList] at h3 h4
      have hxe:y=x:=by rw [h3] at h4;exact (Option.some.inj h4).symm
      subst hxe
      simpa [h3,Array.getD_eq_getD_getElem?] using this
     rw [e1,e2]
     exact hz 9999 _ _ d1.symm (fun j hj=>d2 j hj 9999)
   refine⟨hrun,fun hka=>?_,hall⟩
   subst hka
   simp only [mkv,Bool.false_eq_true,if_false] at e1 e2
   refine⟨d,hu,?_⟩
   rcases hcase with ⟨fs,rfl⟩|⟨rfl,rfl⟩|⟨k0,rfl,rfl⟩|⟨rfl,rfl⟩
   ·simp [aggD] at hd
   ·rcases F2 hb with ⟨x,y,_,rfl,rfl,rfl⟩|⟨_,_,_,h0,_⟩|⟨_,_,h0,_⟩
    ·have r1:=c1.one;have r2:=c2.one
     rw [←e1] at r1;rw [←e2] at r2
     cases r1;cases r2;rfl
    ·cases h0
    ·cases h0
   ·rcases F2 hb with ⟨_,_,h0,_⟩|⟨q',x,y,_,rfl,rfl,rfl⟩|⟨_,_,h0,_⟩
    ·cases h0
    ·have r1:=c1.one;have r2:=c2.one
     rw [←e1] at r1;rw [←e2] at r2
     cases r1;cases r2;simp [Instr.sameNow]
    ·cases h0
   ·rcases F2 hb with ⟨_,_,h0,_⟩|⟨_,_,_,h0,_⟩|⟨x,y,_,rfl,rfl,rfl⟩
    ·cases h0
    ·cases h0
    ·have r1:=c1.one;have r2:=c2.one
     rw [←e1] at r1;rw [←e2] at r2
     cases r1;cases r2;simp [Instr.sameNow,beq_toListBytes]
  ·cases hb
 ·cases hb

theorem Lq {t:TypeId} {ka:Bool} {ks:List Nat} (h:keyOf P t=some (ka,ks)) {k:V} {kv:Value} (hk:RelV g S.toks k kv) {kt:List T} (hkt:Bu (cellsV k)=some kt) (ha:isAggV k=ka) :
  ∀(es:List (V×V)) (ms:List MapEntry) (i:Nat),ms.length=es.length→(∀j,j<es.length→∃m,ms[j]?=some m∧RelV g S.toks (es.getD j (.junk,.junk)).1 m.key∧RelV g S.toks (es.getD j (.junk,.junk)).2 m.val)→
  ∀r,Ez ka ks kt es=some r→
   ((Instr.findAsking t kv ms i).run P w=.ok none w∧(ka=false→∃d,P.underlying t=some d∧Instr.findNow d kv ms i=some none)∧r=none∧∀v,Gk ka ks kt k v es=some (es++[(k,v)]))∨
   ∃j m v,(Instr.findAsking t kv ms i).run P w=.ok (some (i+j,m.val)) w∧(ka=false→∃d,P.underlying t=some d∧Instr.findNow d kv ms i=some (some (i+j,m.val)))∧ms[j]?=some m∧j<es.length∧r=some v∧RelV g S.toks v m.val∧
    m.key=kv∧Instr.sameBits 10000 m.key kv=true∧∀v,Gk ka ks kt k v es=some (es.set j (k,v))
 | [],ms,i,hl,hrel,r,hr=>by
  have:ms=[]:=List.eq_nil_of_length_eq_zero (by simpa using hl)
  subst this
  simp [Ez] at hr
  obtain⟨d,hu,_⟩:=Dd h
  exact .inl ⟨by simp [Instr.findAsking],fun _=>⟨d,hu,by simp [Instr.findNow]⟩,hr.symm,fun v=>by simp [Gk]⟩
 | (q,v)::es,[],i,hl,hrel,r,hr=>by simp at hl
 | (q,v)::es,m::ms,i,hl,hrel,r,hr=>by
  obtain⟨m0,h1,h2,h3⟩:=hrel 0 (by simp)
  simp at h1 h2 h3
  subst h1
  simp only [Ez] at hr
  obtain⟨d,hu,_⟩:=Dd h
  split at hr
  ·rename_i hb
   obtain⟨e1,e2,e3⟩:=Uv (w:=w) h hk h2 hkt ha hb
   obtain⟨e4,e5⟩:=e3 rfl
   simp only [Option.some.injEq] at hr
   refine .inr ⟨0,m,v,by simp [Instr.findAsking,e1],fun hka=>?_,rfl,by simp,hr.symm,h3,e4.symm,e5,fun v=>by simp [Gk,hb]⟩
   obtain⟨d',hd',hs⟩:=e2 hka
   exact⟨d',hd',by simp [Instr.findNow,hs]⟩
  ·rename_i hb
   obtain⟨e1,e2,_⟩:=Uv (w:=w) h hk h2 hkt ha hb
   have ih:=Lq h hk hkt ha es ms (i+1) (by simpa using hl) (fun j hj=>by simpa using hrel (j+1) (by simpa using hj)) r hr
   rcases ih with ⟨i1,i2,i3,i4⟩|⟨j,m',v',i1,i2,i3,i4,i5,i6,i7,i8,i9⟩
   ·refine .inl ⟨by simp [Instr.findAsking,e1,i1],fun hka=>?_,i3,fun v=>by simp [Gk,hb,i4]⟩
    obtain⟨d',hd',hs⟩:=e2 hka
    obtain⟨d2,hd2,hs2⟩:=i2 hka
    rw [hd'] at hd2;cases hd2
    exact⟨d',hd',by simp [Instr.findNow,hs,hs2]⟩
   ·refine .inr ⟨j+1,m',v',by rw [←Nat.add_assoc,Nat.add_right_comm];simp [Instr.findAsking,e1,i1],fun hka=>?_,by simpa using i3,by simpa using i4,i5,i6,i7,i8,fun v=>by simp [Gk,hb,i9]⟩
    obtain⟨d',hd',hs⟩:=e2 hka
    obtain⟨d2,hd2,hs2⟩:=i2 hka
    rw [hd'] at hd2;cases hd2
    exact⟨d',hd',by rw [←Nat.add_assoc,Nat.add_right_comm];simp [Instr.findNow,hs,hs2]⟩
  ·cases hr

theorem F3 {t:TypeId} {ka:Bool} {ks:List Nat} (h:keyOf P t=some (ka,ks)) {kv:Value} {ms:List MapEntry} {r:Option (Nat×Value)} (h1:(Instr.findAsking t kv ms 0).run P w=.ok r w)
  (h2:ka=false→∃d,P.underlying t=some d∧Instr.findNow d kv ms 0=some r):(Instr.findKey t kv ms).run P w=.ok r w:=by
 cases ka
 ·obtain⟨d,hd,hn⟩:=h2 rfl
  exact MapKept.run_findKey hd hn
 ·obtain⟨d,hu,hd,_,hcase⟩:=Dd h
  rw [run_findKey_eq]
  ·exact h1
  ·rcases hcase with ⟨fs,rfl⟩|⟨rfl,_⟩|⟨k,rfl,_⟩|⟨rfl,_⟩
   ·simp [hu]
   ·simp [aggD] at hd
   ·simp [aggD] at hd
   ·simp [aggD] at hd

theorem K9 {t:TypeId} {z:V} (h:zeroOf P t=some z) : ∃u,(zeroValue t).run P w=.ok u w∧(∀{g:Gh} {tk:List Nat},RelV g tk z u)∧(isAggV z=true∨cellB z=true):=by
 unfold zeroOf at h
 split at h
 ·rename_i i hi
  split at h
  ·rename_i u hz
   refine⟨u,by simp [zeroValue,typeInfo,hi,hz],Cu h,?_⟩
   unfold constV at h
   split at h
   ·rename_i cs
    cases hx:constVs cs.toList with
    | none=>simp [hx] at h
    | some xs=>simp [hx] at h;subst h;exact .inl rfl
   ·unfold constV1 at h
    split at h<;>simp at h<;>subst h<;>exact .inr rfl
  ·cases h
 ·cases h

theorem Wl {z:V} (h:isAggV z=true∨cellB z=true):(if isAggV z=true then V.agg (cellsV z) else (cellsV z).headD .junk)=z:=by
 cases z<;>simp_all [isAggV,cellB,cellsV]

theorem Lr {t:TypeId} {ka:Bool} {ks:List Nat} {z:V} (h:mapOf P t=some (ka,ks,z)) : ∃kt e,P.underlying t=some (.map kt e)∧keyOf P kt=some (ka,ks)∧zeroOf P e=some z:=by
 unfold mapOf at h
 split at h
 ·rename_i kt e hu
  split at h
  ·rename_i ka' ks' z' hk hz
   simp at h
   obtain⟨rfl,rfl,rfl⟩:=h
   exact⟨kt,e,hu,hk,hz⟩
  ·cases h
 ·cases h

theorem Wm {t:TypeId} {m k:Operand} {ok ka:Bool} {ks:List Nat} {z:V} (ho:o.op=.lookup t m k ok) (hm:mapOf P t=some (ka,ks,z)) (hI:Inv g S w) {vm vk:V} (hvm:RelV g S.toks vm (ρ m)) (hvk:RelV g S.toks vk (ρ k))
  (hK:Oj ka ks (isAggV z) ok (cellsV z) vm vk S K):Ai P o ρ g S w K:=by
 obtain⟨kt,e,hu,hkt,hz⟩:=Lr hm
 obtain⟨zu,hzu,hzr,hzc⟩:=K9 (w:=w) hz
 have hzz:=Wl hzc
 obtain⟨hka,hK⟩:=hK
 split at hK
 ·exact hK.elim
 ·rename_i xs hxs
  obtain⟨hl,hK⟩:=hK
  have hck:=fun em=>Nl (w:=w) hkt hvk hxs hka hl em
  have res : ∀(r:Option V) (u:Value) (b:Bool),r.isSome=b→RelV g S.toks (r.getD z) u→RelV g S.toks (Oi (isAggV z) ok (cellsV z) r) (if ok then .tuple #[u,.bool b] else u):=by
   intro r u b hb hr
   unfold Oi
   rw [hzz,hb]
   cases ok
   ·exact hr
   ·simp only [if_true]
    refine .tup _ _ (by simp) (fun j hj=>?_)
    match j,hj with
    | 0,_=>exact hr
    | 1,_=>exact .t _ _ (.bool _)
  obtain⟨ku,hku⟩ : ∃u,ρ k=u:=⟨_,rfl⟩
  rw [hku] at hck hvk
  split at hK
  ·obtain⟨u,hρ⟩ : ∃u,ρ m=u:=⟨_,rfl⟩
   rw [hρ] at hvm
   cases hvm with
   | t _ _ hh=>cases hh with
   | nilm=>
   obtain⟨d,hud,_⟩:=Dd hkt
   have hf:(Instr.findKey kt ku []).run P w=.ok none w:=by simp [Instr.findKey,run_underlying hud,Instr.findNow]
   refine Ai.still hI (v:=if ok then .tuple #[zu,.bool false] else zu) ?_ (res none zu false rfl hzr) hK
   cases ok<;>simp [execOp,ho,hρ,hku,Instr.lookup,run_underlying hu,hck,hf,hzu]
  ·rename_i b
   obtain⟨u,hρ⟩ : ∃u,ρ m=u:=⟨_,rfl⟩
   rw [hρ] at hvm
   cases hvm with
   | mp _ blk hβ=>
   split at hK
   ·rename_i es hes
    split at hK
    ·rename_i r hr
     obtain⟨ms,cl,h1,h2,h3,h4,h5⟩:=hI.box b blk _ hβ hes
     have hrel : ∀j,j<es.length→∃m,ms.toList[j]?=some m∧RelV g S.toks (es.getD j (.junk,.junk)).1 m.key∧RelV g S.toks (es.getD j (.junk,.junk)).2 m.val:=by
      intro j hj
      obtain⟨m,a,b,c,_⟩:=h3 j hj
      exact⟨m,by simpa using a,b,c⟩
     rcases Lq (w:=w) hkt hvk hxs hka es ms.toList 0 (by simpa using h2) hrel r hr with ⟨f1,f2,rfl,_⟩|⟨j,m0,v,f1,f2,f3,f4,rfl,f6,_⟩
     ·have hf:=F3 hkt f1 f2
      refine Ai.still hI (v:=if ok then .tuple #[zu,.bool false] else zu) ?_ (res none zu false rfl hzr) hK
      cases ok<;>simp [execOp,ho,hρ,hku,Instr.lookup,run_underlying hu,MapKept.run_getObj_map h1,hck,hf,hzu]
     ·have hf:=F3 hkt f1 f2
      refine Ai.still hI (v:=if ok then .tuple #[m0.val,.bool true] else m0.val) ?_ (res (some v) m0.val true rfl f6) hK
      cases ok<;>simp [execOp,ho,hρ,hku,Instr.lookup,run_underlying hu,MapKept.run_getObj_map h1,hck,hf]
    ·exact hK.elim
   ·exact hK.elim
  ·exact hK.elim

theorem Q9 {t:TypeId} (ho:o.op=.makeMap t none) (hI:Inv g S w) (hK:K (.mp S.boxes.length) { S with boxes:=S.boxes++[.mp []] }):Ai P o ρ g S w K:=by
 have hm:=hI.push (.map #[] 0) (.mp []) g.κ (fun _ _=>rfl) ⟨#[],0,heap_alloc_new w _,rfl,fun j hj=>by simp at hj,by simp [maxLen],by simp⟩
 refine⟨.mp S.boxes.length,_,_,.map (some w.heap.size),_,.inl ?_,hK,.mp _ _ ?_,hm⟩
 ·simp [execOp,ho,Instr.makeMap,newObj]
  rfl
 ·simp only []
  rw [List.getElem?_append_right (by rw [hI.len];exact Nat.le_refl _),hI.len]
  simp

theorem Wn {t:TypeId} {m k x:Operand} {ka:Bool} {ks:List Nat} {z:V} (ho:o.op=.mapUpdate t m k x) (hm:mapOf P t=some (ka,ks,z)) (hI:Inv g S w) {vm vk vx:V} (hvm:RelV g S.toks vm (ρ m)) (hvk:RelV g S.toks vk (ρ k))
  (hvx:RelV g S.toks vx (ρ x)) (hK:T2 ka ks vm vk vx S K):Ai P o ρ g S w K:=by
 obtain⟨kt,e,hu,hkt,hz⟩:=Lr hm
 obtain⟨hka,hK⟩:=hK
 split at hK
 ·exact hK.elim
 ·rename_i xs hxs
  obtain⟨hl,hK⟩:=hK
  have hck:=fun em=>Nl (w:=w) hkt hvk hxs hka hl em
  obtain⟨ku,hku⟩ : ∃u,ρ k=u:=⟨_,rfl⟩
  rw [hku] at hck hvk
  obtain⟨xu,hxu⟩ : ∃u,ρ x=u:=⟨_,rfl⟩
  rw [hxu] at hvx
  split at hK
  ·rename_i b
   obtain⟨u,hρ⟩ : ∃u,ρ m=u:=⟨_,rfl⟩
   rw [hρ] at hvm
   cases hvm with
   | mp _ blk hβ=>
   split at hK
   ·rename_i es hes
    split at hK
    ·rename_i es' hes'
     obtain⟨hmax,hK⟩:=hK
     obtain⟨ms,cl,h1,h2,h3,h4,h5⟩:=hI.box b blk _ hβ hes
     have hrel : ∀j,j<es.length→∃m,ms.toList[j]?=some m∧RelV g S.toks (es.getD j (.junk,.junk)).1 m.key∧RelV g S.toks (es.getD j (.junk,.junk)).2 m.val:=by
      intro j hj
      obtain⟨m,a,b,c,_⟩:=h3 j hj
      exact⟨m,by simpa using a,b,c⟩
     have hfind : ∃r,Ez ka ks xs es=some r:=by
      have : ∀(es es':List (V×V)),Gk ka ks xs vk vx es=some es'→∃r,Ez ka ks xs es=some r:=by
       intro es
       induction es with
       | nil=>intro es' h;exact⟨none,rfl⟩
       | cons p es ih=>
        obtain⟨q,v⟩:=p
        intro es' h
        simp only [Gk,Ez] at h ⊢
        split at h
        ·exact⟨_,rfl⟩
        ·cases hs:Gk ka ks xs vk vx es with
         | none=>simp [hs] at h
         | some es2=>exact ih es2 hs
        ·cases h
      exact this es es' hes'
     obtain⟨r,hr⟩:=hfind
     have fin : ∀(ms':Array MapEntry) (cl':Nat),(Instr.mapUpdate t (.map (some blk)) ku xu).run P w=.ok () { w with heap:=w.heap.setIfInBounds blk (.map ms' cl') }→A3l g S.toks es' ms' cl'→Ai P o ρ g S w K:=by
      intro ms' cl' hrun hat
      have hset:=MapKept.heap_set (o':=Obj.map ms' cl') h1
      have hmv:=hI.put b blk (.mp es) (.mp es') hβ hes (fun h=>by cases h) (fun h=>by cases h) (.map ms' cl') { w with heap:=w.heap.setIfInBounds blk (.map ms' cl') }
       (fun k hk=>hset.2 k hk) (by simp) rfl rfl rfl ⟨ms',cl',hset.1,hat⟩
      exact⟨.und,_,g,undef,_,.inr ⟨by simp [execOp,ho,hρ,hku,hxu,hrun],rfl⟩,hK,.und,hmv⟩
     rcases Lq (w:=w) hkt hvk hxs hka es ms.toList 0 (by simpa using h2) hrel r hr with ⟨f1,f2,rfl,f4⟩|⟨j,m0,v,f1,f2,f3,f4,rfl,f6,f7,f8,f9⟩
     ·have hf:=F3 hkt f1 f2
      rw [f4] at hes'
      simp only [Option.some.injEq] at hes'
      subst hes'
      refine fin (ms.push ⟨ku,xu,cl⟩) (cl+1) (by simp [Instr.mapUpdate,run_underlying hu,MapKept.run_getObj_map h1,hck,hf,MapKept.run_setObj_map _ h1]) ⟨by simp [h2],fun j hj=>?_,by simp [h2] at hmax ⊢;exact hmax,?_⟩
      ·by_cases hjl:j<es.length
       ·obtain⟨m,a,b,c,d⟩:=h3 j hjl
        refine⟨m,by rw [Array.getElem?_push];split;omega;exact a,?_,?_,by omega⟩
        ·simpa [List.getD_eq_getElem?_getD,List.getElem?_append_left hjl] using b
        ·simpa [List.getD_eq_getElem?_getD,List.getElem?_append_left hjl] using c
       ·have hje:j=es.length:=by simp at hj;omega
        subst hje
        refine⟨⟨ku,xu,cl⟩,by rw [←h2];simp,?_,?_,by simp⟩
        ·simpa [List.getD_eq_getElem?_getD] using hvk
        ·simpa [List.getD_eq_getElem?_getD] using hvx
      ·simp only [Array.toList_push,List.map_append,List.map_cons,List.map_nil]
       refine List.pairwise_append.2 ⟨h5,by simp,?_⟩
       intro a ha b hb
       simp at hb
       subst hb
       obtain⟨m,hm,rfl⟩:=List.mem_map.1 ha
       obtain⟨i,hi⟩:=List.mem_iff_getElem?.1 hm
       have hil:i<es.length:=by rw [←h2];simpa using (List.getElem?_eq_some_iff.1 hi).1
       obtain⟨m',a',_,_,d⟩:=h3 i hil
       have:m'=m:=by rw [Array.getElem?_toList,a'] at hi;exact Option.some.inj hi
       subst this
       exact d
     ·have hf:=F3 hkt f1 f2
      rw [f9] at hes'
      simp only [Option.some.injEq] at hes'
      subst hes'
      have hmj:ms[j]?=some m0:=by simpa using f3
      have hjl:j<ms.size:=by omega
      refine fin (ms.modify j fun e=>{ e with key:=ku,val:=xu }) cl (by simp [Instr.mapUpdate,run_underlying hu,MapKept.run_getObj_map h1,hck,hf,hmj,Instr.keyThatStays,f8,MapKept.run_setObj_map _ h1]) ⟨by simp [h2],fun i hi=>?_,by simpa using h4,?_⟩
      ·have hil:i<es.length:=by simpa using hi
       obtain⟨m,a,b,c,d⟩:=h3 i hil
       by_cases hij:i=j
       ·subst hij
        refine⟨{ m with key:=ku,val:=xu },by simp [Array.getElem?_modify,a],?_,?_,d⟩
        ·simpa [List.getD_eq_getElem?_getD,hil] using hvk
        ·simpa [List.getD_eq_getElem?_getD,hil] using hvx
       ·refine⟨m,by rw [Array.getElem?_modify,if_neg (Ne.symm hij)];exact a,?_,?_,d⟩
        ·simpa [List.getD_eq_getElem?_getD,List.getElem?_set_ne (Ne.symm hij)] using b
        ·simpa [List.getD_eq_getElem?_getD,List.getElem?_set_ne (Ne.symm hij)] using c
      ·have:(ms.modify j fun e=>{ e with key:=ku,val:=xu }).toList.map (·.born)=ms.toList.map (·.born):=by
        rw [Array.toList_modify]
        apply List.ext_getElem?
        intro i
        simp only [List.getElem?_map,List.getElem?_modify]
        by_cases hij:j=i
        ·subst hij;cases ms.toList[j]?<;>simp
        ·simp [hij]
       rw [this]
       exact h5
    ·exact hK.elim
   ·exact hK.elim
  ·exact hK.elim

end
end E
end Go.Proofs.YtmlpmdccfmmpoaaGreatDoor
end

/- The engine, on slices that are written to: they lie in boxes that grow. -/
section
set_option linter.unusedSimpArgs false
set_option linter.unusedVariables false
namespace Go.Proofs.YtmlpmdccfmmpoaaGreatDoor
namespace E
section
variable {P:Program} {o:Oper} {ρ:Operand→Value} {g:Gh} {S:St} {w:World} {K:V→St→Prop}

theorem Inv.kill (h:Inv g S w) (b:Nat):Mv g S w g { S with boxes:=S.boxes.set b .dead } w:=by
 refine⟨⟨h.imm,by simp [h.len],?_,?_,?_,h.bwr,h.tlen,h.tok,h.tnil,h.tdis,h.lo,h.bold,h.lay,h.lsz⟩,Ext.refl _ _,Frm.refl _ _⟩
 ·intro i j blk hi hj hij
  have one : ∀(k:Nat),S.boxes[k]?=some .dead→(S.boxes.set b .dead)[k]?=some .dead:=by
   intro k hk
   by_cases hkb:k=b
   ·subst hkb;have:=(List.getElem?_eq_some_iff.1 hk).1;simp [this]
   ·rw [List.getElem?_set_ne (Ne.symm hkb)];exact hk
  exact (h.nodup i j blk hi hj hij).imp (one i) (one j)
 ·intro i blk bx hi hbx
  by_cases hib:i=b
  ·subst hib
   have hl:i<S.boxes.length:=by have:=(List.getElem?_eq_some_iff.1 hbx).1;simpa using this
   simp [hl] at hbx
   subst hbx
   trivial
  ·rw [List.getElem?_set_ne (Ne.symm hib)] at hbx
   exact h.box i blk bx hi hbx
 ·intro i blk bx hi hbx hd o
  by_cases hib:i=b
  ·subst hib
   have hl:i<S.boxes.length:=by have:=(List.getElem?_eq_some_iff.1 hbx).1;simpa using this
   simp [hl] at hbx
   exact absurd hbx.symm hd
  ·rw [List.getElem?_set_ne (Ne.symm hib)] at hbx
   exact h.sep i blk bx hi hbx hd o

theorem Inv.rename (h:Inv g S w) (b blk:Nat) (bx:Bx) (hβ:g.β[b]?=some blk) (hb:S.boxes[b]?=some bx) (hd:bx≠.dead) :
  Mv g S w { g with β:=g.β++[blk] } { S with boxes:=S.boxes.set b .dead++[bx] } w:=by
 have hbl:b<S.boxes.length:=(List.getElem?_eq_some_iff.1 hb).1
 have hext:Ext g S.toks { g with β:=g.β++[blk] } S.toks:=Ext.push g S.toks blk
 have hcase : ∀(i k:Nat),(g.β++[blk])[i]?=some k→(g.β[i]?=some k∧i<S.boxes.length)∨(i=S.boxes.length∧k=blk):=by
  intro i k hi
  rcases Nat.lt_or_ge i g.β.length with hlt|hge
  ·rw [List.getElem?_append_left hlt] at hi
   exact .inl ⟨hi,by rw [←h.len];exact hlt⟩
  ·rw [List.getElem?_append_right hge] at hi
   have:i-g.β.length=0:=by
    have:=(List.getElem?_eq_some_iff.1 hi).1
    simp at this
    omega
   rw [this] at hi
   simp at hi
   exact .inr ⟨by have:=h.len;omega,hi.symm⟩
 have hold : ∀(i:Nat),i<S.boxes.length→(S.boxes.set b .dead++[bx])[i]?=if i=b then some .dead else S.boxes[i]?:=by
  intro i hi
  rw [List.getElem?_append_left (by simpa using hi)]
  by_cases hib:i=b
  ·subst hib;simp [hi]
  ·rw [if_neg hib,List.getElem?_set_ne (Ne.symm hib)]
 have hnew:(S.boxes.set b .dead++[bx])[S.boxes.length]?=some bx:=by
  rw [List.getElem?_append_right (by simp)];simp
 have hdead : ∀i,i≠b→g.β[i]?=some blk→i<S.boxes.length→S.boxes[i]?=some .dead:=by
  intro i hib hi hil
  rcases h.nodup i b blk hi hβ hib with h1|h1
  ·exact h1
  ·rw [hb] at h1;cases h1;exact absurd rfl hd
 refine⟨⟨h.imm,by simp [h.len],?_,?_,?_,?_,h.tlen,?_,h.tnil,h.tdis,h.lo,?_,h.lay,h.lsz⟩,hext,Frm.refl _ _⟩
 ·intro i j k hi hj hij
  rcases hcase i k hi with ⟨i1,i2⟩|⟨rfl,rfl⟩
  ·rcases hcase j k hj with ⟨j1,j2⟩|⟨rfl,rfl⟩
   ·rw [hold i i2,hold j j2]
    by_cases hib:i=b
    ·left;rw [if_pos hib]
    ·by_cases hjb:j=b
     ·right;rw [if_pos hjb]
     ·rw [if_neg hib,if_neg hjb];exact h.nodup i j k i1 j1 hij
   ·left
    rw [hold i i2]
    by_cases hib:i=b
    ·rw [if_pos hib]
    ·rw [if_neg hib];exact hdead i hib i1 i2
  ·rcases hcase j k hj with ⟨j1,j2⟩|⟨rfl,_⟩
   ·right
    rw [hold j j2]
    by_cases hjb:j=b
    ·rw [if_pos hjb]
    ·rw [if_neg hjb];exact hdead j hjb j1 j2
   ·omega
 ·intro i k bx' hi hbx
  rcases hcase i k hi with ⟨i1,i2⟩|⟨rfl,rfl⟩
  ·rw [hold i i2] at hbx
   split at hbx
   ·cases hbx;trivial
   ·exact (h.box i k bx' i1 hbx).mono hext i1 rfl
  ·rw [hnew] at hbx
   cases hbx
   exact (h.box b k bx hβ hb).mono hext hβ rfl
 ·intro i k bx' hi hbx hdd o
  rcases hcase i k hi with ⟨i1,i2⟩|⟨rfl,rfl⟩
  ·rw [hold i i2] at hbx
   split at hbx
   ·cases hbx;exact absurd rfl hdd
   ·exact h.sep i k bx' i1 hbx hdd o
  ·exact h.sep b k bx hβ hb hd o
 ·intro i k hi
  rcases hcase i k hi with ⟨i1,i2⟩|⟨rfl,rfl⟩
  ·exact h.bwr i k i1
  ·exact h.bwr b k hβ
 ·intro k n blk' e z cap hk hn
  obtain⟨h1,h2,h3,h4⟩:=h.tok k n blk' e z cap hk hn
  refine⟨h1,h2,fun hm=>?_,h4⟩
  rcases List.mem_append.1 hm with hm|hm
  ·exact h3 hm
  ·simp at hm;exact h3 (hm▸List.mem_of_getElem? hβ)
 ·intro i k hi
  rcases hcase i k hi with ⟨i1,i2⟩|⟨rfl,rfl⟩
  ·exact h.bold i k i1
  ·exact h.bold b k hβ

theorem Iq {I:Nat→Nat→Option Value} {sz:Nat} (hsz:0<sz) {new:List (List T)} {news:List Value} (hn : ∀y∈new,y.length=sz)
  (hr : ∀i j,i<new.length→j<sz→RelT I ((new.getD i []).getD j .nilp) (news.getD (i*sz+j) undef)) : ∀q,q<new.length*sz→RelT I (new.flatten.getD q .nilp) (news.getD q undef):=by
 intro q hq
 have h1:q / sz<new.length:=(Nat.div_lt_iff_lt_mul hsz).2 hq
 have h2:q % sz<sz:=Nat.mod_lt _ hsz
 have h3:q / sz*sz+q % sz=q:=by rw [Nat.mul_comm];exact Nat.div_add_mod q sz
 have h4:=hr _ _ h1 h2
 have h5:=Yi (es:=new) (z:=sz) (fun i hi=>hn _ (by simp [List.getD_eq_getElem?_getD,hi])) (q / sz) (q % sz) h1 h2
 rw [h3] at h4 h5
 unfold flat at h5
 rw [h5]
 exact h4

theorem Hw (l:List T) (q:Nat) (h:q<l.length):(l.map V.t).getD q .junk=.t (l.getD q .nilp):=by
 simp [List.getD_eq_getElem?_getD,h]

theorem Om (hI:Inv g S w) (e:TypeId) (sz n cap:Nat) (hsz0:0<sz) (cells:Array Value) (cs:List V) (hcs:cells.size=cap*sz) (hn:n≤cap) (hm:cap≤maxLen) (hl:cs.length≤cells.size)
  (hr : ∀j,j<cs.length→RelV g S.toks (cs.getD j .junk) (cells.getD j undef)) :
  ∃g',RelV g' S.toks (.bw S.boxes.length n) (.slice (some ⟨w.heap.size,0,none⟩) n cap)∧Mv g S w g' { S with boxes:=S.boxes++[.buf e sz cs] } (w.alloc (.cells cells e)):=by
 have hext:Ext g S.toks { g with β:=g.β++[w.heap.size],κ:=fun b=>if b=w.heap.size then cap else g.κ b } S.toks:=
  ⟨fun _ _ _ h=>h,fun i x hx=>by
   have:=(List.getElem?_eq_some_iff.1 hx).1
   simp only [List.getElem?_append_left this]
   exact hx,fun _ n h=>⟨n,h,Nat.le_refl _,fun _=>rfl⟩,rfl,rfl,fun _ _ _ h=>.inl h,fun i x hx=>by have:=hI.bold i x hx;simp only [];rw [if_neg (by omega)]⟩
 have hmv:=hI.push (.cells cells e) (.buf e sz cs) (fun b=>if b=w.heap.size then cap else g.κ b) (fun b hb=>by rw [if_neg (by omega)])
  ⟨cells,heap_alloc_new w _,by simp [hcs],⟨hl,fun h0=>by omega⟩,fun j hj=>(hr j hj).mono hext⟩
 refine⟨_,.bw _ _ w.heap.size cap ?_ hn (by simp) hm,hmv⟩
 simp only []
 rw [List.getElem?_append_right (by rw [hI.len];exact Nat.le_refl _),hI.len]
 simp

theorem Wo {t e:TypeId} {j:TypeInfo} {z:Value} {zv:V} {x y:Operand} (ho:o.op=.makeSlice t x y) (hu:P.underlying t=some (.slice e)) (hj:P.info? e=some j) (hz:j.zero=some z) (hzv:constV z=some zv)
  (hsz:0<j.size) (hzs:z.cells.size=j.size) (hzl:(cellsV zv).length=j.size) (hI:Inv g S w) {vx vy:V} (hvx:RelV g S.toks vx (ρ x)) (hvy:RelV g S.toks vy (ρ y)) (hK:Pu e j.size j.bytes (cellsV zv) vx vy S K):Ai P o ρ g S w K:=by
 unfold Pu at hK
 split at hK
 ·rename_i k1 l k2 c
  obtain⟨⟨h0,h1,h2,h3⟩,hK⟩:=hK
  obtain⟨ux,hρx⟩ : ∃u,ρ x=u:=⟨_,rfl⟩
  obtain⟨uy,hρy⟩ : ∃u,ρ y=u:=⟨_,rfl⟩
  rw [hρx] at hvx
  rw [hρy] at hvy
  cases hvx with
  | t _ _ hh1=>cases hh1 with
  | int=>cases hvy with
   | t _ _ hh2=>cases hh2 with
   | int=>
   have hmx:(maxLen:Int)=9223372036854775807:=by decide
   have hlw:IntKind.i64.wrap l=l:=IntWalk.i64_in _ ⟨by omega,by omega⟩
   have hcw:IntKind.i64.wrap c=c:=IntWalk.i64_in _ ⟨by omega,by omega⟩
   have hcb:(c.toNat*j.bytes:Nat)≤140737488355328:=by
    have:((c.toNat*j.bytes:Nat):Int)=c*j.bytes:=by rw [Int.natCast_mul,Int.toNat_of_nonneg (by omega)]
    omega
   have hcc : ¬(2 ^ 48<(j.bytes:Int)*c):=by rw [Int.mul_comm];omega
   have hroom : ¬(c.toNat*j.bytes>roomBytes):=by simp [roomBytes];omega
   have hrun:(execOp ρ o).run P w=.ok (.value (.slice (some ⟨w.heap.size,0,none⟩) l.toNat c.toNat)) (w.alloc (.cells ((Array.range (c.toNat*j.size)).map fun q=>(z.cells)[q % z.cells.size]!) e)):=by
    have:=run_make (P:=P) w t e j z hu hj hz k1 k2 l c h0 h1 (by rw [Int.mul_comm];omega) (by omega)
    simp [execOp,ho,hρx,hρy,this,madeCells]
   have hcells:((Array.range (c.toNat*j.size)).map fun q=>(z.cells)[q % z.cells.size]!).size=c.toNat*j.size:=by simp
   have hflat : ∀(n:Nat),(List.replicate n (cellsV zv)).flatten.length=n*j.size:=by
    intro n;simp [hzl]
   have hcv:isAggV zv=true∨cellB zv=true:=by
    unfold constV at hzv
    split at hzv
    ·rename_i cs
     cases hx:constVs cs.toList with
     | none=>simp [hx] at hzv
     | some xs=>simp [hx] at hzv;subst hzv;exact .inl rfl
    ·unfold constV1 at hzv
     split at hzv<;>simp at hzv<;>subst hzv<;>exact .inr rfl
   have hzrel:=Ba (Cu (g:=g) (tk:=S.toks) hzv) hcv
   obtain⟨g',hr,hmv⟩:=Om hI e j.size l.toNat c.toNat hsz _ (List.replicate l.toNat (cellsV zv)).flatten hcells (by omega) (by omega)
    (by rw [hflat,hcells];exact Nat.mul_le_mul_right _ (by omega)) (fun q hq=>by
     rw [hflat] at hq
     have hq':q<c.toNat*j.size:=Nat.lt_of_lt_of_le hq (Nat.mul_le_mul_right _ (by omega))
     have h5:(List.replicate l.toNat (cellsV zv)).flatten.getD q .junk=(cellsV zv).getD (q % j.size) .junk:=by
      have gen : ∀(n q:Nat),q<n*j.size→(List.replicate n (cellsV zv)).flatten.getD q .junk=(cellsV zv).getD (q % j.size) .junk:=by
       intro n
       induction n with
       | zero=>intro q hq;simp at hq
       | succ n ih=>
        intro q hq
        rw [List.replicate_succ,List.flatten_cons]
        by_cases hlt:q<j.size
        ·simp only [List.getD_eq_getElem?_getD]
         rw [List.getElem?_append_left (by omega),Nat.mod_eq_of_lt hlt]
        ·have hq2:q-j.size<n*j.size:=by rw [Nat.succ_mul] at hq;omega
         have:=ih (q-j.size) hq2
         simp only [List.getD_eq_getElem?_getD] at this ⊢
         rw [List.getElem?_append_right (by omega),hzl,this,Nat.mod_eq_sub_mod (a:=q) (by omega)]
      exact gen _ q hq
     rw [h5]
     have h6:=hzrel.2 (q % j.size) (by rw [hzl];exact Nat.mod_lt _ hsz)
     have h7:((Array.range (c.toNat*j.size)).map fun q=>(z.cells)[q % z.cells.size]!).getD q undef=z.cells.getD (q % j.size) undef:=by
      have:q % j.size<z.cells.size:=by rw [hzs];exact Nat.mod_lt _ hsz
      rw [hzs]
      simp [hq',this]
     rw [h7]
     exact h6)
   exact⟨_,_,_,_,_,.inl hrun,hK,hr,hmv⟩
 ·exact hK.elim

theorem Th {c:Call} {t e:TypeId} {j:TypeInfo} {z:Value} {x y:Operand} (ho:o.op=.call c) (hc:c.callee=.builtin .append) (ht:c.argTypes.toList=[t,t]) (hxy:c.args.toList=[x,y]) (hu:P.underlying t=some (.slice e))
  (hj:P.info? e=some j) (hz:j.zero=some z) (hsz:0<j.size) (hzs:z.cells.size=j.size) (hI:Inv g S w) {vs:V} (hvs:RelV g S.toks vs (ρ x)) {cnt:Nat} {nv:List V} (hnv:nv.length=cnt*j.size)
  {sa:Addr} {cc:Nat} {news:List Value} (hy:ρ y=.slice (some sa) cnt cc) (hnl2:news.length=cnt*j.size) (hcell : ∀(q:Nat) (u:Value),news[q]?=some u→w.cell? (sa.add q)=some u) (hone : ∀u∈news,u.oneCell'=true)
  (hnr : ∀q,q<cnt*j.size→RelV g S.toks (nv.getD q .junk) (news.getD q undef)) (hK:K2 e j.size j.bytes vs cnt nv S K):Ai P o ρ g S w K:=by
 unfold K2 at hK
 have hml:maxLen=9223372036854775807:=by decide
 -- a new block: the old cells (as trees of the box), the new ones
 have mk : ∀(S1:St) (hm1:Mv g S w g S1 w) (cs:List V) (xs news:List Value) (n old:Nat),S1.boxes.length=S.boxes.length→S1.toks=S.toks→cs.length=n*j.size→xs.length=n*j.size→
   (∀q,q<n*j.size→RelV g S.toks (cs.getD q .junk) (xs.getD q undef))→
   news.length=cnt*j.size→(∀q,q<cnt*j.size→RelV g S.toks (nv.getD q .junk) (news.getD q undef))→
   n+cnt≤maxLen→
   (execOp ρ o).run P w=.ok (.value (.slice (some ⟨w.heap.size,0,none⟩) (n+cnt) (grownCap w (n+cnt) old e)))
    (w.drew.alloc (.cells (xs.toArray++news.toArray++Builtin.zeroCells z.cells (grownCap w (n+cnt) old e-(n+cnt))) e))→
   K (.bw S.boxes.length (n+cnt)) { S1 with boxes:=S1.boxes++[.buf e j.size (cs++nv)] }→Ai P o ρ g S w K:=by
  intro S1 hm1 cs xs news n old hbl htk hcl hxl hxr hnl hnr hmax hrun hKK
  have hge:=grownCap_ge w (n+cnt) old e
  have hle:=grownCap_le_maxLen w (n+cnt) old e hmax
  have hcells:(xs.toArray++news.toArray++Builtin.zeroCells z.cells (grownCap w (n+cnt) old e-(n+cnt))).size=grownCap w (n+cnt) old e*j.size:=by
   simp only [Array.size_append,List.size_toArray,size_zeroCells,hzs,hxl,hnl,←Nat.add_mul]
   congr 1
   omega
  have hfl:=hnv
  have hm2:=hm1.inv
  have hm3:Inv g S1 w.drew:=hm2.drew
  have hlen:(cs++nv).length=(n+cnt)*j.size:=by rw [List.length_append,hcl,hfl,Nat.add_mul]
  obtain⟨g',hr,hmv⟩:=Om hm3 e j.size (n+cnt) (grownCap w (n+cnt) old e) hsz _ (cs++nv) hcells hge hle (by rw [hcells,hlen];exact Nat.mul_le_mul_right _ hge) (fun q hq=>by
   rw [hlen] at hq
   rw [htk]
   rcases Nat.lt_or_ge q (n*j.size) with h|h
   ·have h1:(cs++nv).getD q .junk=cs.getD q .junk:=by
     simp only [List.getD_eq_getElem?_getD];rw [List.getElem?_append_left (by omega)]
    have h2:(xs.toArray++news.toArray++Builtin.zeroCells z.cells (grownCap w (n+cnt) old e-(n+cnt))).getD q undef=xs.getD q undef:=by
     rw [Array.getD_eq_getD_getElem?,Array.getElem?_append_left (by simp;omega),Array.getElem?_append_left (by simp;omega)];simp [List.getD_eq_getElem?_getD]
    rw [h1,h2]
    exact hxr q h
   ·have hq2:q-n*j.size<cnt*j.size:=by rw [Nat.add_mul] at hq;omega
    have h1:(cs++nv).getD q .junk=nv.getD (q-n*j.size) .junk:=by
     simp only [List.getD_eq_getElem?_getD];rw [List.getElem?_append_right (by omega),hcl]
    have h2:(xs.toArray++news.toArray++Builtin.zeroCells z.cells (grownCap w (n+cnt) old e-(n+cnt))).getD q undef=news.getD (q-n*j.size) undef:=by
     rw [Array.getD_eq_getD_getElem?,Array.getElem?_append_left (by simp;rw [hxl,hnl,←Nat.add_mul];exact hq),Array.getElem?_append_right (by simp;omega)]
     simp [List.getD_eq_getElem?_getD,hxl]
    rw [h1,h2]
    exact hnr _ hq2)
  rw [hbl,htk] at hr
  exact⟨_,_,g',_,_,.inl hrun,hKK,by rw [←htk] at hr;exact hr,hm1.trans ((Mv.drew hm2).trans hmv)⟩
 cases vs with
 | snil=>
  simp only [] at hK
  obtain⟨⟨hpos,hm,hb⟩,hK⟩:=hK
  have hρ:ρ x=.slice none 0 0:=by generalize ρ x=u at hvs;cases hvs;rfl
  have hr:=run_append_nil (P:=P) w t o.type e j z hu hj hz sa cnt cc news hnl2 hcell hpos (by omega) (by omega)
  refine mk S (Mv.refl hI) [] [] news 0 0 rfl rfl (by simp) (by simp) (fun q hq=>by simp at hq) hnl2 hnr (by omega) (Ao ho hc ht hxy ?_) (by simpa using hK)
  rw [hρ,hy]
  simpa using hr
 | bw b n=>
  simp only [] at hK
  split at hK
  ·rename_i e' z' cs hbx
   obtain⟨⟨rfl,rfl,hnl,hm,hb⟩,hK⟩:=hK
   obtain⟨u,hρ⟩ : ∃u,ρ x=u:=⟨_,rfl⟩
   rw [hρ] at hvs
   cases hvs with
   | bw _ _ blk cap hβ hncap hk hcm=>
   obtain⟨cur,c1,c2,c3,c4⟩:=hI.box b blk _ hβ hbx
   have hbl:b<S.boxes.length:=(List.getElem?_eq_some_iff.1 hbx).1
   have hcapsz:cap*j.size≤cur.size:=Nat.le_trans (Nat.mul_le_mul_right _ hk) c2
   -- the cells that are there
   have hxl:(cur.toList.take (n*j.size)).length=n*j.size:=by
    have:n*j.size≤cap*j.size:=Nat.mul_le_mul_right _ hncap
    simp;omega
   have htl:(cs.take (n*j.size)).length=n*j.size:=by simp;omega
   have hxr : ∀q,q<n*j.size→RelV g S.toks ((cs.take (n*j.size)).getD q .junk) ((cur.toList.take (n*j.size)).getD q undef):=by
    intro q hq
    have h1:(cs.take (n*j.size)).getD q .junk=cs.getD q .junk:=by simp [List.getD_eq_getElem?_getD,List.getElem?_take,hq]
    have h2:(cur.toList.take (n*j.size)).getD q undef=cur.getD q undef:=by simp [List.getD_eq_getElem?_getD,List.getElem?_take,hq]
    rw [h1,h2]
    exact c4 q (by omega)
   have hxc : ∀(q:Nat) (v:Value),(cur.toList.take (n*j.size))[q]?=some v→w.cell? ((⟨blk,0,none⟩:Addr).add q)=some v:=by
    intro q v hv
    rw [Addr.add_lit,Nat.zero_add,cell_of_row w blk q cur e' _ c1]
    rw [List.getElem?_take] at hv
    split at hv
    ·simpa using hv
    ·cases hv
   -- in place: whatever the new cells are
   have place : ∀(news:List Value) (w':World),news.length=cnt*j.size→(∀q,q<cnt*j.size→RelV g S.toks (nv.getD q .junk) (news.getD q undef))→n+cnt≤cap→
     w'=w.setRow blk (cur.toList.take (n*j.size)++news++cur.toList.drop (n*j.size+news.length)).toArray→
     (execOp ρ o).run P w=.ok (.value (.slice (some ⟨blk,0,none⟩) (n+cnt) cap)) w'→Ai P o ρ g S w K:=by
    intro news w' hnwl hnr hroom hw' hrun
    have hfl:=hnv
    have hfit:n*j.size+news.length≤cur.size:=by
     rw [hnwl,←Nat.add_mul];exact Nat.le_trans (Nat.mul_le_mul_right _ hroom) hcapsz
    have hsz2:(cur.toList.take (n*j.size)++news++cur.toList.drop (n*j.size+news.length)).length=cur.size:=by simp;omega
    have hlen:(cs.take (n*j.size)++nv).length=(n+cnt)*j.size:=by rw [List.length_append,htl,hfl,Nat.add_mul]
    have hmv:=hI.put b blk (.buf e' j.size cs) (.buf e' j.size (cs.take (n*j.size)++nv)) hβ hbx (fun h=>by cases h) (fun h=>by cases h) (.cells #[] e')
     w' (fun k hk=>by rw [hw'];exact setRow_other w blk k _ hk) (by rw [hw'];simp) (by rw [hw'];rfl) (by rw [hw'];rfl) (by rw [hw'];rfl)
     ⟨_,by rw [hw'];exact setRow_heap w blk cur _ e' _ c1,by rw [List.size_toArray,hsz2];exact c2,⟨by rw [List.size_toArray,hsz2,hlen];exact Nat.le_trans (Nat.mul_le_mul_right _ hroom) hcapsz,fun h0=>by omega⟩,fun q hq=>by
      rw [hlen] at hq
      have hget:=C0 cur.toList (n*j.size) news undef (by simpa using hfit) q
      have e1:((cur.toList.take (n*j.size)++news++cur.toList.drop (n*j.size+news.length)).toArray).getD q undef=(cur.toList.take (n*j.size)++news++cur.toList.drop (n*j.size+news.length)).getD q undef:=by
       simp [List.getD_eq_getElem?_getD,Array.getD_eq_getD_getElem?]
      rw [e1,hget]
      rcases Nat.lt_or_ge q (n*j.size) with h|h
      ·rw [if_neg (by omega)]
       have h1:(cs.take (n*j.size)++nv).getD q .junk=cs.getD q .junk:=by
        simp only [List.getD_eq_getElem?_getD];rw [List.getElem?_append_left (by omega),List.getElem?_take,if_pos h]
       rw [h1]
       have:=c4 q (by omega)
       simpa [List.getD_eq_getElem?_getD,Array.getD_eq_getD_getElem?] using this
      ·have hq2:q-n*j.size<cnt*j.size:=by rw [Nat.add_mul] at hq;omega
       rw [if_pos (by rw [Nat.add_mul] at hq;omega)]
       have h1:(cs.take (n*j.size)++nv).getD q .junk=nv.getD (q-n*j.size) .junk:=by
        simp only [List.getD_eq_getElem?_getD];rw [List.getElem?_append_right (by omega),htl]
       rw [h1]
       exact hnr _ hq2⟩
    have hbn:(S.boxes.set b (.buf e' j.size (cs.take (n*j.size)++nv)))[b]?=some (.buf e' j.size (cs.take (n*j.size)++nv)):=by simp [hbl]
    have hmv2:=hmv.inv.rename b blk _ hβ hbn (fun h=>by cases h)
    have hbe:(S.boxes.set b (.buf e' j.size (cs.take (n*j.size)++nv))).set b .dead=S.boxes.set b .dead:=by simp
    simp only [hbe] at hmv2
    refine⟨_,_,_,_,_,.inl hrun,hK,?_,hmv.trans hmv2⟩
    refine .bw _ _ blk cap ?_ hroom hk hcm
    simp only []
    rw [List.getElem?_append_right (by rw [hI.len];exact Nat.le_refl _),hI.len]
    simp
   by_cases hroom:n+cnt≤cap
   ·have hfit:n*j.size+news.length≤cur.size:=by rw [hnl2,←Nat.add_mul];exact Nat.le_trans (Nat.mul_le_mul_right _ hroom) hcapsz
    have hr:=run_append_room (P:=P) w t o.type e' j hu hj blk n cap cur c1 sa cnt cc news hnl2 hcell hone hroom hfit
    exact place news _ hnl2 hnr hroom rfl (Ao ho hc ht hxy (by rw [hρ,hy];exact hr))
   ·have hlt:cap<n+cnt:=by omega
    have hr:=run_append_grow (P:=P) w t o.type e' j z hu hj hz ⟨blk,0,none⟩ n cap (cur.toList.take (n*j.size)) hxl hxc sa cnt cc news hnl2 hcell hlt (by omega) (growslice_fits hlt hb)
    exact mk { S with boxes:=S.boxes.set b .dead } (hI.kill b) (cs.take (n*j.size)) (cur.toList.take (n*j.size)) news n cap (by simp) rfl htl hxl hxr hnl2 hnr hm (Ao ho hc ht hxy (by rw [hρ,hy];exact hr)) hK
  ·exact hK.elim
 | _=>simp at hK

theorem Ti {c:Call} {t e:TypeId} {j:TypeInfo} {z:Value} {x y:Operand} (ho:o.op=.call c) (hc:c.callee=.builtin .append) (ht:c.argTypes.toList=[t,t]) (hxy:c.args.toList=[x,y]) (hu:P.underlying t=some (.slice e))
  (hj:P.info? e=some j) (hz:j.zero=some z) (hsz:0<j.size) (hzs:z.cells.size=j.size) (hI:Inv g S w) {vs vx:V} (hvs:RelV g S.toks vs (ρ x)) (hvx:RelV g S.toks vx (ρ y)) (hK:K3 e j.size j.bytes vs vx S K):Ai P o ρ g S w K:=by
 unfold K3 at hK
 cases vx with
 | bw b n=>
  simp only [] at hK
  split at hK
  ·rename_i e' z' cs hbx
   obtain⟨⟨rfl,hnl,hall⟩,hK⟩:=hK
   obtain⟨u,hρ⟩ : ∃u,ρ y=u:=⟨_,rfl⟩
   rw [hρ] at hvx
   cases hvx with
   | bw _ _ blk cap hβ hncap hk hcm=>
   obtain⟨cur,c1,c2,c3,c4⟩:=hI.box b blk _ hβ hbx
   have hcapsz:cap*j.size≤cur.size:=Nat.le_trans (Nat.mul_le_mul_right _ hk) c2
   have hxl:(cur.toList.take (n*j.size)).length=n*j.size:=by
    have:n*j.size≤cap*j.size:=Nat.mul_le_mul_right _ hncap
    simp;omega
   have htl:(cs.take (n*j.size)).length=n*j.size:=by simp;omega
   have hxr : ∀q,q<n*j.size→RelV g S.toks ((cs.take (n*j.size)).getD q .junk) ((cur.toList.take (n*j.size)).getD q undef):=by
    intro q hq
    have h1:(cs.take (n*j.size)).getD q .junk=cs.getD q .junk:=by simp [List.getD_eq_getElem?_getD,List.getElem?_take,hq]
    have h2:(cur.toList.take (n*j.size)).getD q undef=cur.getD q undef:=by simp [List.getD_eq_getElem?_getD,List.getElem?_take,hq]
    rw [h1,h2]
    exact c4 q (by omega)
   refine Th ho hc ht hxy hu hj hz hsz hzs hI hvs htl hρ hxl (fun q v hv=>?_) (fun v hv=>?_) hxr hK
   ·rw [Addr.add_lit,Nat.zero_add,cell_of_row w blk q cur e' _ c1]
    rw [List.getElem?_take] at hv
    split at hv
    ·simpa using hv
    ·cases hv
   ·obtain⟨q,hq⟩:=List.mem_iff_getElem?.1 hv
    have hql:q<n*j.size:=by rw [←hxl];exact (List.getElem?_eq_some_iff.1 hq).1
    have h1:=hxr q hql
    rw [List.getD_eq_getElem?_getD (l:=cur.toList.take (n*j.size)),hq] at h1
    refine Hu h1 ?_
    rw [List.all_eq_true] at hall
    exact hall _ (by rw [List.getD_eq_getElem?_getD,List.getElem?_eq_getElem (by rw [htl];exact hql)];exact List.getElem_mem _)
  ·exact hK.elim
 | _=>simp at hK

theorem Tj {c:Call} {t e:TypeId} {j:TypeInfo} {z:Value} {x y:Operand} (ho:o.op=.call c) (hc:c.callee=.builtin .append) (ht:c.argTypes.toList=[t,t]) (hxy:c.args.toList=[x,y]) (hu:P.underlying t=some (.slice e))
  (hj:P.info? e=some j) (hz:j.zero=some z) (hsz:0<j.size) (hzs:z.cells.size=j.size) (hI:Inv g S w) {vs vx:V} (hvs:RelV g S.toks vs (ρ x)) (hvx:RelV g S.toks vx (ρ y)) (hK:K4 e j.size j.bytes vs vx S K):Ai P o ρ g S w K:=by
 unfold K4 at hK
 split at hK
 ·exact Ti ho hc ht hxy hu hj hz hsz hzs hI hvs hvx hK
 ·rename_i new hsrc
  obtain⟨hnew,hK⟩:=hK
  have hsrc':=Lo hsz hI hvx hsrc hnew
  have hml:maxLen=9223372036854775807:=by decide
  -- a new block: the old cells (as trees of the box), the new ones
  have mk : ∀(S1:St) (hm1:Mv g S w g S1 w) (cs:List V) (xs news:List Value) (n old:Nat),S1.boxes.length=S.boxes.length→S1.toks=S.toks→cs.length=n*j.size→xs.length=n*j.size→
    (∀q,q<n*j.size→RelV g S.toks (cs.getD q .junk) (xs.getD q undef))→
    news.length=new.length*j.size→(∀q,q<new.length*j.size→RelT g.I (new.flatten.getD q .nilp) (news.getD q undef))→
    n+new.length≤maxLen→
    (execOp ρ o).run P w=.ok (.value (.slice (some ⟨w.heap.size,0,none⟩) (n+new.length) (grownCap w (n+new.length) old e)))
     (w.drew.alloc (.cells (xs.toArray++news.toArray++Builtin.zeroCells z.cells (grownCap w (n+new.length) old e-(n+new.length))) e))→
    K (.bw S.boxes.length (n+new.length)) { S1 with boxes:=S1.boxes++[.buf e j.size (cs++new.flatten.map .t)] }→Ai P o ρ g S w K:=by
   intro S1 hm1 cs xs news n old hbl htk hcl hxl hxr hnl hnr hmax hrun hKK
   have hge:=grownCap_ge w (n+new.length) old e
   have hle:=grownCap_le_maxLen w (n+new.length) old e hmax
   have hcells:(xs.toArray++news.toArray++Builtin.zeroCells z.cells (grownCap w (n+new.length) old e-(n+new.length))).size=grownCap w (n+new.length) old e*j.size:=by
    simp only [Array.size_append,List.size_toArray,size_zeroCells,hzs,hxl,hnl,←Nat.add_mul]
    congr 1
    omega
   have hfl:new.flatten.length=new.length*j.size:=Gp hnew
   have hm2:=hm1.inv
   have hm3:Inv g S1 w.drew:=hm2.drew
   have hlen:(cs++new.flatten.map V.t).length=(n+new.length)*j.size:=by rw [List.length_append,List.length_map,hcl,hfl,Nat.add_mul]
   obtain⟨g',hr,hmv⟩:=Om hm3 e j.size (n+new.length) (grownCap w (n+new.length) old e) hsz _ (cs++new.flatten.map .t) hcells hge hle (by rw [hcells,hlen];exact Nat.mul_le_mul_right _ hge) (fun q hq=>by
    rw [hlen] at hq
    rw [htk]
    rcases Nat.lt_or_ge q (n*j.size) with h|h
    ·have h1:(cs++new.flatten.map V.t).getD q .junk=cs.getD q .junk:=by
      simp only [List.getD_eq_getElem?_getD];rw [List.getElem?_append_left (by omega)]
     have h2:(xs.toArray++news.toArray++Builtin.zeroCells z.cells (grownCap w (n+new.length) old e-(n+new.length))).getD q undef=xs.getD q undef:=by
      rw [Array.getD_eq_getD_getElem?,Array.getElem?_append_left (by simp;omega),Array.getElem?_append_left (by simp;omega)];simp [List.getD_eq_getElem?_getD]
     rw [h1,h2]
     exact hxr q h
    ·have hq2:q-n*j.size<new.length*j.size:=by rw [Nat.add_mul] at hq;omega
     have h1:(cs++new.flatten.map V.t).getD q .junk=.t (new.flatten.getD (q-n*j.size) .nilp):=by
      rw [←Hw _ _ (by rw [hfl];exact hq2)]
      simp only [List.getD_eq_getElem?_getD];rw [List.getElem?_append_right (by omega),hcl]
     have h2:(xs.toArray++news.toArray++Builtin.zeroCells z.cells (grownCap w (n+new.length) old e-(n+new.length))).getD q undef=news.getD (q-n*j.size) undef:=by
      rw [Array.getD_eq_getD_getElem?,Array.getElem?_append_left (by simp;rw [hxl,hnl,←Nat.add_mul];exact hq),Array.getElem?_append_right (by simp;omega)]
      simp [List.getD_eq_getElem?_getD,hxl]
     rw [h1,h2]
     exact .t _ _ (hnr _ hq2))
   rw [hbl,htk] at hr
   exact⟨_,_,g',_,_,.inl hrun,hKK,by rw [←htk] at hr;exact hr,hm1.trans ((Mv.drew hm2).trans hmv)⟩
  cases vs with
  | snil=>
   simp only [] at hK
   obtain⟨⟨hne,hm,hb⟩,hK⟩:=hK
   have hρ:ρ x=.slice none 0 0:=by generalize ρ x=u at hvs;cases hvs;rfl
   have hpos:0<new.length:=List.length_pos_iff.2 hne
   rcases hsrc' with ⟨hy,hn0⟩|⟨sa,cc,news,hy,hnl,hcell,hrel,hone⟩
   ·exact absurd hn0 hne
   ·have hr:=run_append_nil (P:=P) w t o.type e j z hu hj hz sa new.length cc news hnl hcell hpos (by omega) (by omega)
    refine mk S (Mv.refl hI) [] [] news 0 0 rfl rfl (by simp) (by simp) (fun q hq=>by simp at hq) hnl (Iq hsz hnew hrel) (by omega) (Ao ho hc ht hxy ?_) (by simpa using hK)
    rw [hρ,hy]
    simpa using hr
  | full es=>
   simp only [] at hK
   obtain⟨⟨hne,hes,hm,hb⟩,hK⟩:=hK
   have hpos:0<new.length:=List.length_pos_iff.2 hne
   rcases hsrc' with ⟨hy,hn0⟩|⟨sa,cc,news,hy,hnl,hcell,hrel,hone⟩
   ·exact absurd hn0 hne
   ·have hfe:es.flatten.length=es.length*j.size:=Gp hes
    have key : ∀(xs:List Value),xs.length=es.length*j.size→(∀i k,i<es.length→k<j.size→RelT g.I ((es.getD i []).getD k .nilp) (xs.getD (i*j.size+k) undef))→
      (Builtin.append_ #[t,t] o.type #[ρ x,ρ y]).run P w=.ok (.slice (some ⟨w.heap.size,0,none⟩) (es.length+new.length) (grownCap w (es.length+new.length) es.length e))
       (w.drew.alloc (.cells (xs.toArray++news.toArray++Builtin.zeroCells z.cells (grownCap w (es.length+new.length) es.length e-(es.length+new.length))) e))→Ai P o ρ g S w K:=by
     intro xs hxl hx hr
     have hxr:=Iq hsz hes hx
     refine mk S (Mv.refl hI) (es.flatten.map .t) xs news es.length es.length rfl rfl (by rw [List.length_map];exact hfe) hxl (fun q hq=>by rw [Hw _ _ (by rw [hfe];exact hq)];exact .t _ _ (hxr q hq)) hnl (Iq hsz hnew hrel) hm
      (Ao ho hc ht hxy hr) (by simpa using hK)
    obtain⟨u,hρ⟩ : ∃u,ρ x=u:=⟨_,rfl⟩
    rw [hρ] at hvs
    cases hvs with
    | full _ a h=>
     cases h with
     | slnil=>
      have hr:=run_append_nil (P:=P) w t o.type e j z hu hj hz sa new.length cc news hnl hcell hpos (by simp at hm;omega) (by simp at hb;omega)
      exact key [] (by simp) (fun i k hi=>by simp at hi) (by rw [hρ,hy];simpa using hr)
     | slz a2 _ hm2=>
      have hr:=run_append_grow (P:=P) w t o.type e j z hu hj hz a2 0 0 [] (by simp) (by simp) sa new.length cc news hnl hcell (by omega) (by simp at hm ⊢;omega) (growslice_fits (by omega) (by simpa using hb))
      exact key [] (by simp) (fun i k hi=>by simp at hi) (by rw [hρ,hy];simpa using hr)
     | sl _ b2 off2 _ z2 c2 hz2 hc2 hm2 hI2 hr2=>
      by_cases h0:es=[]
      ·subst h0
       have hr:=run_append_grow (P:=P) w t o.type e j z hu hj hz ⟨b2,off2,none⟩ 0 0 [] (by simp) (by simp) sa new.length cc news hnl hcell (by omega) (by simp at hm ⊢;omega) (growslice_fits (by omega) (by simpa using hb))
       exact key [] (by simp) (fun i k hi=>by simp at hi) (by rw [hρ,hy];simpa using hr)
      ·have hp:0<es.length:=List.length_pos_iff.2 h0
       have hzz:z2=j.size:=by
        rw [←hz2 0 hp];exact hes _ (by simp [List.getD_eq_getElem?_getD,hp])
       subst hzz
       obtain⟨xs,n1,n2,n3,n4⟩:=RelT.flat hes hI2 hr2
       have hr:=run_append_grow (P:=P) w t o.type e j z hu hj hz ⟨b2,off2,none⟩ es.length es.length xs n1 (fun k u hu=>by rw [Addr.add_lit];exact hI.imm _ _ _ (n2 k u hu)) sa new.length cc news hnl hcell (by omega) (by omega) (growslice_fits (by omega) hb)
       exact key xs n1 n3 (by rw [hρ,hy];exact hr)
  | bw b n=>
   simp only [] at hK
   split at hK
   ·rename_i e' z' cs hbx
    obtain⟨⟨rfl,rfl,hnl,hm,hb⟩,hK⟩:=hK
    obtain⟨u,hρ⟩ : ∃u,ρ x=u:=⟨_,rfl⟩
    rw [hρ] at hvs
    cases hvs with
    | bw _ _ blk cap hβ hncap hk hcm=>
    obtain⟨cur,c1,c2,c3,c4⟩:=hI.box b blk _ hβ hbx
    have hbl:b<S.boxes.length:=(List.getElem?_eq_some_iff.1 hbx).1
    have hcapsz:cap*j.size≤cur.size:=Nat.le_trans (Nat.mul_le_mul_right _ hk) c2
    -- the cells that are there
    have hxl:(cur.toList.take (n*j.size)).length=n*j.size:=by
     have:n*j.size≤cap*j.size:=Nat.mul_le_mul_right _ hncap
     simp;omega
    have htl:(cs.take (n*j.size)).length=n*j.size:=by simp;omega
    have hxr : ∀q,q<n*j.size→RelV g S.toks ((cs.take (n*j.size)).getD q .junk) ((cur.toList.take (n*j.size)).getD q undef):=by
     intro q hq
     have h1:(cs.take (n*j.size)).getD q .junk=cs.getD q .junk:=by simp [List.getD_eq_getElem?_getD,List.getElem?_take,hq]
     have h2:(cur.toList.take (n*j.size)).getD q undef=cur.getD q undef:=by simp [List.getD_eq_getElem?_getD,List.getElem?_take,hq]
     rw [h1,h2]
     exact c4 q (by omega)
    have hxc : ∀(q:Nat) (v:Value),(cur.toList.take (n*j.size))[q]?=some v→w.cell? ((⟨blk,0,none⟩:Addr).add q)=some v:=by
     intro q v hv
     rw [Addr.add_lit,Nat.zero_add,cell_of_row w blk q cur e' _ c1]
     rw [List.getElem?_take] at hv
     split at hv
     ·simpa using hv
     ·cases hv
    -- in place: whatever the new cells are
    have place : ∀(news:List Value) (w':World),news.length=new.length*j.size→(∀q,q<new.length*j.size→RelT g.I (new.flatten.getD q .nilp) (news.getD q undef))→n+new.length≤cap→
      w'=w.setRow blk (cur.toList.take (n*j.size)++news++cur.toList.drop (n*j.size+news.length)).toArray→
      (execOp ρ o).run P w=.ok (.value (.slice (some ⟨blk,0,none⟩) (n+new.length) cap)) w'→Ai P o ρ g S w K:=by
     intro news w' hnwl hnr hroom hw' hrun
     have hfl:new.flatten.length=new.length*j.size:=Gp hnew
     have hfit:n*j.size+news.length≤cur.size:=by
      rw [hnwl,←Nat.add_mul];exact Nat.le_trans (Nat.mul_le_mul_right _ hroom) hcapsz
     have hsz2:(cur.toList.take (n*j.size)++news++cur.toList.drop (n*j.size+news.length)).length=cur.size:=by simp;omega
     have hlen:(cs.take (n*j.size)++new.flatten.map V.t).length=(n+new.length)*j.size:=by rw [List.length_append,List.length_map,htl,hfl,Nat.add_mul]
     have hmv:=hI.put b blk (.buf e' j.size cs) (.buf e' j.size (cs.take (n*j.size)++new.flatten.map .t)) hβ hbx (fun h=>by cases h) (fun h=>by cases h) (.cells #[] e')
      w' (fun k hk=>by rw [hw'];exact setRow_other w blk k _ hk) (by rw [hw'];simp) (by rw [hw'];rfl) (by rw [hw'];rfl) (by rw [hw'];rfl)
      ⟨_,by rw [hw'];exact setRow_heap w blk cur _ e' _ c1,by rw [List.size_toArray,hsz2];exact c2,⟨by rw [List.size_toArray,hsz2,hlen];exact Nat.le_trans (Nat.mul_le_mul_right _ hroom) hcapsz,fun h0=>by omega⟩,fun q hq=>by
       rw [hlen] at hq
       have hget:=C0 cur.toList (n*j.size) news undef (by simpa using hfit) q
       have e1:((cur.toList.take (n*j.size)++news++cur.toList.drop (n*j.size+news.length)).toArray).getD q undef=(cur.toList.take (n*j.size)++news++cur.toList.drop (n*j.size+news.length)).getD q undef:=by
        simp [List.getD_eq_getElem?_getD,Array.getD_eq_getD_getElem?]
       rw [e1,hget]
       rcases Nat.lt_or_ge q (n*j.size) with h|h
       ·rw [if_neg (by omega)]
        have h1:(cs.take (n*j.size)++new.flatten.map V.t).getD q .junk=cs.getD q .junk:=by
         simp only [List.getD_eq_getElem?_getD];rw [List.getElem?_append_left (by omega),List.getElem?_take,if_pos h]
        rw [h1]
        have:=c4 q (by omega)
        simpa [List.getD_eq_getElem?_getD,Array.getD_eq_getD_getElem?] using this
       ·have hq2:q-n*j.size<new.length*j.size:=by rw [Nat.add_mul] at hq;omega
        rw [if_pos (by rw [Nat.add_mul] at hq;omega)]
        have h1:(cs.take (n*j.size)++new.flatten.map V.t).getD q .junk=.t (new.flatten.getD (q-n*j.size) .nilp):=by
         rw [←Hw _ _ (by rw [hfl];exact hq2)]
         simp only [List.getD_eq_getElem?_getD];rw [List.getElem?_append_right (by omega),htl]
        rw [h1]
        exact .t _ _ (hnr _ hq2)⟩
     have hbn:(S.boxes.set b (.buf e' j.size (cs.take (n*j.size)++new.flatten.map V.t)))[b]?=some (.buf e' j.size (cs.take (n*j.size)++new.flatten.map V.t)):=by simp [hbl]
     have hmv2:=hmv.inv.rename b blk _ hβ hbn (fun h=>by cases h)
     have hbe:(S.boxes.set b (.buf e' j.size (cs.take (n*j.size)++new.flatten.map V.t))).set b .dead=S.boxes.set b .dead:=by simp
     simp only [hbe] at hmv2
     refine⟨_,_,_,_,_,.inl hrun,hK,?_,hmv.trans hmv2⟩
     refine .bw _ _ blk cap ?_ hroom hk hcm
     simp only []
     rw [List.getElem?_append_right (by rw [hI.len];exact Nat.le_refl _),hI.len]
     simp
    rcases hsrc' with ⟨hy,hn0⟩|⟨sa,cc,news,hy,hnl2,hcell,hrel,hone⟩
    ·subst hn0
     refine place [] w (by simp) (fun q hq=>by simp at hq) (by simpa using hncap) ?_ (Ao ho hc ht hxy ?_)
     ·have e1:(cur.toList.take (n*j.size)++[]++cur.toList.drop (n*j.size+([]:List Value).length)).toArray=cur:=by simp
      rw [e1]
      exact (setRow_self w blk cur e' (0,0) c1).symm
     ·rw [hρ,hy]
      simp [Builtin.append_,run_underlying hu,sizeOf,typeInfo,hj,Builtin.lenOf,Builtin.firstCells,hncap,storeCells]
    ·have hnr:=Iq hsz hnew hrel
     by_cases hroom:n+new.length≤cap
     ·have hfit:n*j.size+news.length≤cur.size:=by rw [hnl2,←Nat.add_mul];exact Nat.le_trans (Nat.mul_le_mul_right _ hroom) hcapsz
      have hr:=run_append_room (P:=P) w t o.type e' j hu hj blk n cap cur c1 sa new.length cc news hnl2 hcell hone hroom hfit
      exact place news _ hnl2 hnr hroom rfl (Ao ho hc ht hxy (by rw [hρ,hy];exact hr))
     ·have hlt:cap<n+new.length:=by omega
      have hr:=run_append_grow (P:=P) w t o.type e' j z hu hj hz ⟨blk,0,none⟩ n cap (cur.toList.take (n*j.size)) hxl hxc sa new.length cc news hnl2 hcell hlt (by omega) (growslice_fits hlt hb)
      exact mk { S with boxes:=S.boxes.set b .dead } (hI.kill b) (cs.take (n*j.size)) (cur.toList.take (n*j.size)) news n cap (by simp) rfl htl hxl hxr hnl2 hnr hm (Ao ho hc ht hxy (by rw [hρ,hy];exact hr)) hK
   ·exact hK.elim
  | _=>simp at hK

end
end E
end Go.Proofs.YtmlpmdccfmmpoaaGreatDoor
end

/- The engine, part 12: frames, one operation with its guard, and the operations of a region. -/
section
set_option linter.unusedSimpArgs false
set_option linter.unusedVariables false
namespace Go.Proofs.YtmlpmdccfmmpoaaGreatDoor
namespace E

mutual
def bdT:T→Prop
 | .sl es=>es.length≤maxLen∧bdR es
 | .ifc _ _ cs=>bdC cs
 | .str s=>True
 | .int _ _=>True
 | .bool _=>True
 | .nilp=>True
 | .nilm=>True
 | .nilf=>True
 | .nili=>True
def bdR:List (List T)→Prop
 | []=>True
 | e::es=>bdC e∧bdR es
def bdC:List T→Prop
 | []=>True
 | t::ts=>bdT t∧bdC ts
end
mutual
def bdV:V→Prop
 | .t x=>bdT x
 | .full es=>es.length≤maxLen∧bdR es
 | .own _ _ _ es=>es.length≤maxLen∧bdR es
 | .agg cs=>bdVs cs
 | .tup cs=>bdVs cs
 | .fn _ cs=>bdVs cs
 | .tp e _=>bdC e
 | .und=>True
 | .junk=>True
 | .snil=>True
 | .ptr _ _=>True
 | .mp _=>True
 | .vw _ _ n=>n≤maxLen
 | .bw _ n=>n≤maxLen
def bdVs:List V→Prop
 | []=>True
 | v::vs=>bdV v∧bdVs vs
end

theorem Tk {l:List T} (h : ∀j,j<l.length→bdT (l.getD j .nilp)):bdC l:=by
 induction l with
 | nil=>trivial
 | cons x l ih=>exact⟨by simpa using h 0 (by simp),ih fun j hj=>by simpa using h (j+1) (by simpa using hj)⟩
theorem H7 {l:List V} (h : ∀j,j<l.length→bdV (l.getD j .junk)):bdVs l:=by
 induction l with
 | nil=>trivial
 | cons x l ih=>exact⟨by simpa using h 0 (by simp),ih fun j hj=>by simpa using h (j+1) (by simpa using hj)⟩
theorem A47 {l:List (List T)} (h : ∀i,i<l.length→bdC (l.getD i [])):bdR l:=by
 induction l with
 | nil=>trivial
 | cons x l ih=>exact⟨by simpa using h 0 (by simp),ih fun j hj=>by simpa using h (j+1) (by simpa using hj)⟩

theorem RelT.bd {I:Nat→Nat→Option Value} {x:T} {v:Value} (h:RelT I x v):bdT x:=by
 induction h with
 | int=>trivial
 | bool=>trivial
 | str=>trivial
 | nilp=>trivial
 | nilm=>trivial
 | nilf=>trivial
 | nili=>trivial
 | slnil=>exact⟨by simp [maxLen],trivial⟩
 | slz a cap hm=>exact⟨by simp [maxLen],trivial⟩
 | sl es b off cap z c hz hc hm hI' hr ih=>exact⟨by omega,A47 fun i hi=>Tk fun j hj=>ih i j hi (by rw [←hz i hi];exact hj)⟩
 | ifc1 t x v h ih=>exact⟨ih,trivial⟩
 | ifca t cs vs hl hr ih=>exact Tk fun j hj=>ih j hj

theorem RelV.bd {g:Gh} {tk:List Nat} {x:V} {v:Value} (h:RelV g tk x v):bdV x:=by
 induction h with
 | t x v h=>exact h.bd
 | und=>trivial
 | junk v=>trivial
 | snil=>trivial
 | full es a h=>exact h.bd
 | own k e z es v n h hz hn hle hg=>exact h.bd
 | ptr b o blk h=>trivial
 | tp e o blk off c hI hr=>exact Tk fun j hj=>(hr j hj).bd
 | fn f caps vs hl hr ih=>exact H7 ih
 | agg cs vs hl hr ih=>exact H7 ih
 | tup cs vs hl hr ih=>exact H7 ih
 | mp b blk h=>trivial
 | vw b o n blk cap h hc hm=>show n≤maxLen;omega
 | bw b n blk cap h hc hk hm=>show n≤maxLen;omega

theorem A1g {l:List (List T)} : bdR l↔∀e∈l,bdC e:=by
 induction l with
 | nil=>simp [bdR]
 | cons x l ih=>simp [bdR,ih]
@[simp] theorem A7s {α:Type} (f:α→List T) (l:List α):bdR (l.map f)↔∀x∈l,bdC (f x):=by simp [A1g]
@[simp] theorem A6q (l:List T):bdVs (l.map V.t)↔bdC l:=by
 induction l with
 | nil=>simp [bdVs,bdC]
 | cons x l ih=>simp [bdVs,bdC,bdV,ih]

abbrev Fr:=Nat→V
def upd (a:Fr) (d:Nat) (v:V):Fr:=fun i=>if i=d then v else a i
def Br (a:Fr):Option Nat→V→Fr
 | none,_=>a
 | some d,v=>upd a d v
def opv (a:Fr):Opd→V
 | .tmp t=>a t
 | .c v=>v

inductive Ex where
 | nx
 | ex (id:Nat)
 | rt
 | pn (v:V)

def B4 (P:Program) (f:Nat):Prop:=∀(args:Array Value) (w:World),(callFunc f args).run P w=.ok (.enter f args) w

def FnS (P:Program) (f:Nat) (vs:List V) (S:St) (r:V) (S':St):Prop:=
 B4 P f∧∀(g:Gh) (w:World) (us:Array Value),Inv g S w→us.size=vs.length→(∀j,j<vs.length→RelV g S.toks (vs.getD j .und) (us.getD j undef))→
  Calls P f us w fun e w'=>∃u g',e=.returned u∧RelV g' S'.toks r u∧Mv g S w g' S' w'

def FnP (P:Program) (f:Nat) (vs:List V) (S:St) (v:V) (S':St):Prop:=
 B4 P f∧∀(g:Gh) (w:World) (us:Array Value),Inv g S w→us.size=vs.length→(∀j,j<vs.length→RelV g S.toks (vs.getD j .und) (us.getD j undef))→
  Calls P f us w fun e w'=>∃u g',e=.panicked [{ v:=u,recovered:=false }]∧RelV g' S'.toks v u∧Mv g S w g' S' w'

def FnE (P:Program) (f:Nat) (vs:List V) (S:St) (Φ:V→St→Prop):Prop:=
 B4 P f∧∀(g:Gh) (w:World) (us:Array Value),Inv g S w→us.size=vs.length→(∀j,j<vs.length→RelV g S.toks (vs.getD j .und) (us.getD j undef))→
  Calls P f us w fun e w'=>∃r S' u g',Φ r S'∧e=.returned u∧RelV g' S'.toks r u∧Mv g S w g' S' w'
def St.add (S:St) (B:List Bx):St:={ S with boxes:=S.boxes++B }
def Fl (P:Program) (dr:Bool) (f:Nat) (vs:List V) (S:St) (K:V→St→Prop) (R:V→St→Prop:=fun _ _=>False):Prop:=
 (∃r S',FnS P f vs S r S'∧(dr=true→S'=S∧∀B,FnS P f vs (S.add B) r (S.add B))∧((dr=true∨bdV r)→K r S'))∨(dr=false∧((∃v S',FnP P f vs S v S'∧R v S')∨∃Φ,FnE P f vs S Φ∧∀r S',Φ r S'→bdV r→K r S'))
def A6r (dr:Bool) (v:V) (S:St) (R:V→St→Prop):Prop:=
 dr=false∧match v with
 | .t (.ifc t a cs)=>R (.t (.ifc t a cs)) S
 | _=>False

def opK (P:Program) (dr:Bool) (k:EK) (vs:List V) (S:St) (K:V→St→Prop) (R:V→St→Prop:=fun _ _=>False):Prop:=
 match k with
 | .call f=>Fl P dr f vs S K R
 | .callv=>match vs with
  | .fn (.func f) caps::args=>Fl P dr f (args++caps) S K R
  | _=>False
 | .pan=>A6r dr (vs.getD 0 .und) S R
 | k=>Af k vs S K

def Hx (a:Fr) (g:Option (Nat×Bool)) (X Y:Prop):Prop:=
 match g with
 | none=>X
 | some (t,want)=>match a t with
  | .t (.bool b)=>if b=want then X else Y
  | .und=>Y
  | _=>False

def eop1 (P:Program) (dr:Bool) (e:EO) (next:Fr→St→Prop) (a:Fr) (S:St) (R:V→Fr→St→Prop:=fun _ _ _=>False):Prop:=
 Hx a e.g (opK P dr e.k (e.xs.map (opv a)) S (fun v S'=>next (Br a e.d v) S') (fun v S'=>R v a S')) (next (Br a e.d .und) S)

def Bq (P:Program) (dr:Bool):List EO→(Ex→Fr→St→Prop)→Fr→St→Prop
 | [],Q,a,S=>Q .nx a S
 | e::es,Q,a,S=>eop1 P dr e (Bq P dr es Q) a S (fun v=>Q (.pn v))

structure Conc (N:Nat) (D:List Deferred) (g:Gh) (a:Fr) (S:St) (act:Act) (w:World):Prop where
 inv:Inv g S w
 defers:act.defers=D
 size:act.tmps.size=N
 rel : ∀i,RelV g S.toks (a i) (act.tmps.getD i undef)

structure Mv0 (nb nt:Nat) (g:Gh) (S:St) (w:World) (g':Gh) (S':St) (w':World):Prop where
 I : ∀b o c,g.I b o=some c→g'.I b o=some c
 β : ∀(i x:Nat),i<nb→g.β[i]?=some x→g'.β[i]?=some x
 τ : ∀(k n:Nat),k<nt→S.toks[k]?=some n→∃n',S'.toks[k]?=some n'∧n≤n'∧(n'=n→g'.τ[k]?=g.τ[k]?)
 base:g'.base=g.base
 ent:g'.ent=g.ent
 icl : ∀b o c,g'.I b o=some c→g.I b o=some c∨g.base≤b∨b∈g.ent
 κ : ∀(i x:Nat),i<nb→g.β[i]?=some x→g'.κ x=g.κ x
 frm:Frm g w w'
 nb:nb≤S'.boxes.length
 nt:nt≤S'.toks.length

theorem Mv0.refl {nb nt:Nat} {g:Gh} {S:St} {w:World} (h1:nb≤S.boxes.length) (h2:nt≤S.toks.length):Mv0 nb nt g S w g S w:=
 ⟨fun _ _ _ h=>h,fun _ _ _ h=>h,fun _ n _ h=>⟨n,h,Nat.le_refl _,fun _=>rfl⟩,rfl,rfl,fun _ _ _ h=>.inl h,fun _ _ _ _=>rfl,Frm.refl _ _,h1,h2⟩

theorem Mv0.trans {nb nt:Nat} {g:Gh} {S:St} {w:World} {g':Gh} {S':St} {w':World} {g'':Gh} {S'':St} {w'':World} (h:Mv0 nb nt g S w g' S' w') (k:Mv0 nb nt g' S' w' g'' S'' w''):Mv0 nb nt g S w g'' S'' w'':=by
 refine⟨fun b o c hc=>k.I _ _ _ (h.I _ _ _ hc),fun i x hi hx=>k.β _ _ hi (h.β _ _ hi hx),fun i n hi hn=>?_,k.base.trans h.base,k.ent.trans h.ent,fun b o c hc=>?_,fun i x hi hx=>(k.κ i x hi (h.β i x hi hx)).trans (h.κ i x hi hx),h.frm.trans (Frm.of_eq h.base h.ent k.frm),k.nb,k.nt⟩
 ·obtain⟨n1,h1,h2,h3⟩:=h.τ i n hi hn
  obtain⟨n2,k1,k2,k3⟩:=k.τ i n1 hi h1
  exact⟨n2,k1,by omega,fun e=>(k3 (by omega)).trans (h3 (by omega))⟩
 ·rcases k.icl b o c hc with h1|h1
  ·exact h.icl b o c h1
  ·rw [h.base,h.ent] at h1;exact .inr h1

theorem Mv.toMv0 {nb nt:Nat} {g:Gh} {S:St} {w:World} {g':Gh} {S':St} {w':World} (hI:Inv g S w) (h1:nb≤S.boxes.length) (h2:nt≤S.toks.length) (h:Mv g S w g' S' w'):Mv0 nb nt g S w g' S' w':=by
 refine⟨h.ext.I,fun i x _ hx=>h.ext.β i x hx,fun k n _ hn=>h.ext.τ k n hn,h.ext.base,h.ext.ent,h.ext.icl,fun i x _ hx=>h.ext.κ i x hx,h.frm,?_,?_⟩
 ·have e1:=hI.len
  have e2:=h.inv.len
  have hle:g.β.length≤g'.β.length:=by
   rcases Nat.eq_zero_or_pos g.β.length with h0|h0
   ·omega
   ·have:=h.ext.β (g.β.length-1) g.β[g.β.length-1] (List.getElem?_eq_getElem (by omega))
    have:=(List.getElem?_eq_some_iff.1 this).1
    omega
  omega
 ·rcases Nat.eq_zero_or_pos S.toks.length with h0|h0
  ·omega
  ·obtain⟨n',hn,_⟩:=h.ext.τ (S.toks.length-1) S.toks[S.toks.length-1] (List.getElem?_eq_getElem (by omega))
   have:=(List.getElem?_eq_some_iff.1 hn).1
   omega

theorem Conc.put {N:Nat} {D:List Deferred} {g:Gh} {a:Fr} {S:St} {act:Act} {w:World} (h:Conc N D g a S act w) {g':Gh} {S':St} {w':World} (hm:Mv g S w g' S' w') (d:Option Nat) (hd : ∀k,d=some k→k<N) {v:V} {u:Value} (hv:RelV g' S'.toks v u) :
  Conc N D g' (Br a d v) S' (act.put d u) w':=by
 refine⟨hm.inv,?_,?_,fun i=>?_⟩
 ·cases d<;>exact h.defers
 ·cases d
  ·exact h.size
  ·simp [Act.put,h.size]
 ·cases d with
  | none=>exact (h.rel i).mono hm.ext
  | some k=>
   have hk:=hd k rfl
   by_cases hik:i=k
   ·subst hik
    simp only [Br,upd,if_true,Act.put]
    have:i<(act.tmps.setIfInBounds i u).size:=by simp [h.size,hk]
    have:i<act.tmps.size:=by rw [h.size];exact hk
    simpa [this] using hv
   ·have:=(h.rel i).mono hm.ext
    simp only [Br,upd,if_neg hik,Act.put]
    simpa [Array.getElem?_setIfInBounds_ne (Ne.symm hik)] using this

theorem Uw {N:Nat} {D:List Deferred} {g:Gh} {a:Fr} {S:St} {act:Act} {w:World} (h:Conc N D g a S act w) {x:Operand} {y:Opd} (hx:opd x=some y):RelV g S.toks (opv a y) (act.eval x):=by
 cases x with
 | tmp t=>simp [opd] at hx;subst hx;simpa [opv,Act.eval] using h.rel t
 | const v=>
  simp [opd] at hx
  obtain⟨c,hc,rfl⟩:=hx
  exact Cu hc
 | func f=>simp [opd] at hx;subst hx;exact .fn _ _ _ rfl (fun j hj=>by simp at hj)
 | global n=>
  simp only [opd,Option.map_eq_some_iff] at hx
  obtain⟨e,he,rfl⟩:=hx
  exact A1e h.inv he

theorem Ls {N:Nat} {D:List Deferred} {g:Gh} {a:Fr} {S:St} {act:Act} {w:World} (h:Conc N D g a S act w) : ∀{xs:List Operand} {ys:List Opd},opds xs=some ys→E6 g S.toks act.eval xs (ys.map (opv a))
 | [],ys,hx=>by simp [opds] at hx;subst hx;exact⟨rfl,by simp⟩
 | x::xs,ys,hx=>by
  simp only [opds] at hx
  split at hx
  ·rename_i y ys' hy hys
   simp only [Option.some.injEq] at hx
   subst hx
   have ih:=Ls h hys
   refine⟨by simp [ih.1],fun j z hz=>?_⟩
   cases j with
   | zero=>simp at hz;subst hz;simpa using Uw h hy
   | succ j=>simpa using ih.2 j z (by simpa using hz)
  ·cases hx

end E
end Go.Proofs.YtmlpmdccfmmpoaaGreatDoor
end

/- The engine, part 13: one operation of a region, with its guard, on the concrete side. -/
section
set_option linter.unusedSimpArgs false
set_option linter.unusedVariables false
namespace Go.Proofs.YtmlpmdccfmmpoaaGreatDoor
namespace E
section
variable {P:Program} {o:Oper} {ρ:Operand→Value} {g:Gh} {S:St} {w:World} {K:V→St→Prop}

theorem E6.at0 {x:Operand} {xs:List Operand} {vs:List V} (h:E6 g S.toks ρ (x::xs) vs):RelV g S.toks (vs.getD 0 .und) (ρ x):=h.2 0 x rfl
theorem E6.at1 {x y:Operand} {xs:List Operand} {vs:List V} (h:E6 g S.toks ρ (x::y::xs) vs):RelV g S.toks (vs.getD 1 .und) (ρ y):=h.2 1 y rfl
theorem E6.at2 {x y z:Operand} {xs:List Operand} {vs:List V} (h:E6 g S.toks ρ (x::y::z::xs) vs):RelV g S.toks (vs.getD 2 .und) (ρ z):=h.2 2 z rfl

theorem Ym {sz:Nat} {vs:List V} (h:Kt sz vs S K) : ∀v∈vs,isAggV v=true∨cellB v=true:=by
 unfold Kt at h
 split at h
 ·rename_i es hes
  clear h
  induction vs generalizing es with
  | nil=>simp
  | cons v vs ih=>
   simp only [List.mapM_cons,Option.bind_eq_bind,Option.pure_def] at hes
   cases h1:Bu (cellsV v) with
   | none=>simp [h1] at hes
   | some ts=>
    cases h2:vs.mapM (fun v=>Bu (cellsV v)) with
    | none=>simp [h1,h2] at hes
    | some rs=>
     intro u hu
     rcases List.mem_cons.1 hu with rfl|hu
     ·cases u<;>simp [isAggV,cellB]<;>simp [cellsV,Bu,toT] at h1
     ·exact ih rs h2 u hu
 ·exact h.elim

theorem Wp {t:TypeId} {d:TypeDesc} {x:Operand} (ho:o.op=.makeInterface t x) (hu:P.underlying t=some d) (hd : ∀ms,d≠.interface ms) (hI:Inv g S w) {v:V} (hv:RelV g S.toks v (ρ x)) (hK:T3 t v S K):Ai P o ρ g S w K:=by
 unfold T3 at hK
 split at hK
 ·rename_i ts hts
  obtain⟨hc,hb⟩:=H5 hv hts
  have e:=H6 hv hb
  have hrun:(execOp ρ o).run P w=.ok (.value (.iface t (ρ x))) w:=by
   simp only [execOp,ho,Instr.makeInterface,Sem.run_bind,run_underlying hu,Result.andThen]
   cases d<;>first|rfl|exact absurd rfl (hd _)
  refine Ai.still hI hrun (.t _ _ ?_) hK
  cases hagg:isAggV v
  ·rw [hagg] at e
   simp only [mkv,Bool.false_eq_true,if_false] at e
   have hl:ts.length=1:=by
    have h1:=(Ch hts).1
    cases v<;>first|(simp [isAggV] at hagg;done)|simpa [cellsV] using h1
   obtain⟨y,rfl⟩ : ∃y,ts=[y]:=List.length_eq_one_iff.1 hl
   refine .ifc1 t y _ ?_
   rw [e]
   exact hc.one
  ·rw [hagg] at e
   simp only [mkv,if_true] at e
   rw [e]
   exact .ifca t ts _ hc.1 hc.2
 ·exact hK.elim

theorem Wq {t xt:TypeId} {d:TypeDesc} {z:V} {x:Operand} (ho:o.op=.typeAssert x xt t true) (hu:P.underlying t=some d) (hd : ∀ms,d≠.interface ms) (hz:zeroOf P t=some z) (hI:Inv g S w) {v:V} (hv:RelV g S.toks v (ρ x)) (hK:T4 t z v S K):Ai P o ρ g S w K:=by
 obtain⟨zu,hzr,hzv,_⟩:=K9 (P:=P) (w:=w) hz
 have two : ∀{g':Gh} {tk:List Nat} {a b:V} {u1 u2:Value},RelV g' tk a u1→RelV g' tk b u2→RelV g' tk (.tup [a,b]) (.tuple #[u1,u2]):=by
  intro g' tk a b u1 u2 h1 h2
  refine .tup _ _ rfl fun j hj=>?_
  simp at hj
  rcases (by omega:j=0∨j=1) with rfl|rfl
  ·simpa using h1
  ·simpa using h2
 unfold T4 at hK
 split at hK
 ·rename_i t' a cs
  generalize hρ:ρ x=u at hv
  have hgood : ∀u',u=.iface t' u'→RelV g S.toks (Yh a cs) u'→Ai P o ρ g S w K:=by
   rintro u' rfl hr
   split at hK
   ·rename_i ht
    subst ht
    refine Ai.still hI (v:=.tuple #[u',.bool true]) ?_ (two hr (.t _ _ (.bool _))) hK
    simp only [execOp,ho,Instr.typeAssert,Sem.run_bind,run_underlying hu,Result.andThen,hρ]
    cases d<;>first|(simp;done)|exact absurd rfl (hd _)
   ·rename_i ht
    refine Ai.still hI (v:=.tuple #[zu,.bool false]) ?_ (two hzv (.t _ _ (.bool _))) hK
    simp only [execOp,ho,Instr.typeAssert,Sem.run_bind,run_underlying hu,Result.andThen,hρ]
    cases d<;>first|(simp [ht,hzr];done)|exact absurd rfl (hd _)
  cases hv with
  | t _ _ h=>
   cases h with
   | ifc1 _ y v' h1=>exact hgood _ rfl (by simpa [Yh] using RelV.t _ _ h1)
   | ifca _ _ vs hl hr=>
    refine hgood _ rfl ?_
    simp only [Yh,if_true]
    refine .agg _ _ (by simpa using hl) fun j hj=>?_
    have hj':j<cs.length:=by simpa using hj
    have:=hr j hj'
    simp only [List.getD_eq_getElem?_getD,List.getElem?_map,List.getElem?_eq_getElem hj',Option.map_some,Option.getD_some] at this ⊢
    exact .t _ _ this
 ·generalize hρ:ρ x=u at hv
  cases hv with
  | t _ _ h=>cases h with
  | nili=>
   refine Ai.still hI (v:=.tuple #[zu,.bool false]) ?_ (two hzv (.t _ _ (.bool _))) hK
   simp only [execOp,ho,Instr.typeAssert,Sem.run_bind,run_underlying hu,Result.andThen,hρ]
   cases d<;>first|(simp [hzr];done)|exact absurd rfl (hd _)
 ·exact hK.elim

theorem N7 {P:Program} {w:World} {t:TypeId} {ms:Array (String×TypeId)} (hu:P.underlying t=some (.interface ms)) (v:Value) (b:Bool) (h:(v=.nilIface∧b=true)∨((∃t u,v=.iface t u)∧b=false)) :
  (Op.equal t v .nilIface).run P w=.ok b w:=by
 show (Op.equalIn (9999+1) t v .nilIface).run P w=_
 rw [Op.equalIn]
 rcases h with ⟨rfl,rfl⟩|⟨⟨t',u',rfl⟩,rfl⟩
 ·simp only [Sem.run_bind,run_underlying hu,Result.andThen];rfl
 ·simp only [Sem.run_bind,run_underlying hu,Result.andThen];rfl
theorem Ka {P:Program} {w:World} {op:BinOp} {t:TypeId} {ms:Array (String×TypeId)} (neg:Bool) (hop:op=if neg then .neq else .eql) (hu:P.underlying t=some (.interface ms)) (v:Value) (b:Bool) (h:(v=.nilIface∧b=true)∨((∃t u,v=.iface t u)∧b=false)) :
  (binOp op t v .nilIface).run P w=.ok (.bool (if neg then !b else b)) w:=by
 subst hop
 have h1:=N7 (w:=w) hu v b h
 cases neg
 ·simp only [binOp,Bool.false_eq_true,if_false]
  rcases h with ⟨rfl,rfl⟩|⟨⟨t',u',rfl⟩,rfl⟩<;>simp only [Sem.run_bind,h1,Result.andThen]<;>rfl
 ·simp only [binOp,if_true]
  rcases h with ⟨rfl,rfl⟩|⟨⟨t',u',rfl⟩,rfl⟩<;>simp only [Sem.run_bind,h1,Result.andThen]<;>rfl
theorem Nm {neg:Bool} {op:BinOp} {t u:TypeId} {ms:Array (String×TypeId)} {x y:Operand} {c:Value} (hy:y=.const c) (ho:o.op=.binOp op t x y u) (hop:op=if neg then .neq else .eql) (hu:P.underlying t=some (.interface ms))
  (hI:Inv g S w) {v v1:V} (hv:RelV g S.toks v (ρ x)) (hv1:RelV g S.toks v1 (ρ y)) (hK:T5 neg v v1 S K):Ai P o ρ g S w K:=by
 unfold T5 at hK
 split at hK
 ·generalize hρ:ρ x=q at hv
  generalize hρ1:ρ y=q1 at hv1
  have hq : ∃t' u',q=.iface t' u':=by
   cases hv with
   | t _ _ h=>cases h<;>exact⟨_,_,rfl⟩
  obtain⟨t',u',rfl⟩:=hq
  have hq1:q1=.nilIface:=by
   cases hv1 with
   | t _ _ h=>cases h;rfl
  subst hq1
  have hg:eqGuard op t x y (.iface t' u') .nilIface=pure ():=by cases op<;>rfl
  have hb:=Ka (w:=w) neg hop hu (.iface t' u') false (.inr ⟨⟨_,_,rfl⟩,rfl⟩)
  refine Ai.still hI (v:=.bool (if neg then !false else false)) ?_ (by cases neg<;>exact .t _ _ (.bool _)) hK
  simp only [execOp,ho,hρ,hρ1,hg,Sem.run_bind,Sem.run_pure,Result.andThen,hb]
 ·generalize hρ:ρ x=q at hv
  generalize hρ1:ρ y=q1 at hv1
  have hq:q=.nilIface:=by
   cases hv with
   | t _ _ h=>cases h;rfl
  have hq1:q1=.nilIface:=by
   cases hv1 with
   | t _ _ h=>cases h;rfl
  subst hq;subst hq1
  have hg:eqGuard op t x y .nilIface .nilIface=pure ():=by rw [hy];exact eqGuard_nil_constR _ _ _ _
  have hb:=Ka (w:=w) neg hop hu .nilIface true (.inl ⟨rfl,rfl⟩)
  refine Ai.still hI (v:=.bool (if neg then !true else true)) ?_ (by cases neg<;>exact .t _ _ (.bool _)) hK
  simp only [execOp,ho,hρ,hρ1,hg,Sem.run_bind,Sem.run_pure,Result.andThen,hb]
 ·exact hK.elim

theorem Ws {t:TypeId} {x:Operand} (ho:o.op=.range t x) (hu:P.underlying t=some .string) (hI:Inv g S w) {v:V} (hv:RelV g S.toks v (ρ x)) (hK:Px v S K):Ai P o ρ g S w K:=by
 unfold Px at hK
 split at hK
 ·rename_i s
  generalize hρ:ρ x=u at hv
  cases hv with
  | t _ _ h=>cases h with
  | str=>
   have hm:=hI.push (.stringIter ⟨s.toArray⟩ 0) (.itr s 0) g.κ (fun _ _=>rfl) (heap_alloc_new w _)
   refine⟨.ptr S.boxes.length 0,_,_,.pointer (some ⟨w.heap.size,0,none⟩),_,.inl ?_,hK,.ptr _ _ _ ?_,hm⟩
   ·simp [execOp,ho,Instr.range,run_underlying hu,hρ]
   ·simp only []
    rw [List.getElem?_append_right (by rw [hI.len];exact Nat.le_refl _),hI.len]
    simp
 ·exact hK.elim

theorem Tl {x:Operand} (ho:o.op=.next x true) (hI:Inv g S w) {v:V} (hv:RelV g S.toks v (ρ x)) (hK:K5 v S K):Ai P o ρ g S w K:=by
 unfold K5 at hK
 split at hK
 ·rename_i b off
  split at hK
  ·rename_i s p hb
   obtain⟨rfl,hK⟩:=hK
   generalize hρ:ρ x=u at hv
   cases hv with
   | ptr _ _ blk hβ=>
    have hbx:w.heap[blk]?=some (.stringIter ⟨s.toArray⟩ p):=hI.box b blk _ hβ hb
    have hlt:blk<w.heap.size:=hI.bold b blk hβ
    split at hK
    ·rename_i hp
     have hm:=hI.put b blk (.itr s p) (.itr s (p+E0 s p)) hβ hb (by simp) (by simp) (.stringIter ⟨s.toArray⟩ (p+E0 s p)) { w with heap:=w.heap.setIfInBounds blk (.stringIter ⟨s.toArray⟩ (p+E0 s p)) }
      (fun k hk=>by simp only [];rw [Array.getElem?_setIfInBounds_ne (Ne.symm hk)]) (by simp) rfl rfl rfl (by show (w.heap.setIfInBounds blk _)[blk]?=_;rw [Array.getElem?_setIfInBounds_self_of_lt hlt])
     refine⟨_,_,_,.tuple #[.bool true,.int .i64 p,.int .i32 (Gm s p)],_,.inl ?_,hK,?_,hm⟩
     ·have hp':p<(⟨s.toArray⟩:ByteArray).size:=by rw [Kw];exact hp
      simp [execOp,ho,Instr.next,hρ,getObj,setObj,Sem.run,hbx,hp',goInt,Gm,E0]
     ·refine .tup _ _ rfl fun j hj=>?_
      simp at hj
      rcases (by omega:j=0∨j=1∨j=2) with rfl|rfl|rfl
      ·exact .t _ _ (.bool _)
      ·exact .t _ _ (.int _ _)
      ·exact .t _ _ (.int _ _)
    ·rename_i hp
     have hp' : ¬p<(⟨s.toArray⟩:ByteArray).size:=by rw [Kw];exact hp
     refine Ai.still hI (v:=.tuple #[.bool false]) ?_ ?_ hK
     ·simp [execOp,ho,Instr.next,hρ,getObj,Sem.run,hbx,hp']
     ·refine .tup _ _ rfl fun j hj=>?_
      simp at hj
      subst hj
      exact .t _ _ (.bool _)
  ·exact hK.elim
 ·exact hK.elim

set_option maxRecDepth 2000 in
theorem Hy {k:EK} {xs:List Operand} (hk:kindOf P o=some (k,xs)) (hI:Inv g S w) {vs:List V} (hv:E6 g S.toks ρ xs vs) (hK:Af k vs S K):Ai P o ρ g S w K:=by
 unfold kindOf at hk
 split at hk
 all_goals try (rename_i ho)
 ·simp only [Option.some.injEq,Prod.mk.injEq] at hk;obtain⟨rfl,rfl⟩:=hk;exact Q0 (.inl ho) hI hv.at0 hK
 ·simp only [Option.some.injEq,Prod.mk.injEq] at hk;obtain⟨rfl,rfl⟩:=hk;exact Q0 (.inr ho) hI hv.at0 hK
 ·simp only [Option.some.injEq,Prod.mk.injEq] at hk;obtain⟨rfl,rfl⟩:=hk;exact T8 ho hI hv.at0 hv.at1 hv.at2 hK
 ·simp only [Option.some.injEq,Prod.mk.injEq] at hk;obtain⟨rfl,rfl⟩:=hk;exact W4 ho hI hv.at0 hK
 ·-- alloc
  split at hk
  ·rename_i i hi
   split at hk
   ·rename_i z hz
    cases hc:constV z with
    | none=>simp [hc] at hk
    | some zv=>
     simp [hc] at hk
     obtain⟨rfl,rfl⟩:=hk
     split at hK
     ·exact Ol ho hi hz hc hI hK
     ·exact Py ho hi hz hc hI hK
   ·cases hk
  ·cases hk
 ·-- build
  split at hk
  ·rename_i i hi
   split at hk
   ·rename_i z hz
    split at hk
    ·rename_i v ps hc hps
     split at hk
     ·rename_i hcond
      simp only [Option.some.injEq,Prod.mk.injEq] at hk;obtain⟨rfl,rfl⟩:=hk
      simp only [Af] at hK
      split at hK
      ·rename_i cs hf
       refine Q4 ho hi hz hc hps (hcond) hI hv (fun u hu=>?_) hf hK.2
       have:=List.all_eq_true.1 hK.1 u hu
       simpa using this
      ·exact hK.elim
     ·cases hk
    ·cases hk
   ·cases hk
  ·cases hk
 ·-- buildSlice
  split at hk
  ·rename_i e hu
   split at hk
   ·rename_i i hi
    split at hk
    ·rename_i z hz
     split at hk
     ·rename_i hc
      simp only [Option.some.injEq,Prod.mk.injEq] at hk;obtain⟨rfl,rfl⟩:=hk
      exact Nj ho hu hi hz hc.1 hc.2.1 hc.2.2.1 hc.2.2.2 hI hv (Ym hK) hK
     ·cases hk
    ·cases hk
   ·cases hk
  ·cases hk
 ·-- load
  split at hk
  ·rename_i n a hs
   simp only [Option.some.injEq,Prod.mk.injEq] at hk;obtain⟨rfl,rfl⟩:=hk;exact T7 ho hs hI hv.at0 hK
  ·cases hk
 ·-- store
  split at hk
  ·rename_i n a hs
   simp only [Option.some.injEq,Prod.mk.injEq] at hk;obtain⟨rfl,rfl⟩:=hk;exact Pz ho hs hI hv.at0 hv.at1 hK
  ·cases hk
 ·split at hk
  ·rename_i off n a hf
   simp only [Option.some.injEq,Prod.mk.injEq] at hk;obtain⟨rfl,rfl⟩:=hk;exact Q1 ho hf hI hv.at0 hK
  ·cases hk
 ·split at hk
  ·rename_i off n a hf
   simp only [Option.some.injEq,Prod.mk.injEq] at hk;obtain⟨rfl,rfl⟩:=hk;exact W6 ho hf hI hv.at0 hK
  ·cases hk
 ·split at hk
  ·rename_i e hu
   split at hk
   ·rename_i j hj
    simp only [Option.some.injEq,Prod.mk.injEq] at hk;obtain⟨rfl,rfl⟩:=hk;exact W7 ho hu hj hI hv.at0 hv.at1 hK
   ·cases hk
  ·rename_i len e hu
   split at hk
   ·rename_i j hj
    simp only [Option.some.injEq,Prod.mk.injEq] at hk;obtain⟨rfl,rfl⟩:=hk;exact W8 ho hu hj hI hv.at0 hv.at1 hK
   ·cases hk
  ·cases hk
 ·split at hk
  ·rename_i len e hu
   split at hk
   ·rename_i n a hs
    simp only [Option.some.injEq,Prod.mk.injEq] at hk;obtain⟨rfl,rfl⟩:=hk;exact W9 ho hu hs hI hv.at0 hv.at1 hK
   ·cases hk
  ·rename_i hu
   simp only [Option.some.injEq,Prod.mk.injEq] at hk;obtain⟨rfl,rfl⟩:=hk;exact Wa ho hu hI hv.at0 hv.at1 hK
  ·cases hk
 ·-- binOp
  split at hk
  ·split at hk
   ·cases hk
   ·rename_i hop
    simp only [Option.some.injEq,Prod.mk.injEq] at hk;obtain⟨rfl,rfl⟩:=hk
    exact Ni ho ⟨fun e=>hop (by rw [e];rfl),fun e=>hop (by rw [e];rfl)⟩ hI hv.at0 hv.at1 hK
  ·split at hk
   ·cases hk
   ·rename_i hop
    simp only [Option.some.injEq,Prod.mk.injEq] at hk;obtain⟨rfl,rfl⟩:=hk
    exact Ni ho ⟨fun e=>hop (by rw [e];rfl),fun e=>hop (by rw [e];rfl)⟩ hI hv.at0 hv.at1 hK
  ·rename_i ms hu
   split at hk
   ·split at hk
    ·cases hk
    ·simp only [Option.some.injEq,Prod.mk.injEq] at hk;obtain⟨rfl,rfl⟩:=hk
     exact Nm (neg:=false) rfl ho rfl hu hI hv.at0 hv.at1 hK
   ·split at hk
    ·cases hk
    ·simp only [Option.some.injEq,Prod.mk.injEq] at hk;obtain⟨rfl,rfl⟩:=hk
     exact Nm (neg:=true) rfl ho rfl hu hI hv.at0 hv.at1 hK
   ·cases hk
  ·rename_i d hni hns _ hd
   split at hk
   ·rename_i n hn
    split at hk
    ·cases hk
    ·rename_i hg
     simp only [Option.some.injEq,Prod.mk.injEq] at hk;obtain⟨rfl,rfl⟩:=hk
     exact Nk (neg:=false) ho rfl hn hd (fun k e=>hni k e) (fun e=>hns e) (by simpa using hg) hI hv.at0 hv.at1 hK
   ·rename_i n hn
    split at hk
    ·cases hk
    ·rename_i hg
     simp only [Option.some.injEq,Prod.mk.injEq] at hk;obtain⟨rfl,rfl⟩:=hk
     exact Nk (neg:=true) ho rfl hn hd (fun k e=>hni k e) (fun e=>hns e) (by simpa using hg) hI hv.at0 hv.at1 hK
   ·cases hk
  ·cases hk
 ·split at hk
  ·cases hk
  ·rename_i d hd hu
   simp only [Option.some.injEq,Prod.mk.injEq] at hk;obtain⟨rfl,rfl⟩:=hk
   exact Wp ho hu (fun ms e=>hd ms e) hI hv.at0 hK
  ·cases hk
 ·split at hk
  ·cases hk
  ·rename_i d z hd hu hz
   simp only [Option.some.injEq,Prod.mk.injEq] at hk;obtain⟨rfl,rfl⟩:=hk
   exact Wq ho hu (fun ms e=>hd ms e) hz hI hv.at0 hK
  ·cases hk
 ·split at hk
  ·rename_i hu
   simp only [Option.some.injEq,Prod.mk.injEq] at hk;obtain⟨rfl,rfl⟩:=hk
   exact Ws ho hu hI hv.at0 hK
  ·cases hk
 ·simp only [Option.some.injEq,Prod.mk.injEq] at hk;obtain⟨rfl,rfl⟩:=hk;exact Tl ho hI hv.at0 hK
 ·simp only [Option.some.injEq,Prod.mk.injEq] at hk;obtain⟨rfl,rfl⟩:=hk;exact hK.elim
 ·simp only [Option.some.injEq,Prod.mk.injEq] at hk;obtain⟨rfl,rfl⟩:=hk;exact Yj ho hI hv.at0 hK
 ·-- convert
  split at hk
  ·rename_i k1 k2 h1 h2
   simp only [Option.some.injEq,Prod.mk.injEq] at hk;obtain⟨rfl,rfl⟩:=hk;exact Wb ho h1 h2 hI hv.at0 hK
  ·rename_i h1 h2
   simp only [Option.some.injEq,Prod.mk.injEq] at hk;obtain⟨rfl,rfl⟩:=hk;exact Wc ho h1 h2 hI hv.at0 hK
  ·cases hk
 ·simp only [Option.some.injEq,Prod.mk.injEq] at hk;obtain⟨rfl,rfl⟩:=hk;exact Wd ho hI hv.at0 hK
 ·simp only [Option.some.injEq,Prod.mk.injEq] at hk;obtain⟨rfl,rfl⟩:=hk;exact T9 ho hI hv.at0 hK
 ·split at hk
  ·rename_i hf
   simp only [Option.some.injEq,Prod.mk.injEq] at hk;obtain⟨rfl,rfl⟩:=hk
   have : ∀(l:Array Operand),l.isEmpty=true→l = #[]:=fun l h=>by simpa using h
   rw [this _ hf] at ho
   exact Ta ho hI hv hK
  ·cases hk
 ·-- slice
  split at hk
  ·rename_i len e hu
   split at hk
   ·rename_i j hj
    split at hk
    ·cases hk
    ·rename_i hm
     simp only [Option.some.injEq,Prod.mk.injEq] at hk;obtain⟨rfl,rfl⟩:=hk
     simp at hm
     subst hm
     exact Wi ho hu hj hI hv hK
   ·cases hk
  ·rename_i hu
   split at hk
   ·cases hk
   ·rename_i hm
    simp only [Option.some.injEq,Prod.mk.injEq] at hk;obtain⟨rfl,rfl⟩:=hk
    simp at hm
    subst hm
    exact Wj ho hu hI hv hK
  ·rename_i e hu
   split at hk
   ·rename_i j hj
    split at hk
    ·cases hk
    ·simp only [Option.some.injEq,Prod.mk.injEq] at hk;obtain⟨rfl,rfl⟩:=hk
     exact Wk ho hu hj hI hv hK
   ·cases hk
  ·cases hk
 ·-- call
  rename_i c
  split at hk
  ·simp only [Option.some.injEq,Prod.mk.injEq] at hk;obtain⟨rfl,rfl⟩:=hk;exact hK.elim
  ·simp only [Option.some.injEq,Prod.mk.injEq] at hk;obtain⟨rfl,rfl⟩:=hk;exact hK.elim
  ·rename_i hc
   split at hk
   ·rename_i t x ht hx
    split at hk
    ·rename_i hu
     simp only [Option.some.injEq,Prod.mk.injEq] at hk;obtain⟨rfl,rfl⟩:=hk
     exact Tb ho hc ht hx hu hI hv.at0 hK
    ·rename_i e hu
     simp only [Option.some.injEq,Prod.mk.injEq] at hk;obtain⟨rfl,rfl⟩:=hk
     exact Tc ho hc ht hx hu hI hv.at0 hK
    ·rename_i n e hu
     simp only [Option.some.injEq,Prod.mk.injEq] at hk;obtain⟨rfl,rfl⟩:=hk
     exact Td ho hc ht hx hu hI hK
    ·rename_i k e hu
     simp only [Option.some.injEq,Prod.mk.injEq] at hk;obtain⟨rfl,rfl⟩:=hk
     exact Te ho hc ht hx hu hI hv.at0 hK
    ·cases hk
   ·cases hk
  ·rename_i hc
   split at hk
   ·rename_i t u x y ht hx
    split at hk
    ·rename_i e hu htu
     split at hk
     ·rename_i j hj
      split at hk
      ·rename_i z hz
       split at hk
       ·rename_i hcond
        simp only [Option.some.injEq,Prod.mk.injEq] at hk;obtain⟨rfl,rfl⟩:=hk
        have:t=u:=by simpa using htu
        subst this
        exact Wg ho hc ht hx hu hj hz hcond.1 hcond.2 hI hv.at0 hv.at1 hK
       ·cases hk
      ·cases hk
     ·cases hk
    ·rename_i e hu htu
     split at hk
     ·rename_i j hu2 hj
      split at hk
      ·rename_i z hz
       split at hk
       ·rename_i hcond
        simp only [Option.some.injEq,Prod.mk.injEq] at hk;obtain⟨rfl,rfl⟩:=hk
        exact Tf ho hc ht hx hu hu2 hj hz hcond.1 hcond.2.1 (by rw [hcond.1];exact hcond.2.2) hI hv.at0 hv.at1 hK
       ·cases hk
      ·cases hk
     ·cases hk
    ·cases hk
   ·cases hk
  ·rename_i hc
   split at hk
   ·rename_i x y hx
    simp only [Option.some.injEq,Prod.mk.injEq] at hk;obtain⟨rfl,rfl⟩:=hk
    exact Q2 (mx:=false) ho hc hx hI hv.at0 hv.at1 hK
   ·cases hk
  ·rename_i hc
   split at hk
   ·rename_i x y hx
    simp only [Option.some.injEq,Prod.mk.injEq] at hk;obtain⟨rfl,rfl⟩:=hk
    exact Q2 (mx:=true) ho hc hx hI hv.at0 hv.at1 hK
   ·cases hk
  ·rename_i hc
   split at hk
   ·rename_i t x ht hx
    split at hk
    ·rename_i e hu
     split at hk
     ·rename_i j hj
      split at hk
      ·rename_i z hz
       split at hk
       ·rename_i zv hzv
        split at hk
        ·rename_i hcond
         simp only [Option.some.injEq,Prod.mk.injEq] at hk;obtain⟨rfl,rfl⟩:=hk
         exact W5 ho hc ht hx hu hj hz hzv hcond.1 hcond.2.1 hcond.2.2 hI hv.at0 hK
        ·cases hk
       ·cases hk
      ·cases hk
     ·cases hk
    ·cases hk
   ·cases hk
  ·rename_i hc
   split at hk
   ·rename_i t u x y ht hx
    split at hk
    ·rename_i e hu
     split at hk
     ·rename_i j hj
      split at hk
      ·rename_i hcond
       simp only [Option.some.injEq,Prod.mk.injEq] at hk;obtain⟨rfl,rfl⟩:=hk
       obtain⟨hs1,rfl⟩:=hcond
       exact Wf ho hc ht hx hu hj hs1 hI hv.at0 hv.at1 hK
      ·cases hk
     ·cases hk
    ·cases hk
   ·cases hk
  ·cases hk
 ·simp only [Option.some.injEq,Prod.mk.injEq] at hk;obtain⟨rfl,rfl⟩:=hk;exact Q9 ho hI hK
 ·split at hk
  ·rename_i ka ks z hm
   simp only [Option.some.injEq,Prod.mk.injEq] at hk;obtain⟨rfl,rfl⟩:=hk;exact Wm ho hm hI hv.at0 hv.at1 hK
  ·cases hk
 ·split at hk
  ·rename_i ka ks z hm
   simp only [Option.some.injEq,Prod.mk.injEq] at hk;obtain⟨rfl,rfl⟩:=hk;exact Wn ho hm hI hv.at0 hv.at1 hv.at2 hK
  ·cases hk
 ·split at hk
  ·rename_i e hu
   split at hk
   ·rename_i j hj
    split at hk
    ·rename_i z hz
     split at hk
     ·rename_i zv hzv
      split at hk
      ·rename_i hcond
       simp only [Option.some.injEq,Prod.mk.injEq] at hk;obtain⟨rfl,rfl⟩:=hk
       exact Wo ho hu hj hz hzv hcond.1 hcond.2.1 hcond.2.2 hI hv.at0 hv.at1 hK
      ·cases hk
     ·cases hk
    ·cases hk
   ·cases hk
  ·cases hk
 ·cases hk

theorem Yn {e:TypeId} {sz bytes:Nat} {xs:List Operand} (hk:kindOf P o=some (.app e sz bytes,xs)) :
  ∃c t j z x y,o.op=.call c∧c.callee=.builtin .append∧c.argTypes.toList=[t,t]∧c.args.toList=[x,y]∧xs=[x,y]∧P.underlying t=some (.slice e)∧P.info? e=some j∧j.zero=some z∧0<j.size∧z.cells.size=j.size∧sz=j.size∧bytes=j.bytes:=by
 unfold kindOf at hk
 split at hk
 all_goals try (simp only [Option.some.injEq,Prod.mk.injEq,reduceCtorEq,false_and] at hk;done)
 all_goals try ((repeat' split at hk)<;>simp only [Option.some.injEq,Prod.mk.injEq,reduceCtorEq,false_and,Option.map_eq_some_iff,exists_const,and_false,exists_false] at hk;done)
 ·rename_i c ho
  split at hk
  all_goals try (simp only [Option.some.injEq,Prod.mk.injEq,reduceCtorEq,false_and] at hk;done)
  ·(repeat' split at hk)<;>simp only [Option.some.injEq,Prod.mk.injEq,reduceCtorEq,false_and] at hk
  ·rename_i hc
   split at hk
   ·rename_i t u x y ht hx
    split at hk
    ·rename_i e' hu htu
     split at hk
     ·rename_i j hj
      split at hk
      ·rename_i z hz
       split at hk
       ·rename_i hcond
        simp only [Option.some.injEq,Prod.mk.injEq,EK.app.injEq] at hk
        obtain⟨⟨rfl,rfl,rfl⟩,rfl⟩:=hk
        have:t=u:=by simpa using htu
        subst this
        exact⟨c,t,j,z,x,y,ho,hc,ht,hx,rfl,hu,hj,hz,hcond.1,hcond.2,rfl,rfl⟩
       ·cases hk
      ·cases hk
     ·cases hk
    ·(repeat' split at hk)<;>simp only [Option.some.injEq,Prod.mk.injEq,reduceCtorEq,false_and] at hk
    ·cases hk
   ·cases hk
  all_goals ((repeat' split at hk)<;>simp only [Option.some.injEq,Prod.mk.injEq,reduceCtorEq,false_and] at hk)

theorem Lt {sz:Nat} : ∀(vs:List V),(∀v∈vs,(cellsV v).length=sz)→(vs.flatMap cellsV).length=vs.length*sz∧∀a b,a<vs.length→b<sz→(vs.flatMap cellsV).getD (a*sz+b) .junk=(cellsV (vs.getD a .und)).getD b .junk
 | [],_=>⟨by simp,fun a b h=>by simp at h⟩
 | v::vs,h=>by
  obtain⟨h1,h2⟩:=Lt vs fun u hu=>h u (by simp [hu])
  have h0:=h v (by simp)
  refine⟨by rw [List.flatMap_cons,List.length_append,h0,h1,List.length_cons,Nat.succ_mul];omega,fun a b ha hb=>?_⟩
  rw [List.flatMap_cons]
  cases a with
  | zero=>
   simp only [List.getD_eq_getElem?_getD,Nat.zero_mul,Nat.zero_add,List.getElem?_cons_zero,Option.getD_some]
   rw [List.getElem?_append_left (by omega)]
  | succ a=>
   have:=h2 a b (by simpa using ha) hb
   simp only [List.getD_eq_getElem?_getD,List.getElem?_cons_succ] at this ⊢
   rw [←this,List.getElem?_append_right (by rw [h0,Nat.succ_mul];omega),h0,Nat.succ_mul]
   congr 2
   omega
theorem Tm {t e:TypeId} {len:Nat} {parts:Array (Nat×Operand)} {i:TypeInfo} {z:Value} (ho:o.op=.buildSlice t len parts) (hu:P.underlying t=some (.slice e)) (hi:P.info? e=some i) (hz:i.zero=some z)
    (hix:parts.toList.map (·.1)=List.range len) (hzs:z.cells.size=i.size) (hsz:0<i.size) (hmax:len*i.size≤2 ^ 24)
    (hI:Inv g S w) {vs:List V} (hv:E6 g S.toks ρ (parts.toList.map (·.2)) vs) (hK:Ij e i.size vs S K):Ai P o ρ g S w K:=by
  unfold Ij at hK
  split at hK
  · rename_i es hes
    have hK':Kt i.size vs S K:=by unfold Kt;rw [hes];exact hK
    exact Nj ho hu hi hz hix hzs hsz hmax hI hv (Ym hK') hK'
  · obtain⟨hall,hK⟩:=hK
    have hpl:parts.toList.length=len:=by have:=congrArg List.length hix;simpa using this
    have hvl:vs.length=len:=by have:=hv.1;simp at this;simpa using this.trans (by simpa using hpl)
    let us:List Value:=parts.toList.map fun p=>ρ p.2
    have hul:us.length=len:=by simp [us,hpl]
    have hvu : ∀k,k<len→RelV g S.toks (vs.getD k .und) (us.getD k undef):=by
      intro k hk
      have hk':k<parts.size:=by simpa [←hpl] using hk
      have:=hv.2 k parts[k].2 (by simp [hk'])
      simpa [us,List.getD_eq_getElem?_getD,hk'] using this
    have hokk : ∀k,k<len→isAggV (vs.getD k .und)=true∨cellB (vs.getD k .und)=true:=by
      intro k hk
      have hk':k<vs.length:=by omega
      exact (hall _ (by simp [List.getD_eq_getElem?_getD,hk'])).2
    have hsize : ∀k,k<len→(us.getD k undef).cells.size=i.size:=by
      intro k hk
      rw [(Ba (hvu k hk) (hokk k hk)).1]
      have hk':k<vs.length:=by omega
      exact (hall _ (by simp [List.getD_eq_getElem?_getD,hk'])).1
    have hzip : ∀(l:List (Nat×Operand)) (k:Nat),l.map (·.1)=List.range' k l.length→(l.map fun p=>(p.1,ρ p.2))=(List.range' k l.length).zip (l.map fun p=>ρ p.2):=by
      intro l
      induction l with
      | nil=>intro k _;simp
      | cons p l ih=>
        intro k hk
        simp only [List.map_cons,List.length_cons,List.range'_succ,List.cons.injEq,List.zip_cons_cons] at hk ⊢
        exact⟨by rw [hk.1],ih _ hk.2⟩
    have hparts:(parts.map fun (p:Nat×Operand)=>(p.1,ρ p.2)).toList=(List.range' 0 us.length).zip us:=by
      rw [Array.toList_map,hzip parts.toList 0 (by rw [hix,List.range_eq_range',hpl])]
      simp [us]
    let zeros:Array Value:=(Array.range (len*i.size)).map (z.cells[· % z.cells.size]!)
    obtain⟨out,h1,h2,h3⟩:=fill_row i.size hsz us 0 zeros (fun u hu'=>by
      obtain⟨k,hk⟩:=List.mem_iff_getElem?.1 hu'
      have hkl:k<us.length:=(List.getElem?_eq_some_iff.1 hk).1
      have:=hsize k (by omega)
      simpa [List.getD_eq_getElem?_getD,hk] using this) (by simp [zeros,hul])
    have houts:out.size=len*i.size:=by rw [h2];simp [zeros]
    have hrun:(execOp ρ o).run P w=.ok (.value (.slice (some ⟨w.heap.size,0,none⟩) len len)) (w.alloc (.cells out e)):=by
      have hmax' : ¬(2 ^ 24<len*i.size):=by omega
      simp only [execOp,ho,Instr.buildSlice,run_underlying hu,At hi,Sem.run_bind,Result.andThen_ok,Sem.run_ite]
      have hfill:Instr.fill (fun i_1=>some (i_1*i.size,i.size)) (Array.map (fun x=>z.cells[x % z.cells.size]!) (Array.range (len*i.size))) ((parts.map fun (p:Nat×Operand)=>(p.1,ρ p.2)).toList)=some out:=by
        rw [hparts];exact h1
      by_cases h0:len*i.size=0
      · have hl0:len=0:=by rcases Nat.mul_eq_zero.1 h0 with h|h<;>omega
        have hp0:parts = #[]:=by
          apply Array.toList_inj.1
          exact List.eq_nil_of_length_eq_zero (by omega)
        have ho0:out = #[]:=Array.eq_empty_of_size_eq_zero (by omega)
        subst hp0
        subst ho0
        subst hl0
        simp [Instr.fill,newRow,show Array.range 0 = #[] from rfl]
      · have hz':((zeroValue e).run P w)=.ok z w:=by simp [zeroValue,typeInfo,hi,hz]
        have hmap:(Array.map (fun (x:Nat×Operand)=>match x with|(i_1,x)=>(i_1,ρ x)) parts)=parts.map fun (p:Nat×Operand)=>(p.1,ρ p.2):=rfl
        rw [Array.toList_map] at hfill
        simp [hmax',h0,hz',newRow]
        rw [hfill]
        simp
    obtain⟨f1,f2⟩:=Lt vs fun v hv=>(hall v hv).1
    have hlm:len≤maxLen:=by
      have:len≤len*i.size:=Nat.le_mul_of_pos_right _ hsz
      unfold maxLen;omega
    obtain⟨g',hr,hmv⟩:=Om hI e i.size len len hsz out (vs.flatMap cellsV) houts (Nat.le_refl _) hlm (by rw [f1,hvl,houts];exact Nat.le_refl _) (fun q hq=>by
      rw [f1,hvl] at hq
      have hd:=Nat.div_add_mod q i.size
      have hb:q % i.size<i.size:=Nat.mod_lt _ hsz
      have ha:q / i.size<len:=Nat.div_lt_of_lt_mul (by rw [Nat.mul_comm];exact hq)
      have hqe:q / i.size*i.size+q % i.size=q:=by rw [Nat.mul_comm];exact hd
      have e1:=f2 (q / i.size) (q % i.size) (by rw [hvl];exact ha) hb
      have e2:=h3 (q / i.size) (q % i.size) hb (Nat.zero_le _) (by rw [Nat.zero_add,hul];exact ha)
      rw [hqe] at e1
      simp only [Nat.zero_add,Nat.sub_zero,hqe] at e2
      rw [e1,e2]
      refine (Ba (hvu (q / i.size) ha) (hokk _ ha)).2 _ ?_
      rw [(hall _ (by have : q / i.size < vs.length := by rw [hvl]; exact ha
                      simp [List.getD_eq_getElem?_getD,this])).1]
      exact hb)
    rw [hvl] at hK
    exact⟨_,_,g',_,_,.inl hrun,hK,hr,hmv⟩
theorem A1h {t e e':TypeId} {len:Nat} {parts:Array (Nat×Operand)} (h:(if true=true then nestO P o else none)=some e) (ho:o.op=.buildSlice t len parts) (hu:P.underlying t=some (.slice e')):e=e':=by
 rw [if_pos rfl] at h
 unfold nestO at h
 rw [ho] at h
 simp only [hu] at h
 repeat' split at h
 all_goals first|(simp only [Option.some.injEq] at h;exact h.symm)|cases h
theorem Yo {sz:Nat} {xs:List Operand} (hk:kindOf P o=some (.bsl sz,xs)) :
  ∃t len parts i z e,o.op=.buildSlice t len parts∧P.underlying t=some (.slice e)∧P.info? e=some i∧i.zero=some z∧parts.toList.map (·.1)=List.range len∧z.cells.size=i.size∧0<i.size∧len*i.size≤2 ^ 24∧sz=i.size∧xs=parts.toList.map (·.2):=by
 unfold kindOf at hk
 split at hk
 all_goals try (simp only [Option.some.injEq,Prod.mk.injEq,reduceCtorEq,false_and] at hk;done)
 all_goals try ((repeat' split at hk)<;>simp only [Option.some.injEq,Prod.mk.injEq,reduceCtorEq,false_and,Option.map_eq_some_iff,exists_const,and_false,exists_false] at hk;done)
 ·rename_i t len parts ho
  split at hk
  ·rename_i e hu
   split at hk
   ·rename_i i hi
    split at hk
    ·rename_i z hz
     split at hk
     ·rename_i hc
      simp only [Option.some.injEq,Prod.mk.injEq,EK.bsl.injEq] at hk
      obtain⟨rfl,rfl⟩:=hk
      exact⟨t,len,parts,i,z,e,ho,hu,hi,hz,hc.1,hc.2.1,hc.2.2.1,hc.2.2.2,rfl,rfl⟩
     ·cases hk
    ·cases hk
   ·cases hk
  ·cases hk
theorem Qa {fl:Bool} {k:EK} {xs:List Operand} (hk:kindB P fl o=some (k,xs)) (hI:Inv g S w) {vs:List V} (hv:E6 g S.toks ρ xs vs) (hK:Af k vs S K):Ai P o ρ g S w K:=by
 unfold kindB at hk
 split at hk
 ·rename_i e sz bytes ys h0
  cases fl
  ·simp only [Bool.false_eq_true,if_false,Option.some.injEq,Prod.mk.injEq] at hk;obtain⟨rfl,rfl⟩:=hk;exact Hy h0 hI hv hK
  ·simp only [if_true,Option.some.injEq,Prod.mk.injEq] at hk;obtain⟨rfl,rfl⟩:=hk
   obtain⟨c,t,j,z,x,y,ho,hc,ht,hx,rfl,hu,hj,hz,h1,h2,rfl,rfl⟩:=Yn h0
   exact Tj ho hc ht hx hu hj hz h1 h2 hI hv.at0 hv.at1 hK
 ·rename_i sz ys h0
  split at hk
  ·rename_i e he
   simp only [Option.some.injEq,Prod.mk.injEq] at hk;obtain⟨rfl,rfl⟩:=hk
   cases fl
   ·simp at he
   ·obtain⟨t,len,parts,i,z,e',ho,hu,hi,hz,hix,hzs,hsz,hmax,rfl,rfl⟩:=Yo h0
    have he2:=A1h he ho hu
    subst he2
    exact Tm ho hu hi hz hix hzs hsz hmax hI hv hK
  ·simp only [Option.some.injEq,Prod.mk.injEq] at hk;obtain⟨rfl,rfl⟩:=hk
   exact Hy h0 hI hv hK
 ·exact Hy hk hI hv hK

theorem Tn {fl:Bool} {f:Nat} {xs:List Operand} (hk:kindB P fl o=some (.call f,xs)):kindOf P o=some (.call f,xs):=by
 unfold kindB at hk
 split at hk
 ·split at hk<;>simp at hk
 ·split at hk<;>simp at hk
 ·exact hk
theorem Qb {fl:Bool} {xs:List Operand} (hk:kindB P fl o=some (.callv,xs)):kindOf P o=some (.callv,xs):=by
 unfold kindB at hk
 split at hk
 ·split at hk<;>simp at hk
 ·split at hk<;>simp at hk
 ·exact hk

end
end E
end Go.Proofs.YtmlpmdccfmmpoaaGreatDoor
end

/- The engine, part 14: the operations of a region that keeps the order of the text; calls. -/
section
set_option linter.unusedSimpArgs false
set_option linter.unusedVariables false
namespace Go.Proofs.YtmlpmdccfmmpoaaGreatDoor
namespace E
section
variable {P:Program} {N nb nt:Nat} {D:List Deferred} {dr fl:Bool}

def Ck (N:Nat) (D:List Deferred) (nb nt:Nat) (g:Gh) (S:St) (w:World) (next:Fr→St→Prop) (act':Act) (w':World):Prop:=
 ∃a' S' g',next a' S'∧Conc N D g' a' S' act' w'∧Mv0 nb nt g S w g' S' w'

theorem Ck.trans {g:Gh} {S:St} {w:World} {g1:Gh} {S1:St} {w1:World} {next:Fr→St→Prop} {act':Act} {w':World} (h:Mv0 nb nt g S w g1 S1 w1) (k:Ck N D nb nt g1 S1 w1 next act' w'):Ck N D nb nt g S w next act' w':=by
 obtain⟨a',S',g',h1,h2,h3⟩:=k
 exact⟨a',S',g',h1,h2,h.trans h3⟩

def On (N:Nat) (D:List Deferred) (nb nt:Nat) (g:Gh) (S:St) (w:World) (Q:Ex→Fr→St→Prop) (v:V) (u:Value) (act':Act) (w':World):Prop:=
 ∃a' S' g',Q (.pn v) a' S'∧RelV g' S'.toks v u∧Conc N D g' a' S' act' w'∧Mv0 nb nt g S w g' S' w'
theorem On.trans {g:Gh} {S:St} {w:World} {g1:Gh} {S1:St} {w1:World} {Q:Ex→Fr→St→Prop} {v:V} {u:Value} {act':Act} {w':World} (h:Mv0 nb nt g S w g1 S1 w1) (k:On N D nb nt g1 S1 w1 Q v u act' w'):On N D nb nt g S w Q v u act' w':=by
 obtain⟨a',S',g',h1,h2,h3,h4⟩:=k
 exact⟨a',S',g',h1,h2,h3,h.trans h4⟩

theorem Qc {o:Oper} {f:Nat} {xs:List Operand} (h:kindOf P o=some (.call f,xs)) : ∃c,o.op=.call c∧c.callee=.value (.func f)∧xs=c.args.toList:=by
 unfold kindOf at h
 split at h
 all_goals try (simp only [Option.some.injEq,Prod.mk.injEq,reduceCtorEq,false_and] at h;done)
 all_goals try ((repeat' split at h)<;>simp only [Option.some.injEq,Prod.mk.injEq,reduceCtorEq,false_and,Option.map_eq_some_iff,exists_const,and_false,exists_false] at h;done)
 ·rename_i c ho
  split at h
  ·rename_i f' hc
   simp only [Option.some.injEq,Prod.mk.injEq,EK.call.injEq] at h
   obtain⟨rfl,rfl⟩:=h
   exact⟨c,ho,hc,rfl⟩
  all_goals ((repeat' split at h)<;>simp only [Option.some.injEq,Prod.mk.injEq,reduceCtorEq,false_and] at h)

theorem Oo {o:Oper} {xs:List Operand} (h:kindOf P o=some (.callv,xs)) : ∃c x,o.op=.call c∧c.callee=.value x∧xs=x::c.args.toList:=by
 unfold kindOf at h
 split at h
 all_goals try (simp only [Option.some.injEq,Prod.mk.injEq,reduceCtorEq,false_and] at h;done)
 all_goals try ((repeat' split at h)<;>simp only [Option.some.injEq,Prod.mk.injEq,reduceCtorEq,false_and,Option.map_eq_some_iff,exists_const,and_false,exists_false] at h;done)
 ·rename_i c ho
  split at h
  ·simp only [Option.some.injEq,Prod.mk.injEq,reduceCtorEq,false_and] at h
  ·rename_i x hx hc
   simp only [Option.some.injEq,Prod.mk.injEq,true_and] at h
   exact⟨c,x,ho,hc,h.symm⟩
  all_goals ((repeat' split at h)<;>simp only [Option.some.injEq,Prod.mk.injEq,reduceCtorEq,false_and] at h)

theorem To {o:Oper} {xs:List Operand} (h:kindOf P o=some (.pan,xs)) : ∃x,o.op=.panic x∧xs=[x]:=by
 unfold kindOf at h
 split at h
 all_goals try (simp only [Option.some.injEq,Prod.mk.injEq,reduceCtorEq,false_and] at h;done)
 all_goals try ((repeat' split at h)<;>simp only [Option.some.injEq,Prod.mk.injEq,reduceCtorEq,false_and,Option.map_eq_some_iff,exists_const,and_false,exists_false] at h;done)
 ·rename_i x ho
  simp only [Option.some.injEq,Prod.mk.injEq,true_and] at h
  exact⟨x,ho,h.symm⟩
theorem Wt {o:Oper} {fl:Bool} {xs:List Operand} (hk:kindB P fl o=some (.pan,xs)):kindOf P o=some (.pan,xs):=by
 unfold kindB at hk
 split at hk
 ·split at hk<;>simp at hk
 ·split at hk<;>simp at hk
 ·exact hk

theorem A6s {o:Oper} {k:EK} {xs:List Operand} {ys:List Opd} {g:Gh} {a:Fr} {S:St} {act:Act} {w:World} {next:V→St→Prop} {R:V→St→Prop} {K:Act→World→Prop} {Q:Exit→Act→World→Prop}
  (hk:kindB P fl o=some (k,xs)) (hxs:opds xs=some ys) (hC:Conc N D g a S act w) (hop:opK P dr k (ys.map (opv a)) S next R)
  (hpan:dr=false→∀v S' g' u w',R v S'→RelV g' S'.toks v u→Mv g S w g' S' w'→Q (.panic [{ v:=u,recovered:=false }]) act w')
  (hnext : ∀v S' g' u w',next v S'→RelV g' S'.toks v u→Mv g S w g' S' w'→K (act.put o.dst u) w'):o.wp P act w K Q:=by
 have hrel:=Ls hC hxs
 have other:Af k (ys.map (opv a)) S next→o.wp P act w K Q:=by
  intro hst
  obtain⟨x,S',g',v,w',hrun,hn,hr,hm⟩:=Qa hk hC.inv hrel hst
  unfold Oper.wp
  rcases hrun with hrun|⟨hrun,rfl⟩
  ·rw [hrun];exact hnext _ _ _ _ _ hn hr hm
  ·rw [hrun];exact hnext _ _ _ _ _ hn hr hm
 have called : ∀(f:Nat) (args:Array Value) (vs:List V) (r:V) (S':St),(execOp act.eval o).run P w=(callFunc f args).run P w→FnS P f vs S r S'→((dr=true∨bdV r)→next r S')→args.size=vs.length→(∀j,j<vs.length→RelV g S.toks (vs.getD j .und) (args.getD j undef))→
   o.wp P act w K Q:=by
  intro f args vs r S' hrun hf hn hsz hargs
  unfold Oper.wp
  rw [hrun,hf.1 args w]
  refine (hf.2 g w args hC.inv hsz hargs).mono fun e w' he=>?_
  obtain⟨u,g',rfl,hr,hm⟩:=he
  exact hnext _ _ _ _ _ (hn (.inr hr.bd)) hr hm
 have died : ∀(f:Nat) (args:Array Value) (vs:List V) (r:V) (S':St),(execOp act.eval o).run P w=(callFunc f args).run P w→FnP P f vs S r S'→dr=false→R r S'→args.size=vs.length→(∀j,j<vs.length→RelV g S.toks (vs.getD j .und) (args.getD j undef))→
   o.wp P act w K Q:=by
  intro f args vs r S' hrun hf hdr hn hsz hargs
  unfold Oper.wp
  rw [hrun,hf.1 args w]
  refine (hf.2 g w args hC.inv hsz hargs).mono fun e w' he=>?_
  obtain⟨u,g',rfl,hr,hm⟩:=he
  exact hpan hdr _ _ _ _ _ hn hr hm
 have both : ∀(f:Nat) (args:Array Value) (vs:List V),(execOp act.eval o).run P w=(callFunc f args).run P w→Fl P dr f vs S next R→args.size=vs.length→(∀j,j<vs.length→RelV g S.toks (vs.getD j .und) (args.getD j undef))→
   o.wp P act w K Q:=by
  intro f args vs hrun hcall hsz hargs
  rcases hcall with ⟨r,S',hf,_,hn⟩|⟨hdr,⟨r,S',hf,hn⟩|⟨Φ,hf,hn⟩⟩
  ·exact called f args vs r S' hrun hf hn hsz hargs
  ·exact died f args vs r S' hrun hf hdr hn hsz hargs
  ·unfold Oper.wp
   rw [hrun,hf.1 args w]
   refine (hf.2 g w args hC.inv hsz hargs).mono fun e w' he=>?_
   obtain⟨r,S',u,g',hΦ,rfl,hr,hm⟩:=he
   exact hnext _ _ _ _ _ (hn r S' hΦ hr.bd) hr hm
 cases k with
 | pan=>
  obtain⟨hdr,hop⟩:=hop
  obtain⟨x,ho,rfl⟩:=To (Wt hk)
  split at hop
  ·rename_i t b cs hv0
   have h0:=hrel.at0
   rw [hv0] at h0
   generalize hρ:act.eval x=u at h0
   have hq : ∃t' u',u=.iface t' u':=by
    cases h0 with
    | t _ _ h=>cases h<;>exact⟨_,_,rfl⟩
   obtain⟨t',u',rfl⟩:=hq
   unfold Oper.wp
   simp only [execOp,ho,Instr.panic,hρ,goPanic]
   exact hpan hdr _ _ _ _ _ hop h0 (Mv.refl hC.inv)
  ·exact hop.elim
 | call f=>
  obtain⟨c,ho,hc,rfl⟩:=Qc (Tn hk)
  refine both f (c.args.map act.eval) _ ?_ hop (by rw [hrel.1];simp) (fun j hj=>?_)
  ·simp [execOp,ho,resolve,hc,Act.eval,Deferred.ofValue,invoke]
  ·have hlt:j<c.args.size:=by have:=hrel.1;simp at this hj ⊢;omega
   have:=hrel.2 j c.args[j] (by simp [hlt])
   simpa [hlt] using this
 | callv=>
  obtain⟨c,x,ho,hc,rfl⟩:=Oo (Qb hk)
  simp only [opK] at hop
  split at hop
  ·rename_i f caps args heq
   have h0:=hrel.2 0 x rfl
   rw [heq] at h0 hrel
   simp only [List.getD_cons_zero] at h0
   generalize hx:act.eval x=fv at h0
   cases h0 with
   | fn _ _ cs hl hr=>
   have hal:args.length=c.args.size:=by have:=hrel.1;simp at this;omega
   refine both f ((c.args.map act.eval)++cs) (args++caps) ?_ hop (by simp [hal,hl]) (fun j hj=>?_)
   ·simp [execOp,ho,resolve,hc,hx,Deferred.ofValue,invoke]
   ·rcases Nat.lt_or_ge j args.length with h1|h1
    ·have hlt:j<c.args.size:=by omega
     have:=hrel.2 (j+1) c.args[j] (by simp [hlt])
     simp only [List.getD_eq_getElem?_getD,List.getElem?_cons_succ,List.getElem?_append_left h1] at this ⊢
     have h2:j<(Array.map act.eval c.args).size:=by simp [hlt]
     simpa [Array.getElem?_append_left h2,hlt] using this
    ·have hj2:j-args.length<caps.length:=by simp at hj;omega
     have:=hr (j-args.length) hj2
     have h2:(Array.map act.eval c.args).size≤j:=by simp;omega
     simp only [List.getD_eq_getElem?_getD,List.getElem?_append_right h1] at this ⊢
     have e:j-(Array.map act.eval c.args).size=j-args.length:=by simp [hal]
     rw [Array.getD_eq_getD_getElem?,Array.getElem?_append_right h2,e,←Array.getD_eq_getD_getElem?]
     have h3:(caps[j-args.length]?).getD V.und=(caps[j-args.length]?).getD V.junk:=by simp [hj2]
     rw [h3]
     exact this
  ·exact hop.elim
 | _=>exact other hop

theorem Tp {ops:Array Oper} {o:Oper} {e:EO} (h:eopOf P fl ops o=some e) :
  ∃k xs ys,kindB P fl o=some (k,xs)∧opds xs=some ys∧e.k=k∧e.xs=ys∧e.d=o.dst∧
   ((o.guard=none∧e.g=none)∨∃j want t,o.guard=some (j,want)∧(ops[j]?).bind (·.dst)=some t∧e.g=some (t,want)):=by
 unfold eopOf at h
 split at h
 ·cases h
 ·rename_i k xs hk
  split at h
  ·cases h
  ·rename_i ys hys
   split at h
   ·rename_i hg
    simp only [Option.some.injEq] at h
    subst h
    exact⟨k,xs,ys,hk,hys,rfl,rfl,rfl,.inl ⟨hg,rfl⟩⟩
   ·rename_i j want hg
    split at h
    ·rename_i t ht
     simp only [Option.some.injEq] at h
     subst h
     exact⟨k,xs,ys,hk,hys,rfl,rfl,rfl,.inr ⟨j,want,t,hg,ht,rfl⟩⟩
    ·cases h

theorem Qd {ops:Array Oper} {i:Nat} {o:Oper} {e:EO} (hi:ops[i]?=some o) (he:eopOf P fl ops o=some e) (hd : ∀k,o.dst=some k→k<N) {g:Gh} {a:Fr} {S:St} {act:Act} {w:World} {next:Fr→St→Prop} {R:V→Fr→St→Prop} {Q:Exit→Act→World→Prop}
  (hC:Conc N D g a S act w) (hb:nb≤S.boxes.length) (ht:nt≤S.toks.length)
  (hpan:dr=false→∀v S' g' u w',R v a S'→RelV g' S'.toks v u→Conc N D g' a S' act w'→Mv0 nb nt g S w g' S' w'→Q (.panic [{ v:=u,recovered:=false }]) act w') (h:eop1 P dr e next a S R):wpOp P ops Q i (Ck N D nb nt g S w next) act w:=by
 obtain⟨k,xs,ys,hk,hxs,rfl,rfl,hdst,hg⟩:=Tp he
 have run:opK P dr e.k (e.xs.map (opv a)) S (fun v S'=>next (Br a e.d v) S') (fun v S'=>R v a S')→Region.wanted o (yielded ops act.tmps)=true→wpOp P ops Q i (Ck N D nb nt g S w next) act w:=by
  intro hop hw
  unfold wpOp
  simp only [hi,hw,if_true]
  refine .inl (A6s hk hxs hC hop (fun hdr v S' g' u w' hn hr hm=>hpan hdr v S' g' u w' hn hr ⟨hm.inv,hC.defers,hC.size,fun j=>(hC.rel j).mono hm.ext⟩ (hm.toMv0 hC.inv hb ht)) fun v S' g' u w' hn hr hm=>?_)
  exact⟨Br a e.d v,S',g',hn,by rw [hdst];exact hC.put hm o.dst hd hr,hm.toMv0 hC.inv hb ht⟩
 have skip:next (Br a e.d .und) S→Region.wanted o (yielded ops act.tmps)=false→wpOp P ops Q i (Ck N D nb nt g S w next) act w:=by
  intro hn hw
  unfold wpOp
  simp only [hi,hw,Bool.false_eq_true,if_false]
  exact⟨Br a e.d .und,S,g,hn,by rw [hdst];exact hC.put (Mv.refl hC.inv) o.dst hd .und,Mv0.refl hb ht⟩
 unfold eop1 Hx at h
 rcases hg with ⟨hg,heg⟩|⟨j,want,t,hg,hjt,heg⟩
 ·rw [heg] at h
  exact run h (by simp [Region.wanted,hg])
 ·rw [heg] at h
  simp only at h
  have hy:=hC.rel t
  split at h
  ·rename_i b hat
   rw [hat] at hy
   have hv:act.tmps[t]?=some (.bool b):=by
    generalize hu:act.tmps.getD t undef=u at hy
    cases hy with
    | t _ _ hh=>cases hh with
    | bool=>
     simp only [Array.getD_eq_getD_getElem?] at hu
     cases hq:act.tmps[t]? with
     | none=>simp [hq,undef] at hu
     | some q=>simp [hq] at hu;rw [hu]
   have hyl:yielded ops act.tmps j=some b:=by simp [yielded,hjt,hv]
   split at h
   ·rename_i hbw
    exact run h (by simp [Region.wanted,hg,hyl,hbw])
   ·rename_i hbw
    exact skip h (by simp [Region.wanted,hg,hyl,hbw])
  ·rename_i hat
   rw [hat] at hy
   have hyl:yielded ops act.tmps j=none:=by
    generalize hu:act.tmps.getD t undef=u at hy
    cases hy with
    | und=>
     simp only [Array.getD_eq_getD_getElem?] at hu
     cases hq:act.tmps[t]? with
     | none=>simp [yielded,hjt,hq]
     | some q=>simp [hq] at hu;subst hu;simp [yielded,hjt,hq,undef]
   exact skip h (by simp [Region.wanted,hg,hyl])
  ·exact h.elim

theorem Ck.conc {g:Gh} {S:St} {w:World} {a:Fr} {act:Act} {next:Fr→St→Prop} (hC:Conc N D g a S act w) (hb:nb≤S.boxes.length) (ht:nt≤S.toks.length) (h:next a S):Ck N D nb nt g S w next act w:=
 ⟨a,S,g,h,hC,Mv0.refl hb ht⟩

theorem Nn {ops:Array Oper} (hd : ∀(i:Nat) (o:Oper),ops[i]?=some o→∀k,o.dst=some k→k<N) : ∀(m i:Nat) (es:List EO),i+m=ops.size→es.length=m→(∀j,j<m→∃o e,ops[i+j]?=some o∧es[j]?=some e∧eopOf P fl ops o=some e)→
  ∀{g:Gh} {a:Fr} {S:St} {act:Act} {w:World} {Q:Ex→Fr→St→Prop} {Q':Exit→Act→World→Prop},Conc N D g a S act w→nb≤S.boxes.length→nt≤S.toks.length→Bq P dr es Q a S→
   (∀act' w',Ck N D nb nt g S w (Q .nx) act' w'→Q' .normal act' w')→(∀v u act' w',On N D nb nt g S w Q v u act' w'→Q' (.panic [{ v:=u,recovered:=false }]) act' w')→wpOps P ops Q' (List.range' i m) act w
 | 0,i,es,_,hl,_,g,a,S,act,w,Q,Q',hC,hb,ht,h,hQ,hP=>by
  have:es=[]:=List.eq_nil_of_length_eq_zero hl
  subst this
  simp only [List.range'_zero,wpOps]
  exact hQ _ _ (Ck.conc hC hb ht h)
 | m+1,i,es,him,hl,hes,g,a,S,act,w,Q,Q',hC,hb,ht,h,hQ,hP=>by
  obtain⟨o,e,ho,he,hoe⟩:=hes 0 (by omega)
  cases es with
  | nil=>simp at hl
  | cons e' es=>
   simp at he
   subst he
   rw [List.range'_succ,wpOps_cons]
   simp only [Nat.add_zero] at ho
   refine wpOp_mono (fun act' w' hbh=>?_) (Qd (nb:=nb) (nt:=nt) ho hoe (hd i o ho) hC hb ht (fun _ v S' g' u w' hr hv hC' hm=>hP v u act w' ⟨a,S',g',hr,hv,hC',hm⟩) h)
   obtain⟨a',S',g',hn,hC',hm⟩:=hbh
   exact Nn hd m (i+1) es (by omega) (by simpa using hl) (fun j hj=>by
    obtain⟨o,e,h1,h2,h3⟩:=hes (j+1) (by omega)
    exact⟨o,e,by rw [←h1];congr 1;omega,by simpa using h2,h3⟩) hC' hm.nb hm.nt hn (fun act'' w'' hb''=>hQ _ _ (Ck.trans hm hb'')) (fun v u act'' w'' hb''=>hP _ _ _ _ (On.trans hm hb''))

end
end E
end Go.Proofs.YtmlpmdccfmmpoaaGreatDoor
end
