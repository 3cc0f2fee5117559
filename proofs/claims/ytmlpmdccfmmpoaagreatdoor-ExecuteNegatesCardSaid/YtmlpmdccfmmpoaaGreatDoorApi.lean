/- Go's data types as trees: what a value of each holds, cell by cell. Printed by gen_api.py. -/
import Derived.OpenShut
import Derived.Test.YtmlpmdccfmmpoaaGreatDoorEd
import Derived.ChangeReads
import Derived.ChangeArms
import Derived.DataReads
set_option linter.unusedSimpArgs false
set_option linter.unusedVariables false
namespace Go.Proofs.YtmlpmdccfmmpoaaGreatDoor
open E
def Sh (P:Program):Nat→TypeId→List T→Prop
 | 0,_,_=>False
 | n+1,t,ts=>match P.underlying t with
  | some .bool=>∃b,ts=[.bool b]
  | some (.int k)=>∃x,ts=[.int k x]∧(Lit.int k x).wf=true
  | some .string=>∃s:List UInt8,ts=[.str s]∧s.length≤maxLen
  | some (.slice e)=>∃es,ts=[.sl es]∧∀r∈es,Sh P n e r
  | some (.struct fs)=>ts.length=P.cellsOf t∧∀f∈fs.toList,Sh P n f.type ((ts.drop f.offset).take (P.cellsOf f.type))
  | some (.array m e)=>ts.length=P.cellsOf t∧∀i,i<m→Sh P n e ((ts.drop (i*P.cellsOf e)).take (P.cellsOf e))
  | _=>False
def A1q (P:Program) (ok:TypeId→Bool) (t:TypeId):Bool:=
 match P.underlying t with
 | some .bool|some (.int _)|some .string=>P.cellsOf t==1
 | some (.slice e)=>P.cellsOf t==1&&decide (0<P.cellsOf e)&&ok e
 | some (.struct fs)=>P.cellsOf t==(fs.toList.map fun f=>P.cellsOf f.type).sum&&fs.toList.all (fun f=>ok f.type) &&
   (List.range fs.toList.length).all fun j=>match fs.toList[j]? with|some f=>f.offset==((fs.toList.take j).map fun f=>P.cellsOf f.type).sum|none=>true
 | some (.array m e)=>P.cellsOf t==m*P.cellsOf e&&ok e
 | _=>false
def okC (P:Program) (l:List TypeId):Bool:=l.all fun t=>A1q P (fun u=>l.contains u) t
theorem Yx {P:Program} {l:List TypeId} (h:okC P l=true) {t:TypeId} (ht:l.contains t=true):A1q P (fun u=>l.contains u) t=true:=by
 unfold okC at h
 rw [List.all_eq_true] at h
 exact h t (by simpa using ht)

def Ic (w:World) (x o:Nat):Option Value:=w.cell? ⟨x,o,none⟩
def Fd (w:World) (ts:List T) (cs:List Value):Prop:=ts.length=cs.length∧∀j,j<cs.length→RelT (Ic w) (ts.getD j .nilp) (cs.getD j undef)
theorem Fd.one {w:World} {x:T} {v:Value} (h:RelT (Ic w) x v):Fd w [x] [v]:=⟨rfl,fun j hj=>by
 have:j=0:=by simpa using hj
 subst this;simpa using h⟩

theorem Wz {w:World} {a:Addr} {v:Value} (h:w.cell? a=some v):a.spot=none:=by
 unfold World.cell? at h
 split at h
 ·split at h
  ·cases h
  ·rename_i hs;simpa using hs
 ·cases h

theorem Fd.append {w:World} {a b:List T} {c d:List Value} (h1:Fd w a c) (h2:Fd w b d):Fd w (a++b) (c++d):=by
 refine⟨by simp [h1.1,h2.1],fun j hj=>?_⟩
 rcases Nat.lt_or_ge j c.length with h|h
 ·have:=h1.2 j h
  simp only [List.getD_eq_getElem?_getD,List.getElem?_append_left (show j<a.length by have:=h1.1;omega),List.getElem?_append_left h] at this ⊢
  exact this
 ·have:=h2.2 (j-c.length) (by simp at hj;omega)
  simp only [List.getD_eq_getElem?_getD,List.getElem?_append_right (show a.length≤j by have:=h1.1;omega),List.getElem?_append_right h,h1.1] at this ⊢
  exact this
theorem Nu {P:Program} {w:World} {n:Nat} : ∀(fl:List Field) (off:Nat) (cs:List Value),cs.length=(fl.map fun f=>P.cellsOf f.type).sum→
  (∀(j:Nat) f,fl[j]?=some f→f.offset=off+((fl.take j).map fun f=>P.cellsOf f.type).sum)→
  (∀(j:Nat) f,fl[j]?=some f→∃ts,Sh P n f.type ts∧Fd w ts ((cs.drop (f.offset-off)).take (P.cellsOf f.type)))→
  ∃ts,Fd w ts cs∧∀(j:Nat) f,fl[j]?=some f→Sh P n f.type ((ts.drop (f.offset-off)).take (P.cellsOf f.type))
 | [],off,cs,hl,_,_=>by
  have:cs=[]:=List.eq_nil_of_length_eq_zero (by simpa using hl)
  subst this
  exact⟨[],⟨rfl,by simp⟩,by simp⟩
 | f::fl,off,cs,hl,ho,hf=>by
  simp only [List.map_cons,List.sum_cons] at hl
  have o0:=ho 0 f rfl
  simp at o0
  obtain⟨t0,s0,r0⟩:=hf 0 f rfl
  rw [o0,Nat.sub_self,List.drop_zero] at r0
  have l0:t0.length=P.cellsOf f.type:=by rw [r0.1];simp;omega
  obtain⟨ts,r1,s1⟩:=Nu (P:=P) (w:=w) (n:=n) fl (off+P.cellsOf f.type) (cs.drop (P.cellsOf f.type)) (by simp;omega)
   (fun j g hg=>by have:=ho (j+1) g (by simpa using hg);simp only [List.take_succ_cons,List.map_cons,List.sum_cons] at this;omega)
   (fun j g hg=>by
    have hh:=ho (j+1) g (by simpa using hg)
    simp only [List.take_succ_cons,List.map_cons,List.sum_cons] at hh
    obtain⟨ts,a,b⟩:=hf (j+1) g (by simpa using hg)
    refine⟨ts,a,?_⟩
    rw [List.drop_drop]
    rw [show P.cellsOf f.type+(g.offset-(off+P.cellsOf f.type))=g.offset-off by omega]
    exact b)
  refine⟨t0++ts,by have:=r0.append r1;rwa [List.take_append_drop] at this,fun j g hg=>?_⟩
  cases j with
  | zero=>
   simp at hg;subst hg
   rw [o0,Nat.sub_self,List.drop_zero,List.take_append_of_le_length (by omega),List.take_of_length_le (by omega)]
   exact s0
  | succ j=>
   have hh:=ho (j+1) g hg
   simp only [List.take_succ_cons,List.map_cons,List.sum_cons] at hh
   simp at hg
   have:=s1 j g hg
   rw [List.drop_append,List.drop_of_length_le (by omega),List.nil_append,l0,show g.offset-off-P.cellsOf f.type=g.offset-(off+P.cellsOf f.type) by omega]
   exact this

theorem Qr {w:World} {c:Nat} {Q:List T→Prop} : ∀(m:Nat) (cs:List Value),cs.length=m*c→(∀i,i<m→∃ts,Q ts∧Fd w ts ((cs.drop (i*c)).take c))→
  ∃ts,Fd w ts cs∧∀i,i<m→Q ((ts.drop (i*c)).take c)
 | 0,cs,hl,_=>by
  have:cs=[]:=List.eq_nil_of_length_eq_zero (by simpa using hl)
  subst this
  exact⟨[],⟨rfl,by simp⟩,by simp⟩
 | m+1,cs,hl,h=>by
  rw [Nat.succ_mul] at hl
  obtain⟨t0,s0,r0⟩:=h 0 (by omega)
  rw [Nat.zero_mul,List.drop_zero] at r0
  have l0:t0.length=c:=by rw [r0.1];simp;omega
  obtain⟨ts,r1,s1⟩:=Qr (w:=w) (c:=c) (Q:=Q) m (cs.drop c) (by simp;omega) (fun i hi=>by
   obtain⟨ts,a,b⟩:=h (i+1) (by omega)
   refine⟨ts,a,?_⟩
   rw [List.drop_drop,show c+i*c=(i+1)*c by rw [Nat.succ_mul];omega]
   exact b)
  refine⟨t0++ts,by have:=r0.append r1;rwa [List.take_append_drop] at this,fun i hi=>?_⟩
  cases i with
  | zero=>
   rw [Nat.zero_mul,List.drop_zero,List.take_append_of_le_length (by omega),List.take_of_length_le (by omega)]
   exact s0
  | succ i=>
   have:=s1 i (by omega)
   rw [List.drop_append,List.drop_of_length_le (by rw [Nat.succ_mul];omega),List.nil_append,l0,show (i+1)*c-c=i*c by rw [Nat.succ_mul];omega]
   exact this

theorem V3 {H:Type} {enc:TypeId×Value→H} {P:Program} {w:World} {l:List TypeId} (hC:okC P l=true) : ∀(n:Nat) (t:TypeId) (cs:List Value) (x:DataW H×List MemPlace),l.contains t=true→
  DataW.trod enc P w 0 (fun _=>true) true n t cs=some x→∃ts,Sh P n t ts∧Fd w ts cs
 | 0,t,cs,x,hok,h=>by simp [DataW.trod] at h
 | n+1,t,cs,x,hok,h=>by
  have ih:=fun t cs x=>V3 (H:=H) (enc:=enc) (P:=P) (w:=w) hC n t cs x
  replace hok:=Yx hC hok
  unfold A1q at hok
  unfold Sh
  split at hok
  ·rename_i hu
   obtain⟨b,rfl,_⟩:=DataW.trod_bool hu h
   exact⟨_,⟨_,rfl⟩,Fd.one (.bool _)⟩
  ·rename_i k hu
   obtain⟨v,rfl,_,hw⟩:=DataW.trod_int hu h
   exact⟨_,⟨_,rfl,hw⟩,Fd.one (.int _ _)⟩
  ·rename_i hu
   obtain⟨s,rfl,_,hs⟩:=DataW.trod_string hu h
   refine⟨_,⟨s.data.toList,rfl,by simpa using hs⟩,Fd.one ?_⟩
   have:=RelT.str (I:=Ic w) s.data.toList
   simpa using this
  ·rename_i e hu
   simp only [Bool.and_eq_true,decide_eq_true_eq] at hok
   rcases DataW.trod_slice hu h with ⟨rfl,_⟩|⟨a,len,cap,elems,rest,m,hm,rfl,_,_,hlc,hcm,hel,hget,_,_⟩
   ·exact⟨_,⟨[],rfl,by simp⟩,Fd.one .slnil⟩
   ·have:n=m:=by omega
    subst this
    rcases Nat.eq_zero_or_pos len with h0|h0
    ·subst h0
     exact⟨_,⟨[],rfl,by simp⟩,Fd.one (.slz _ _ hcm)⟩
    have each : ∀i,i<len→∃cs' ts,w.cells? 0 (a.add (i*P.cellsOf e)) (P.cellsOf e)=some cs'∧Sh P n e ts∧Fd w ts cs':=by
     intro i hi
     have h1:=hget i hi
     rw [List.getElem?_eq_getElem (by omega),Option.bind_eq_some_iff] at h1
     obtain⟨cs',h2,h3⟩:=h1
     obtain⟨ts,h4,h5⟩:=ih e cs' _ hok.2 h3
     exact⟨cs',ts,h2,h4,h5⟩
    have hc : ∀i,∃q:List Value×List T,i<len→w.cells? 0 (a.add (i*P.cellsOf e)) (P.cellsOf e)=some q.1∧Sh P n e q.2∧Fd w q.2 q.1:=by
     intro i
     by_cases hi:i<len
     ·obtain⟨cs',ts,hh⟩:=each i hi;exact⟨(cs',ts),fun _=>hh⟩
     ·exact⟨([],[]),fun h=>absurd h hi⟩
    obtain⟨q,hq⟩:=Classical.axiomOfChoice hc
    have hsp:a.spot=none:=by
     obtain⟨h1,_,_⟩:=hq 0 h0
     have h2:=(World.cells?_some h1).2.2 0 hok.1.2
     have hl:=(World.cells?_some h1).2.1
     rw [List.getElem?_eq_getElem (by omega)] at h2
     have:(a.add (0*P.cellsOf e)).add 0=a:=by simp [Addr.add]
     rw [this] at h2
     exact Wz h2
    obtain⟨b,off,sp⟩:=a
    simp only at hsp
    subst hsp
    have hes:((List.range len).map fun i=>(q i).2).length=len:=by simp
    have hgd : ∀i,i<len→((List.range len).map fun i=>(q i).2).getD i []=(q i).2:=fun i hi=>by simp [List.getD_eq_getElem?_getD,hi]
    refine⟨[.sl ((List.range len).map fun i=>(q i).2)],⟨_,rfl,fun r hr=>?_⟩,Fd.one ?_⟩
    ·obtain⟨i,hi,rfl⟩:=List.mem_map.1 hr
     exact (hq i (by simpa using hi)).2.1
    ·have:=RelT.sl (I:=Ic w) ((List.range len).map fun i=>(q i).2) b off cap (P.cellsOf e) (fun i j=>(q i).1.getD j undef)
      (fun i hi=>by rw [hes] at hi;rw [hgd i hi];have h1:=hq i hi;rw [h1.2.2.1];exact (World.cells?_some h1.1).2.1)
      (by rw [hes];exact hlc) hcm
      (fun i j hi hj=>by
       rw [hes] at hi
       have h1:=hq i hi
       have h2:=(World.cells?_some h1.1).2.2 j hj
       have hl:=(World.cells?_some h1.1).2.1
       rw [List.getElem?_eq_getElem (by omega)] at h2
       unfold Ic
       have e1:((⟨b,off,none⟩:Addr).add (i*P.cellsOf e)).add j=⟨b,off+i*P.cellsOf e+j,none⟩:=by
        unfold Addr.add;split<;>split<;>simp_all
       rw [e1] at h2
       rw [h2];simp [List.getD_eq_getElem?_getD,show j<(q i).1.length by omega])
      (fun i j hi hj=>by
       rw [hes] at hi
       rw [hgd i hi]
       have h1:=hq i hi
       have hl:=(World.cells?_some h1.1).2.1
       exact h1.2.2.2 j (by omega))
     rw [hes] at this
     exact this
  ·rename_i fs hu
   simp only [Bool.and_eq_true,List.all_eq_true,List.mem_range,beq_iff_eq] at hok
   obtain⟨⟨k1,k2⟩,k3⟩:=hok
   obtain⟨xs,m,hm,_,hl,hx,hget⟩:=DataW.trod_struct hu h
   have:n=m:=by omega
   subst this
   obtain⟨ts,r,sh⟩:=Nu (P:=P) (w:=w) (n:=n) fs.toList 0 cs (by rw [hl,k1]) (fun j f hf=>by
     have hj:j<fs.toList.length:=(List.getElem?_eq_some_iff.1 hf).1
     have:=k3 j hj
     rw [hf] at this
     simpa using this)
    (fun j f hf=>by
     have h1:=hget j f (by simpa using hf)
     have hj:j<fs.toList.length:=(List.getElem?_eq_some_iff.1 hf).1
     rw [List.getElem?_eq_getElem (by rw [hx];simpa using hj)] at h1
     rw [Nat.sub_zero]
     exact ih _ _ _ (k2 f (List.mem_of_getElem? hf)) h1)
   refine⟨ts,⟨by rw [r.1,hl],fun f hf=>?_⟩,r⟩
   obtain⟨j,hj⟩:=List.mem_iff_getElem?.1 hf
   have:=sh j f hj
   rwa [Nat.sub_zero] at this
  ·rename_i mm e hu
   simp only [Bool.and_eq_true,beq_iff_eq] at hok
   obtain⟨xs,m,hm,_,hl,hx,hget⟩:=DataW.trod_array hu h
   have:n=m:=by omega
   subst this
   obtain⟨ts,r,sh⟩:=Qr (w:=w) (c:=P.cellsOf e) (Q:=Sh P n e) mm cs (by rw [hl,hok.1]) (fun i hi=>by
    have h1:=hget i hi
    rw [List.getElem?_eq_getElem (by omega)] at h1
    exact ih _ _ _ hok.2 h1)
   exact⟨ts,⟨by rw [r.1,hl],sh⟩,r⟩
  ·cases hok

def isAgg (P:Program) (t:TypeId):Bool:=match P.underlying t with|some (.struct _)|some (.array _ _)=>true|_=>false
def Tt (P:Program) (t:TypeId) (ts:List T):V:=if isAgg P t then .agg (ts.map .t) else .t (ts.headD .nilp)
def ShA (P:Program):List TypeId→List (List T)→Prop
 | [],[]=>True
 | t::ts,x::xs=>(∃n,Sh P n t x)∧ShA P ts xs
 | _,_=>False
def Gu (P:Program):List TypeId→List (List T)→List V
 | t::ts,x::xs=>Tt P t x::Gu P ts xs
 | _,_=>[]
theorem A4n {H:Type} {enc:TypeId×Value→H} {P:Program} {w:World} {base:Nat} {l:List TypeId} (hC:okC P l=true) {t:TypeId} {v:Value} {d:DataW H} {ps:List MemPlace} (hok:l.contains t=true) (hv:Value.okWide P w .any base t v)
  (h:DataW.Trod enc P w 0 (fun _=>true) true t v d ps) (g:Gh) (hg:g.I=Ic w) : ∃x,(∃n,Sh P n t x)∧RelV g [] (Tt P t x) v:=by
 obtain⟨n,h⟩:=h
 obtain⟨x,hs,hr⟩:=V3 hC n t _ _ hok h
 refine⟨x,⟨n,hs⟩,?_⟩
 have one : ∀v',v.cells = #[v']→v=v'→RelV g [] (.t (x.headD .nilp)) v:=by
  rintro v' h1 rfl
  rw [h1] at hr
  obtain⟨l1,l2⟩:=hr
  have:=l2 0 (by simp)
  match x,l1 with
  | [y],_=>exact .t _ _ (by rw [hg];simpa using this)
 replace hok:=Yx hC hok
 unfold Tt isAgg
 unfold A1q at hok
 split at hok
 ·rename_i hu
  obtain⟨b,rfl⟩:=Go.WideShapes.okWide_bool hu hv
  simp only [hu]
  exact one _ rfl rfl
 ·rename_i hu
  obtain⟨b,rfl⟩:=Go.WideShapes.okWide_int hu hv
  simp only [hu]
  exact one _ rfl rfl
 ·rename_i hu
  obtain⟨b,rfl⟩:=Go.WideShapes.okWide_string hu hv
  simp only [hu]
  exact one _ rfl rfl
 ·rename_i hu
  obtain⟨a,b,c,rfl⟩:=Go.WideShapes.okWide_slice hu hv
  simp only [hu]
  exact one _ rfl rfl
 ·rename_i hu
  simp only [Value.okWide,hu] at hv
  obtain⟨cs,rfl,_⟩:=hv
  simp only [hu,if_true]
  have hr':Fd w x cs.toList:=hr
  refine .agg _ _ (by have:=hr'.1;simp at this;simp [this]) fun j hj=>?_
  have hj':j<x.length:=by simpa using hj
  have hj2:j<cs.toList.length:=by have:=hr'.1;omega
  have h2:=hr'.2 j hj2
  have e1:(x.map V.t).getD j .junk=.t (x.getD j .nilp):=by simp [List.getD_eq_getElem?_getD,hj']
  rw [e1]
  refine .t _ _ ?_
  rw [hg]
  simpa [List.getD_eq_getElem?_getD] using h2
 ·rename_i hu
  simp only [Value.okWide,hu] at hv
  obtain⟨cs,rfl,_⟩:=hv
  simp only [hu,if_true]
  have hr':Fd w x cs.toList:=hr
  refine .agg _ _ (by have:=hr'.1;simp at this;simp [this]) fun j hj=>?_
  have hj':j<x.length:=by simpa using hj
  have hj2:j<cs.toList.length:=by have:=hr'.1;omega
  have h2:=hr'.2 j hj2
  have e1:(x.map V.t).getD j .junk=.t (x.getD j .nilp):=by simp [List.getD_eq_getElem?_getD,hj']
  rw [e1]
  refine .t _ _ ?_
  rw [hg]
  simpa [List.getD_eq_getElem?_getD] using h2
 ·cases hok
theorem V4 {H:Type} {enc:TypeId×Value→H} {P:Program} {w:World} {base:Nat} {l:List TypeId} (hC:okC P l=true) (g:Gh) (hg:g.I=Ic w) : ∀{ts:List TypeId} {vs:List Value} {ds:List (DataW H)} {ps:List MemPlace},(∀t∈ts,l.contains t=true)→
  (∀(j:Nat) t v,ts[j]?=some t→vs[j]?=some v→Value.okWide P w .any base t v)→DataW.TrodAll enc P w 0 (fun _=>true) true ts vs ds ps→
  ∃xs,ShA P ts xs∧vs.length=(Gu P ts xs).length∧∀j,j<(Gu P ts xs).length→RelV g [] ((Gu P ts xs).getD j .und) (vs.getD j undef)
 | [],[],[],_,_,_,_=>⟨[],trivial,rfl,fun j hj=>by simp [Gu] at hj⟩
 | t::ts,v::vs,d::ds,ps,ho,hv,⟨p,q,h1,h2,_⟩=>by
  obtain⟨x,s1,r1⟩:=A4n hC (ho t (by simp)) (hv 0 t v rfl rfl) h1 g hg
  obtain⟨xs,s2,l2,r2⟩:=V4 hC g hg (fun t ht=>ho t (by simp [ht])) (fun j t v a b=>hv (j+1) t v (by simpa using a) (by simpa using b)) h2
  refine⟨x::xs,⟨s1,s2⟩,by simp [Gu,l2],fun j hj=>?_⟩
  cases j with
  | zero=>simpa [Gu] using r1
  | succ j=>simpa [Gu] using r2 j (by simpa [Gu] using hj)
abbrev tI (n:Int):T:=.int .i64 n
abbrev vI (n:Int):V:=.t (.int .i64 n)
abbrev vB (b:Bool):V:=.t (.bool b)
abbrev vS (s:List UInt8):V:=.t (.str s)

@[ext] structure Account where
 code:Int
 kind:Int
 basis:Int
 parent:Int
 deriving DecidableEq,Inhabited
def Account.c (x:Account):List T:=[.int .i64 x.code,.int .i64 x.kind,.int .i64 x.basis,.int .i64 x.parent]
abbrev Account.v (x:Account):V:=.agg (x.c.map .t)
abbrev Account.l (l:List Account):V:=.t (.sl (l.map Account.c))

@[ext] structure Link where
 frm:Int
 to:Int
 since:Int
 deriving DecidableEq,Inhabited
def Link.c (x:Link):List T:=[.int .i64 x.frm,.int .i64 x.to,.int .i64 x.since]
abbrev Link.v (x:Link):V:=.agg (x.c.map .t)
abbrev Link.l (l:List Link):V:=.t (.sl (l.map Link.c))

@[ext] structure Ent where
 name:List UInt8
 cur:List UInt8
 chart:List Account
 links:List Link
 joint:Bool
 deriving DecidableEq,Inhabited
def Ent.c (x:Ent):List T:=[.str x.name,.str x.cur,.sl (x.chart.map Account.c),.sl (x.links.map Link.c),.bool x.joint]
abbrev Ent.v (x:Ent):V:=.agg (x.c.map .t)
abbrev Ent.l (l:List Ent):V:=.t (.sl (l.map Ent.c))

@[ext] structure Cal where
 year:Int
 month:Int
 periods:Int
 deriving DecidableEq,Inhabited
def Cal.c (x:Cal):List T:=[.int .i64 x.year,.int .i64 x.month,.int .i64 x.periods]
abbrev Cal.v (x:Cal):V:=.agg (x.c.map .t)
abbrev Cal.l (l:List Cal):V:=.t (.sl (l.map Cal.c))

@[ext] structure Roles where
 inv:Int
 gdw:Int
 asc:Int
 ivt:Int
 rsv:Int
 mnt:Int
 rtn:Int
 acq:Int
 own:Int
 dsp:Int
 asp:Int
 dvd:Int
 mnp:Int
 dif:Int
 mrg:Int
 deriving DecidableEq,Inhabited
def Roles.c (x:Roles):List T:=[.int .i64 x.inv,.int .i64 x.gdw,.int .i64 x.asc,.int .i64 x.ivt,.int .i64 x.rsv,.int .i64 x.mnt,.int .i64 x.rtn,.int .i64 x.acq,.int .i64 x.own,.int .i64 x.dsp,.int .i64 x.asp,.int .i64 x.dvd,.int .i64 x.mnp,.int .i64 x.dif,.int .i64 x.mrg]
abbrev Roles.v (x:Roles):V:=.agg (x.c.map .t)
abbrev Roles.l (l:List Roles):V:=.t (.sl (l.map Roles.c))

@[ext] structure Group where
 cur:List UInt8
 cal:Cal
 chart:List Account
 roles:Roles
 ents:List Ent
 deriving DecidableEq,Inhabited
def Group.c (x:Group):List T:=[.str x.cur]++x.cal.c++[.sl (x.chart.map Account.c)]++x.roles.c++[.sl (x.ents.map Ent.c)]
abbrev Group.v (x:Group):V:=.agg (x.c.map .t)
abbrev Group.l (l:List Group):V:=.t (.sl (l.map Group.c))

@[ext] structure Item where
 re:Int
 rl:Int
 ent:Int
 acc:Int
 par:Int
 date:Int
 amt:Int
 deriving DecidableEq,Inhabited
def Item.c (x:Item):List T:=[.int .i64 x.re,.int .i64 x.rl,.int .i64 x.ent,.int .i64 x.acc,.int .i64 x.par,.int .i64 x.date,.int .i64 x.amt]
abbrev Item.v (x:Item):V:=.agg (x.c.map .t)
abbrev Item.l (l:List Item):V:=.t (.sl (l.map Item.c))

@[ext] structure Part where
 acc:Int
 amt:Int
 deriving DecidableEq,Inhabited
def Part.c (x:Part):List T:=[.int .i64 x.acc,.int .i64 x.amt]
abbrev Part.v (x:Part):V:=.agg (x.c.map .t)
abbrev Part.l (l:List Part):V:=.t (.sl (l.map Part.c))

@[ext] structure Posting where
 kind:Int
 ent:Int
 oth:Int
 rule:Int
 parts:List Part
 deriving DecidableEq,Inhabited
def Posting.c (x:Posting):List T:=[.int .i64 x.kind,.int .i64 x.ent,.int .i64 x.oth,.int .i64 x.rule,.sl (x.parts.map Part.c)]
abbrev Posting.v (x:Posting):V:=.agg (x.c.map .t)
abbrev Posting.l (l:List Posting):V:=.t (.sl (l.map Posting.c))

@[ext] structure Bal where
 acc:Int
 amt:Int
 deriving DecidableEq,Inhabited
def Bal.c (x:Bal):List T:=[.int .i64 x.acc,.int .i64 x.amt]
abbrev Bal.v (x:Bal):V:=.agg (x.c.map .t)
abbrev Bal.l (l:List Bal):V:=.t (.sl (l.map Bal.c))

@[ext] structure Res where
 per:Int
 items:List Item
 posts:List Posting
 tots:List Bal
 deriving DecidableEq,Inhabited
def Res.c (x:Res):List T:=[.int .i64 x.per,.sl (x.items.map Item.c),.sl (x.posts.map Posting.c),.sl (x.tots.map Bal.c)]
abbrev Res.v (x:Res):V:=.agg (x.c.map .t)
abbrev Res.l (l:List Res):V:=.t (.sl (l.map Res.c))

@[ext] structure Tok where
 kind:Int
 text:List UInt8
 frm:Int
 deriving DecidableEq,Inhabited
def Tok.c (x:Tok):List T:=[.int .i64 x.kind,.str x.text,.int .i64 x.frm]
abbrev Tok.v (x:Tok):V:=.agg (x.c.map .t)
abbrev Tok.l (l:List Tok):V:=.t (.sl (l.map Tok.c))

@[ext] structure Ins where
 op:Int
 a:Int
 b:Int
 deriving DecidableEq,Inhabited
def Ins.c (x:Ins):List T:=[.int .i64 x.op,.int .i64 x.a,.int .i64 x.b]
abbrev Ins.v (x:Ins):V:=.agg (x.c.map .t)
abbrev Ins.l (l:List Ins):V:=.t (.sl (l.map Ins.c))

@[ext] structure Code where
 name:List UInt8
 pair:Bool
 ins:List Ins
 deriving DecidableEq,Inhabited
def Code.c (x:Code):List T:=[.str x.name,.bool x.pair,.sl (x.ins.map Ins.c)]
abbrev Code.v (x:Code):V:=.agg (x.c.map .t)
abbrev Code.l (l:List Code):V:=.t (.sl (l.map Code.c))

@[ext] structure Role where
 name:List UInt8
 code:Int
 kind:Int
 basis:Int
 mapped:Bool
 deriving DecidableEq,Inhabited
def Role.c (x:Role):List T:=[.str x.name,.int .i64 x.code,.int .i64 x.kind,.int .i64 x.basis,.bool x.mapped]
abbrev Role.v (x:Role):V:=.agg (x.c.map .t)
abbrev Role.l (l:List Role):V:=.t (.sl (l.map Role.c))

attribute [simp] Account.c Account.v Account.l Link.c Link.v Link.l Ent.c Ent.v Ent.l Cal.c Cal.v Cal.l Roles.c Roles.v Roles.l Group.c Group.v Group.l Item.c Item.v Item.l Part.c Part.v Part.l Posting.c Posting.v Posting.l Bal.c Bal.v Bal.l Res.c Res.v Res.l Tok.c Tok.v Tok.l Ins.c Ins.v Ins.l Code.c Code.v Code.l Role.c Role.v Role.l vI vB vS tI

theorem Ag {α:Type} {l:List α} {k:Nat} {x:α} (h:l[k]?=some x):l.take (k+1)=l.take k++[x]:=by
 rw [List.take_add_one,h];rfl
theorem Aa {α:Type} {l:List α} {k:Nat} (h:k<l.length) : ∃x,l[k]?=some x:=⟨l[k],by simp [h]⟩
theorem A4 {α:Type} {l:List α} {k:Nat} {x:α} (h:l[k]?=some x):k<l.length:=(List.getElem?_eq_some_iff.1 h).1
abbrev W (n:Int):Int:=IntKind.i64.wrap n
theorem A6.setR {n m:Nat} {X:Bx} (hX:E.leB n m X X) : ∀{B:List Bx} (b:Nat),A6 n m B B→A6 n m (B.set b X) (B.set b X)
 | [],_,_=>trivial
 | x::B,0,h=>⟨hX,h.2⟩
 | x::B,b+1,h=>⟨h.1,A6.setR hX b h.2⟩
theorem Cv.refl : ∀(K:List Nat),Cv K K
 | []=>trivial
 | x::K=>⟨rfl,Cv.refl K⟩
end Go.Proofs.YtmlpmdccfmmpoaaGreatDoor
