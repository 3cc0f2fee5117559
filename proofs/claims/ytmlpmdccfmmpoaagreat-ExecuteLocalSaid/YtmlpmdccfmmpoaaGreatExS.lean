/- Chapter 35: what is posted; plain. -/
import Derived.Test.YtmlpmdccfmmpoaaGreatIn1
import Derived.Test.YtmlpmdccfmmpoaaGreatMea
set_option linter.unusedSimpArgs false
set_option linter.unusedVariables false
namespace Go.Proofs.YtmlpmdccfmmpoaaGreat
open E
@[ext] structure Src where
 ent:Int
 full:Bool
 num:Int
 den:Nat
 items:List Item
def B5 (l:List Item) (f t:Int) (any:Bool) (p:Int):Int:=(l.map fun x=>if f≤x.acc∧x.acc≤t∧(any=true∨x.par=p) then x.amt else 0).sum
def Em (n:Int) (s:Src):Int×Bool:=if Ah n=true∧Ah (rnd (n*s.num) s.den)=true then (rnd (n*s.num) s.den,true) else (0,false)
def Gt (k:Int):List Int→List Int
 | []=>[k]
 | x::l=>if k<x then k::x::l else if k=x then x::l else x::Gt k l
def Au (ps:List Part):List Int:=ps.foldr (fun p l=>Gt p.acc l) []
def Ax (ps:List Part) (k:Int):Int:=(ps.map fun p=>if p.acc=k then p.amt else 0).sum
def D7 (ps:List Part):Option (List Part):=
 if (Au ps).all (fun k=>Ah (Ax ps k))=true then some (((Au ps).filter fun k=>Ax ps k != 0).map fun k=>⟨k,Ax ps k⟩) else none
def Dx (s:Src) (oth:Int) (x:Ins) (st loc:List Int):Int×Bool:=
 if x.op=1 then (x.a,true)
 else if x.op=2 then (loc.getD x.a.toNat 0,true)
 else if x.op=3 then (B5 s.items x.a x.b true 0,Ah (B5 s.items x.a x.b true 0))
 else if x.op=4 then (B5 s.items x.a x.b false oth,Ah (B5 s.items x.a x.b false oth))
 else if x.op=7 then Em (st.headD 0) s
 else if tk x.op=1 then opC x.op x.a (st.headD 0) 0
 else opC x.op 0 (st.getD 1 0) (st.headD 0)
def Ay (s:Src) (oth:Int):List Ins→List Int→List Int→List Part→Option (List Part)
 | [],_,_,_=>some []
 | x::l,st,loc,ps=>
  if x.op=23 then Ay s oth l st.tail (loc++[st.headD 0]) ps
  else if x.op=24 then if st.headD 0=0 then some [] else Ay s oth l st.tail loc ps
  else if x.op=25 then Ay s oth l st.tail loc (ps++[⟨x.a,st.headD 0⟩])
  else if x.op=26 then D7 (ps++[⟨x.a,-(ps.map Part.amt).sum⟩])
  else if (Dx s oth x st loc).2=true then Ay s oth l ((Dx s oth x st loc).1::st.drop (tk x.op).toNat) loc ps
  else none
def Bq (s:Src) (oth rule:Int) (ps:List Part):Posting:=if ps=[] then ⟨0,0,0,0,[]⟩ else ⟨10,s.ent,oth,rule,ps⟩
def B9 (c:Code) (s:Src) (oth rule:Int):Option Posting:=(Ay s oth c.ins [] [] []).map (Bq s oth rule)
def Ca (l:List Src):Bool:=(l.all fun s=>decide (0≤s.ent)&&decide (s.ent<12)&&s.items.all fun x=>Ah x.amt)&&(List.range l.length).all fun i=>i==0||decide ((l.getD (i-1) ⟨0,false,0,0,[]⟩).ent<(l.getD i ⟨0,false,0,0,[]⟩).ent)
def F5 (l:List Src) (pair:Bool) (s:Src):List Int:=if pair=true then (l.filter fun o=>o.full&&o.ent != s.ent).map Src.ent else [-1]
def Cm (l:List Src) (pair:Bool):List (Src×Int):=(l.filter Src.full).flatMap fun s=>(F5 l pair s).map fun o=>(s,o)
def Ai:List (Option Posting)→Option (List Posting)
 | []=>some []
 | none::_=>none
 | some p::l=>(Ai l).map fun ps=>if p.parts=[] then ps else p::ps
def Uu (l:List Src) (rs:List (Bool×(Src→Int→Option Posting))):List (Option Posting):=rs.flatMap fun r=>(Cm l r.1).map fun x=>r.2 x.1 x.2
def Dy (c:List Code) (l:List Src):Option (List Posting):=Ai (Uu l (c.zipIdx.map fun x=>(x.1.pair,fun s o=>B9 x.1 s o x.2)))
theorem It {k x:Int} : ∀{l:List Int},x∈Gt k l↔x=k∨x∈l
 | []=>by simp [Gt]
 | y::l=>by
  unfold Gt
  split
  ·simp
  ·split
   ·rename_i h;subst h;simp
   ·simp [It (l:=l)];constructor
    ·rintro (h|h|h)<;>simp [h]
    ·rintro (h|h|h)<;>simp [h]
theorem Ha {k:Int} : ∀{l:List Int},l.Pairwise (· < ·)→(Gt k l).Pairwise (· < ·)
 | [],_=>by simp [Gt]
 | y::l,h=>by
  have h1:=List.pairwise_cons.1 h
  unfold Gt
  split
  ·rename_i hk
   refine List.pairwise_cons.2 ⟨fun z hz=>?_,h⟩
   rcases List.mem_cons.1 hz with rfl|hz
   ·exact hk
   ·exact Int.lt_trans hk (h1.1 z hz)
  ·split
   ·exact h
   ·refine List.pairwise_cons.2 ⟨fun z hz=>?_,Ha h1.2⟩
    rcases It.1 hz with rfl|hz
    ·omega
    ·exact h1.1 z hz
theorem Cq : ∀(ps:List Part),(Au ps).Pairwise (· < ·)
 | []=>List.Pairwise.nil
 | _::l=>Ha (Cq l)
theorem Cn {k:Int} : ∀{ps:List Part},k∈Au ps↔∃p∈ps,p.acc=k
 | []=>by simp [Au]
 | q::l=>by
  have ih:=Cn (k:=k) (ps:=l)
  have e:Au (q::l)=Gt q.acc (Au l):=rfl
  rw [e,It,ih]
  constructor
  ·rintro (h|⟨p,h1,h2⟩)
   ·exact⟨q,by simp,h.symm⟩
   ·exact⟨p,by simp [h1],h2⟩
  ·rintro ⟨p,h1,h2⟩
   rcases List.mem_cons.1 h1 with rfl|h1
   ·exact .inl h2.symm
   ·exact .inr ⟨p,h1,h2⟩
theorem En : ∀{a b:List Int},a.Pairwise (· < ·)→b.Pairwise (· < ·)→(∀x,x∈a↔x∈b)→a=b
 | [],[],_,_,_=>rfl
 | [],y::b,_,_,h=>by have:=(h y).2 (by simp);simp at this
 | x::a,[],_,_,h=>by have:=(h x).1 (by simp);simp at this
 | x::a,y::b,ha,hb,h=>by
  have h1:=List.pairwise_cons.1 ha
  have h2:=List.pairwise_cons.1 hb
  have e:x=y:=by
   rcases List.mem_cons.1 ((h x).1 (by simp)) with e|e
   ·exact e
   ·rcases List.mem_cons.1 ((h y).2 (by simp)) with e'|e'
    ·exact e'.symm
    ·have:=h1.1 y e';have:=h2.1 x e;omega
  subst e
  congr 1
  refine En h1.2 h2.2 fun z=>⟨fun hz=>?_,fun hz=>?_⟩
  ·rcases List.mem_cons.1 ((h z).1 (by simp [hz])) with e|e
   ·subst e;exact absurd (h1.1 z hz) (by omega)
   ·exact e
  ·rcases List.mem_cons.1 ((h z).2 (by simp [hz])) with e|e
   ·subst e;exact absurd (h2.1 z hz) (by omega)
   ·exact e
theorem D0 {α:Type} {f:α→Int} : ∀{l:List α},(∀x∈l,f x=0)→(l.map f).sum=0
 | [],_=>rfl
 | x::l,h=>by
  have:=D0 (f:=f) (l:=l) fun y hy=>h y (by simp [hy])
  simp [h x (by simp),this]
theorem Hb {α:Type} {f g:α→Int} : ∀{l:List α},(l.map fun x=>f x+g x).sum=(l.map f).sum+(l.map g).sum
 | []=>rfl
 | x::l=>by have:=Hb (f:=f) (g:=g) (l:=l);simp at this ⊢;omega
theorem Md {k v:Int} : ∀{l:List Int},l.Pairwise (· < ·)→k∈l→(l.map fun x=>if k=x then v else 0).sum=v
 | [],_,h=>by simp at h
 | x::l,hs,h=>by
  have h1:=List.pairwise_cons.1 hs
  rw [List.map_cons,List.sum_cons]
  by_cases hx:k=x
  ·subst hx
   have:(l.map fun x=>if k=x then v else 0).sum=0:=D0 fun y hy=>by
    have:=h1.1 y hy
    rw [if_neg (by omega)]
   rw [this,if_pos rfl];omega
  ·rw [if_neg hx,Md h1.2 (by rcases List.mem_cons.1 h with e|e;exact absurd e hx;exact e)];omega
theorem O7 (p:Part) (ps:List Part) (k:Int):Ax (p::ps) k=(if p.acc=k then p.amt else 0)+Ax ps k:=rfl
theorem Iu {ps:List Part} {k:Int} (h:k∉Au ps):Ax ps k=0:=D0 fun p hp=>by
 rw [if_neg fun e=>h (Cn.2 ⟨p,hp,e⟩)]
theorem Me {l:List Int} (hl:l.Pairwise (· < ·)) : ∀{ps:List Part},(∀p∈ps,p.acc∈l)→(l.map (Ax ps)).sum=(ps.map Part.amt).sum
 | [],_=>by rw [D0];rfl;intro x _;rfl
 | p::ps,h=>by
  have ih:=Me hl (ps:=ps) fun q hq=>h q (by simp [hq])
  have e:(l.map (Ax (p::ps)))=l.map fun x=>(if p.acc=x then p.amt else 0)+Ax ps x:=rfl
  rw [e,Hb,Md hl (h p (by simp)),List.map_cons,List.sum_cons]
  have e2:(l.map fun x=>Ax ps x)=l.map (Ax ps):=rfl
  rw [e2,ih]
theorem Iv {f:Int→Int} : ∀{l:List Int},((l.filter fun k=>f k != 0).map f).sum=(l.map f).sum
 | []=>rfl
 | x::l=>by
  have ih:=Iv (f:=f) (l:=l)
  by_cases h:f x=0
  ·rw [List.filter_cons_of_neg (by simp [h]),ih,List.map_cons,List.sum_cons,h];omega
  ·rw [List.filter_cons_of_pos (by simp [h]),List.map_cons,List.sum_cons,ih,List.map_cons,List.sum_cons]
structure PartsOk (l:List Part):Prop where
 srt:(l.map Part.acc).Pairwise (· < ·)
 nz : ∀p∈l,p.amt≠0
 am : ∀p∈l,Ah p.amt=true
 sum:(l.map Part.amt).sum=0
 two:l≠[]→2≤l.length
theorem Qn {ps l:List Part} (h:D7 ps=some l) (hs:(ps.map Part.amt).sum=0):PartsOk l:=by
 unfold D7 at h
 split at h
 ·rename_i ha
  cases h
  have hsum:(((((Au ps).filter fun k=>Ax ps k != 0).map fun k=>(⟨k,Ax ps k⟩:Part)).map Part.amt).sum)=0:=by
   rw [List.map_map]
   have e:(Part.amt∘fun k=>(⟨k,Ax ps k⟩:Part))=Ax ps:=rfl
   rw [e,Iv,Me (Cq ps) fun p hp=>Cn.2 ⟨p,hp,rfl⟩,hs]
  have hnz : ∀p∈((Au ps).filter fun k=>Ax ps k != 0).map fun k=>(⟨k,Ax ps k⟩:Part),p.amt≠0:=fun p hp=>by
   obtain⟨k,hk,rfl⟩:=List.mem_map.1 hp
   have:=(List.mem_filter.1 hk).2
   simpa using this
  refine⟨?_,hnz,fun p hp=>?_,hsum,fun hne=>?_⟩
  ·rw [List.map_map]
   have e:(Part.acc∘fun k=>(⟨k,Ax ps k⟩:Part))=id:=rfl
   rw [e,List.map_id]
   exact (Cq ps).filter _
  ·obtain⟨k,hk,rfl⟩:=List.mem_map.1 hp
   exact List.all_eq_true.1 ha k (List.mem_filter.1 hk).1
  ·generalize ((Au ps).filter fun k=>Ax ps k != 0).map (fun k=>(⟨k,Ax ps k⟩:Part))=q at *
   match q with
   | []=>exact absurd rfl hne
   | [x]=>simp at hsum;exact absurd hsum (hnz x (by simp))
   | _::_::_=>simp
 ·cases h
theorem Eo {s:Src} {oth:Int} : ∀{l:List Ins} {st loc:List Int} {ps q:List Part},Ay s oth l st loc ps=some q→PartsOk q
 | [],st,loc,ps,q,h=>by cases h;exact⟨by simp,by simp,by simp,rfl,by simp⟩
 | x::l,st,loc,ps,q,h=>by
  unfold Ay at h
  split at h
  ·exact Eo h
  split at h
  ·split at h
   ·cases h;exact⟨by simp,by simp,by simp,rfl,by simp⟩
   ·exact Eo h
  split at h
  ·exact Eo h
  split at h
  ·refine Qn h ?_
   rw [List.map_append,List.sum_append]
   simp;omega
  split at h
  ·exact Eo h
  ·cases h
theorem Hc : ∀{a b:List (Option Posting)},Ai (a++b)=(Ai a).bind fun x=>(Ai b).map fun y=>x++y
 | [],b=>by cases h:Ai b<;>simp [Ai,h]
 | none::a,b=>rfl
 | some p::a,b=>by
  simp only [List.cons_append,Ai,Hc (a:=a) (b:=b)]
  cases Ai a with
  | none=>rfl
  | some x=>cases Ai b with
   | none=>rfl
   | some y=>by_cases h:p.parts=[]<;>simp [h]
theorem Dk {p:Posting} : ∀{l:List (Option Posting)} {q:List Posting},Ai l=some q→p∈q→some p∈l∧p.parts≠[]
 | [],q,h,hp=>by cases h;simp at hp
 | none::l,q,h,hp=>by cases h
 | some x::l,q,h,hp=>by
  simp only [Ai] at h
  cases hg:Ai l with
  | none=>rw [hg] at h;cases h
  | some y=>
   rw [hg] at h
   simp only [Option.map_some,Option.some.injEq] at h
   by_cases hx:x.parts=[]
   ·rw [if_pos hx] at h;subst h
    obtain⟨h1,h2⟩:=Dk hg hp
    exact⟨by simp [h1],h2⟩
   ·rw [if_neg hx] at h;subst h
    rcases List.mem_cons.1 hp with rfl|hp
    ·exact⟨by simp,hx⟩
    ·obtain⟨h1,h2⟩:=Dk hg hp
     exact⟨by simp [h1],h2⟩
end Go.Proofs.YtmlpmdccfmmpoaaGreat
