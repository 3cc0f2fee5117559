/- Chapter 35: single rules and instances; plain. -/
import Derived.Test.YtmlpmdccfmmpoaaGreatExS
set_option linter.unusedSimpArgs false
set_option linter.unusedVariables false
namespace Go.Proofs.YtmlpmdccfmmpoaaGreat
open E
theorem E8 {α:Type} (f:α→Int) : ∀{l:List α},(∀(i:Nat) (x y:α),l[i]?=some x→l[i+1]?=some y→f x<f y)→l.Pairwise fun x y=>f x<f y
 | [],_=>List.Pairwise.nil
 | x::l,h=>by
  have ih:=E8 f (l:=l) fun i a b ha hb=>h (i+1) a b (by simpa using ha) (by simpa using hb)
  refine List.pairwise_cons.2 ⟨fun z hz=>?_,ih⟩
  match l,ih,h,hz with
  | y::l,ih,h,hz=>
   have h1:=h 0 x y (by simp) (by simp)
   rcases List.mem_cons.1 hz with rfl|hz
   ·exact h1
   ·exact Int.lt_trans h1 ((List.pairwise_cons.1 ih).1 z hz)
theorem D8 {l:List Src} (h:Ca l=true):l.Pairwise fun a b=>a.ent<b.ent:=by
 apply E8
 intro i x y hx hy
 have h2:=(Bool.and_eq_true _ _▸h:_∧_).2
 have hi:=(List.getElem?_eq_some_iff.1 hy).1
 have h3:=List.all_eq_true.1 h2 (i+1) (by simpa using hi)
 have hx':l.getD i ⟨0,false,0,0,[]⟩=x:=by rw [List.getD_eq_getElem?_getD,hx];rfl
 have hy':l.getD (i+1) ⟨0,false,0,0,[]⟩=y:=by rw [List.getD_eq_getElem?_getD,hy];rfl
 simp only [Nat.add_sub_cancel,hx',hy'] at h3
 simpa using h3
theorem Cz {l:List Src} (h:Ca l=true) {s:Src} (hs:s∈l):0≤s.ent∧s.ent<12∧∀x∈s.items,Ah x.amt=true:=by
 have h2:=List.all_eq_true.1 (Bool.and_eq_true _ _▸h:_∧_).1 s hs
 simp only [Bool.and_eq_true,decide_eq_true_eq,List.all_eq_true] at h2
 exact⟨h2.1.1,h2.1.2,h2.2⟩
def Sy (c:List Code) (l:List Src):List ((Code×Nat)×(Src×Int)):=c.zipIdx.flatMap fun x=>(Cm l x.1.pair).map fun z=>(x,z)
theorem Sz (c:List Code) (l:List Src):Dy c l=Ai ((Sy c l).map fun y=>B9 y.1.1 y.2.1 y.2.2 y.1.2):=by
 unfold Dy Uu Sy
 congr 1
 rw [List.flatMap_map,List.map_flatMap]
 congr 1
 funext x
 rw [List.map_map]
 rfl
theorem Uw {c:List Code} {l:List Src} {y:(Code×Nat)×(Src×Int)} (h:y∈Sy c l):c[y.1.2]?=some y.1.1∧y.2.1∈l∧y.2.1.full=true∧(if y.1.1.pair=true then ∃o∈l,o.full=true∧o.ent=y.2.2∧o.ent≠y.2.1.ent else y.2.2 = -1):=by
 unfold Sy at h
 obtain⟨x,hx,hy⟩:=List.mem_flatMap.1 h
 obtain⟨z,hz,rfl⟩:=List.mem_map.1 hy
 unfold Cm at hz
 obtain⟨s,hs,hz⟩:=List.mem_flatMap.1 hz
 obtain⟨o,ho,rfl⟩:=List.mem_map.1 hz
 have hs:=List.mem_filter.1 hs
 refine⟨?_,hs.1,hs.2,?_⟩
 ·have:=List.mk_mem_zipIdx_iff_getElem?.1 (show (x.1,x.2)∈c.zipIdx from hx)
  exact this
 ·unfold F5 at ho
  by_cases hp:x.1.pair=true
  ·rw [if_pos hp] at ho ⊢
   obtain⟨t,ht,rfl⟩:=List.mem_map.1 ho
   have ht:=List.mem_filter.1 ht
   simp only [Bool.and_eq_true,bne_iff_ne,ne_eq] at ht
   exact⟨t,ht.1,ht.2.1,rfl,ht.2.2⟩
  ·rw [if_neg hp] at ho ⊢
   simpa using ho
theorem Ux {c:List Code} {l:List Src} {q:List Posting} (h:Dy c l=some q) {p:Posting} (hp:p∈q) :
  ∃y∈Sy c l,B9 y.1.1 y.2.1 y.2.2 y.1.2=some p∧p.kind=10∧p.rule=y.1.2∧p.ent=y.2.1.ent∧p.oth=y.2.2∧PartsOk p.parts∧p.parts≠[]:=by
 rw [Sz] at h
 obtain⟨h1,h2⟩:=Dk h hp
 obtain⟨y,hy,he⟩:=List.mem_map.1 h1
 have he':=he
 unfold B9 at he
 cases hx:Ay y.2.1 y.2.2 y.1.1.ins [] [] [] with
 | none=>rw [hx] at he;cases he
 | some ps=>
  rw [hx] at he
  simp only [Option.map_some,Option.some.injEq] at he
  by_cases hps:ps=[]
  ·unfold Bq at he;rw [if_pos hps] at he;subst he;exact absurd rfl h2
  ·unfold Bq at he
   rw [if_neg hps] at he
   subst he
   exact⟨y,hy,he',rfl,rfl,rfl,rfl,Eo hx,h2⟩
def B7:Posting:=⟨0,0,0,0,[]⟩
def Gc (c:List Code) (l:List Src):List Posting×Int:=
 if Ca l=true∧(c.all fun x=>(Cc x).2)=true then match Dy c l with
  | some q=>(q,0)
  | none=>([],2)
 else ([],1)
def Dz (l:List Src) (k:Int):Option Src:=l.find? fun s=>s.ent==k&&s.full
def T0 (c:Code) (l:List Src) (rule ent oth:Int):Posting×Int:=
 if (Cc c).2=true∧Ca l=true∧0≤rule∧c.pair=(oth != -1) then match Dz l ent with
  | none=>(B7,8)
  | some s=>if oth≠-1∧((Dz l oth).isNone=true∨oth=ent) then (B7,8) else match B9 c s oth rule with
   | some p=>(p,0)
   | none=>(B7,2)
 else (B7,1)
theorem P5 {l:List Src} (hl:l.Pairwise fun a b=>a.ent<b.ent) {s:Src} (hs:s∈l) (hf:s.full=true):Dz l s.ent=some s:=by
 unfold Dz
 induction l with
 | nil=>simp at hs
 | cons x l ih=>
  have h1:=List.pairwise_cons.1 hl
  rcases List.mem_cons.1 hs with rfl|hs
  ·simp [hf]
  ·have:=h1.1 s hs
   rw [List.find?_cons_of_neg (by simp;intro e;omega)]
   exact ih h1.2 hs
def B6 (r:Int) (p:Posting):Posting:={ p with rule:=r }
theorem K0 (s:Src) (oth r r':Int) (ps:List Part) (h:ps≠[]):Bq s oth r' ps=B6 r' (Bq s oth r ps):=by
 unfold Bq B6;rw [if_neg h,if_neg h]
theorem Iy (c:Code) (r r':Int) : ∀(l:List (Src×Int)),Ai (l.map fun z=>B9 c z.1 z.2 r')=(Ai (l.map fun z=>B9 c z.1 z.2 r)).map fun q=>q.map (B6 r')
 | []=>rfl
 | z::l=>by
  have ih:=Iy c r r' l
  rw [List.map_cons,List.map_cons]
  unfold B9 at ih ⊢
  cases Ay z.1 z.2 c.ins [] [] [] with
  | none=>rfl
  | some ps=>
   simp only [Option.map_some,Ai,ih]
   by_cases hps:ps=[]
   ·have e : ∀r,(Bq z.1 z.2 r ps).parts=[]:=fun r=>by unfold Bq;rw [if_pos hps]
    simp only [e,if_true]
    cases Ai (l.map fun z=>(Ay z.1 z.2 c.ins [] [] []).map (Bq z.1 z.2 r))<;>rfl
   ·have e : ∀r,(Bq z.1 z.2 r ps).parts≠[]:=fun r=>by unfold Bq;rw [if_neg hps];exact hps
    simp only [e,if_false]
    rw [K0 z.1 z.2 r r' ps hps]
    cases Ai (l.map fun z=>(Ay z.1 z.2 c.ins [] [] []).map (Bq z.1 z.2 r))<;>rfl
theorem Iz (l:List Src) (pair:Bool):Cm (l.filter Src.full) pair=Cm l pair:=by
 unfold Cm
 rw [List.filter_filter]
 have e:(fun a:Src=>a.full&&a.full)=Src.full:=by funext a;simp
 rw [e]
 congr 1
 funext s
 unfold F5
 rw [List.filter_filter]
 have e2:(fun a:Src=>(a.full&&a.ent != s.ent)&&a.full)=fun a=>a.full&&a.ent != s.ent:=by funext a;cases a.full<;>simp
 rw [e2]
theorem J0 (c:Code) (l:List Src):Dy [c] l=Ai ((Cm l c.pair).map fun z=>B9 c z.1 z.2 0):=by
 unfold Dy Uu;simp
theorem Hd {f:Nat→List (Option Posting)} : ∀{n:Nat} {q:List Posting},Ai ((List.range n).flatMap f)=some q→∃g:Nat→List Posting,(∀i,i<n→Ai (f i)=some (g i))∧q=(List.range n).flatMap g
 | 0,q,h=>by
  refine⟨fun _=>[],by simp,?_⟩
  simp [Ai] at h;simp [h]
 | n+1,q,h=>by
  rw [List.range_succ,List.flatMap_append,Hc] at h
  obtain⟨x,hx,h2⟩:=Option.bind_eq_some_iff.1 h
  obtain⟨y,hy,rfl⟩:=Option.map_eq_some_iff.1 h2
  obtain⟨g,hg,rfl⟩:=Hd hx
  simp only [List.flatMap_cons,List.flatMap_nil,List.append_nil] at hy
  refine⟨fun i=>if i<n then g i else y,fun i hi=>?_,?_⟩
  ·by_cases h:i<n
   ·simp [h,hg i h]
   ·have:i=n:=by omega
    subst this;simp [hy]
  ·rw [List.range_succ,List.flatMap_append]
   congr 1
   ·have : ∀i∈List.range n,g i=(fun i=>if i<n then g i else y) i:=fun i hi=>by simp [List.mem_range.1 hi]
    rw [List.flatMap_def,List.flatMap_def,List.map_congr_left this]
   ·simp
theorem K1 (c:List Code) (l:List Src):Dy c l=Ai ((List.range c.length).flatMap fun i=>(Cm l (c.getD i ⟨[],false,[]⟩).pair).map fun z=>B9 (c.getD i ⟨[],false,[]⟩) z.1 z.2 i):=by
 unfold Dy Uu
 congr 1
 rw [List.flatMap_map]
 have e:c.zipIdx=(List.range c.length).map fun i=>(c.getD i ⟨[],false,[]⟩,i):=by
  apply List.ext_getElem?
  intro i
  rw [List.getElem?_zipIdx,List.getElem?_map]
  rcases Nat.lt_or_ge i c.length with h|h
  ·simp [h]
  ·simp [h]
 rw [e,List.flatMap_map]
theorem Qq {c:List Code} {l:List Src} {q:List Posting} (h:Dy c l=some q) :
  ∃g:Nat→List Posting,(∀i x,c[i]?=some x→Dy [x] (l.filter Src.full)=some (g i))∧q=(List.range c.length).flatMap fun i=>(g i).map (B6 i):=by
 rw [K1] at h
 obtain⟨g,hg,rfl⟩:=Hd h
 have key : ∀i,i<c.length→∃y,Dy [c.getD i ⟨[],false,[]⟩] (l.filter Src.full)=some y∧g i=y.map (B6 i):=fun i hi=>by
  have h1:=hg i hi
  rw [Iy _ 0] at h1
  rw [J0,Iz]
  obtain⟨y,hy,he⟩:=Option.map_eq_some_iff.1 h1
  exact⟨y,hy,he.symm⟩
 refine⟨fun i=>((Dy [c.getD i ⟨[],false,[]⟩] (l.filter Src.full)).getD []),fun i x hx=>?_,?_⟩
 ·have hi:=(List.getElem?_eq_some_iff.1 hx).1
  obtain⟨y,hy,_⟩:=key i hi
  have e:c.getD i ⟨[],false,[]⟩=x:=by rw [List.getD_eq_getElem?_getD,hx];rfl
  rw [e] at hy
  simp only [e,hy];rfl
 ·rw [List.flatMap_def,List.flatMap_def]
  congr 1
  apply List.map_congr_left
  intro i hi
  obtain⟨y,hy,he⟩:=key i (List.mem_range.1 hi)
  simp only [he,hy,Option.getD_some]
theorem K2 {l:List Src} : Ca l=true↔(∀s∈l,0≤s.ent∧s.ent<12∧∀x∈s.items,Ah x.amt=true)∧l.Pairwise fun a b=>a.ent<b.ent:=by
 constructor
 ·exact fun h=>⟨fun s hs=>Cz h hs,D8 h⟩
 ·rintro ⟨h1,h2⟩
  unfold Ca
  rw [Bool.and_eq_true]
  refine⟨List.all_eq_true.2 fun s hs=>by simpa [and_assoc] using h1 s hs,List.all_eq_true.2 fun i hi=>?_⟩
  have hi:=List.mem_range.1 hi
  match i,hi with
  | 0,_=>rfl
  | i+1,hi=>
   have:=List.pairwise_iff_getElem.1 h2 i (i+1) (by omega) hi (by omega)
   simp only [Nat.add_sub_cancel,List.getD_eq_getElem?_getD,List.getElem?_eq_getElem hi,List.getElem?_eq_getElem (show i<l.length by omega),Option.getD_some]
   simp [this]
theorem J1 {l:List Src} (h:Ca l=true):Ca (l.filter Src.full)=true:=by
 rw [K2] at h ⊢
 exact⟨fun s hs=>h.1 s (List.mem_filter.1 hs).1,h.2.filter _⟩
theorem Qr {l:List Src} {pair:Bool} {z:Src×Int} (h:z∈Cm l pair):z.1∈l∧z.1.full=true∧(if pair=true then ∃o∈l,o.full=true∧o.ent=z.2∧o.ent≠z.1.ent else z.2 = -1):=by
 unfold Cm at h
 obtain⟨s,hs,hz⟩:=List.mem_flatMap.1 h
 obtain⟨o,ho,rfl⟩:=List.mem_map.1 hz
 have hs:=List.mem_filter.1 hs
 refine⟨hs.1,hs.2,?_⟩
 unfold F5 at ho
 by_cases hp:pair=true
 ·rw [if_pos hp] at ho ⊢
  obtain⟨t,ht,rfl⟩:=List.mem_map.1 ho
  have ht:=List.mem_filter.1 ht
  simp only [Bool.and_eq_true,bne_iff_ne,ne_eq] at ht
  exact⟨t,ht.1,ht.2.1,rfl,ht.2.2⟩
 ·rw [if_neg hp] at ho ⊢
  simpa using ho
theorem Qs {x:Code} {l:List Src} {q:List Posting} (hl:Ca l=true) (hx:(Cc x).2=true) (h:Dy [x] (l.filter Src.full)=some q) {p:Posting} (hp:p∈q) {r:Int} (hr:0≤r) :
  T0 x l r p.ent p.oth=(B6 r p,0):=by
 rw [J0,Iz] at h
 obtain⟨h1,h2⟩:=Dk h hp
 obtain⟨z,hz,he⟩:=List.mem_map.1 h1
 obtain⟨m1,m2,m3⟩:=Qr hz
 unfold B9 at he
 obtain⟨ps,hps,rfl⟩:=Option.map_eq_some_iff.1 he
 have hne:ps≠[]:=fun e=>h2 (by unfold Bq;rw [if_pos e])
 have e1:(Bq z.1 z.2 0 ps).ent=z.1.ent:=by unfold Bq;rw [if_neg hne]
 have e2:(Bq z.1 z.2 0 ps).oth=z.2:=by unfold Bq;rw [if_neg hne]
 have hf:=P5 (D8 hl) m1 m2
 have hin:B9 x z.1 z.2 r=some (B6 r (Bq z.1 z.2 0 ps)):=by unfold B9;rw [hps,←K0 _ _ _ _ _ hne];rfl
 rw [e1,e2]
 unfold T0
 by_cases hpair:x.pair=true
 ·rw [if_pos hpair] at m3
  obtain⟨o,o1,o2,o3,o4⟩:=m3
  have ho:=P5 (D8 hl) o1 o2
  have h0:=(Cz hl o1).1
  rw [o3] at ho h0 o4
  rw [if_pos ⟨hx,hl,hr,by rw [hpair];simp;omega⟩,hf]
  simp only []
  rw [if_neg (by rw [ho];simp [o4]),hin]
 ·rw [if_neg hpair] at m3
  rw [if_pos ⟨hx,hl,hr,by rw [m3];simpa using hpair⟩,hf]
  simp only []
  rw [if_neg (by simp [m3]),hin]
end Go.Proofs.YtmlpmdccfmmpoaaGreat
