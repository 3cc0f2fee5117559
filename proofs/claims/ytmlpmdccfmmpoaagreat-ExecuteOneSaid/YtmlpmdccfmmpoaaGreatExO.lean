/- Chapter 35: single rules and instances; plain. -/
import Derived.Test.YtmlpmdccfmmpoaaGreatExS
section
set_option linter.unusedSimpArgs false
set_option linter.unusedVariables false
namespace Go.Proofs.YtmlpmdccfmmpoaaGreat
open E
theorem pair_of_next {α:Type} (f:α→Int) : ∀{l:List α},(∀(i:Nat) (x y:α),l[i]?=some x→l[i+1]?=some y→f x<f y)→l.Pairwise fun x y=>f x<f y
 | [],_=>List.Pairwise.nil
 | x::l,h=>by
  have ih:=pair_of_next f (l:=l) fun i a b ha hb=>h (i+1) a b (by simpa using ha) (by simpa using hb)
  refine List.pairwise_cons.2 ⟨fun z hz=>?_,ih⟩
  match l,ih,h,hz with
  | y::l,ih,h,hz=>
   have h1:=h 0 x y (by simp) (by simp)
   rcases List.mem_cons.1 hz with rfl | hz
   ·exact h1
   ·exact Int.lt_trans h1 ((List.pairwise_cons.1 ih).1 z hz)
theorem src_sorted {l:List Src} (h:srcOk l=true):l.Pairwise fun a b=>a.ent<b.ent:=by
 apply pair_of_next
 intro i x y hx hy
 have h2:=(Bool.and_eq_true _ _▸h:_∧_).2
 have hi:=(List.getElem?_eq_some_iff.1 hy).1
 have h3:=List.all_eq_true.1 h2 (i+1) (by simpa using hi)
 have hx':l.getD i ⟨0,false,0,0,[]⟩=x:=by rw [List.getD_eq_getElem?_getD,hx]; rfl
 have hy':l.getD (i+1) ⟨0,false,0,0,[]⟩=y:=by rw [List.getD_eq_getElem?_getD,hy]; rfl
 simp only [Nat.add_sub_cancel,hx',hy'] at h3
 simpa using h3
theorem src_in {l:List Src} (h:srcOk l=true) {s:Src} (hs:s∈l):0≤s.ent∧s.ent<12∧∀x∈s.items,amtB x.amt=true:=by
 have h2:=List.all_eq_true.1 (Bool.and_eq_true _ _▸h:_∧_).1 s hs
 simp only [Bool.and_eq_true,decide_eq_true_eq,List.all_eq_true] at h2
 exact⟨h2.1.1,h2.1.2,h2.2⟩
def idxR (c:List Code) (l:List Src):List ((Code×Nat)×(Src×Int)):=c.zipIdx.flatMap fun x=>(instsR l x.1.pair).map fun z=>(x,z)
theorem runR_idx (c:List Code) (l:List Src):runR c l=gatherR ((idxR c l).map fun y=>instR y.1.1 y.2.1 y.2.2 y.1.2):=by
 unfold runR allR idxR
 congr 1
 rw [List.flatMap_map,List.map_flatMap]
 congr 1
 funext x
 rw [List.map_map]
 rfl
theorem idx_mem {c:List Code} {l:List Src} {y:(Code×Nat)×(Src×Int)} (h:y∈idxR c l):c[y.1.2]?=some y.1.1∧y.2.1∈l∧y.2.1.full=true∧(if y.1.1.pair=true then ∃o∈l,o.full=true∧o.ent=y.2.2∧o.ent≠y.2.1.ent else y.2.2 = -1):=by
 unfold idxR at h
 obtain⟨x,hx,hy⟩:=List.mem_flatMap.1 h
 obtain⟨z,hz,rfl⟩:=List.mem_map.1 hy
 unfold instsR at hz
 obtain⟨s,hs,hz⟩:=List.mem_flatMap.1 hz
 obtain⟨o,ho,rfl⟩:=List.mem_map.1 hz
 have hs:=List.mem_filter.1 hs
 refine⟨?_,hs.1,hs.2,?_⟩
 ·have:=List.mk_mem_zipIdx_iff_getElem?.1 (show (x.1,x.2)∈c.zipIdx from hx)
  exact this
 ·unfold othersR at ho
  by_cases hp:x.1.pair=true
  ·rw [if_pos hp] at ho ⊢
   obtain⟨t,ht,rfl⟩:=List.mem_map.1 ho
   have ht:=List.mem_filter.1 ht
   simp only [Bool.and_eq_true,bne_iff_ne,ne_eq] at ht
   exact⟨t,ht.1,ht.2.1,rfl,ht.2.2⟩
  ·rw [if_neg hp] at ho ⊢
   simpa using ho
theorem run_mem {c:List Code} {l:List Src} {q:List Posting} (h:runR c l=some q) {p:Posting} (hp:p∈q) :
  ∃y∈idxR c l,instR y.1.1 y.2.1 y.2.2 y.1.2=some p∧p.kind=10∧p.rule=y.1.2∧p.ent=y.2.1.ent∧p.oth=y.2.2∧PartsOk p.parts∧p.parts≠[]:=by
 rw [runR_idx] at h
 obtain⟨h1,h2⟩:=gatherR_mem h hp
 obtain⟨y,hy,he⟩:=List.mem_map.1 h1
 have he':=he
 unfold instR at he
 cases hx:execR y.2.1 y.2.2 y.1.1.ins [] [] [] with
 | none=>rw [hx] at he; cases he
 | some ps=>
  rw [hx] at he
  simp only [Option.map_some,Option.some.injEq] at he
  by_cases hps:ps=[]
  ·unfold postR at he; rw [if_pos hps] at he; subst he; exact absurd rfl h2
  ·unfold postR at he
   rw [if_neg hps] at he
   subst he
   exact⟨y,hy,he',rfl,rfl,rfl,rfl,execR_ok hx,h2⟩
end Go.Proofs.YtmlpmdccfmmpoaaGreat
end
section
set_option linter.unusedSimpArgs false
set_option linter.unusedVariables false
namespace Go.Proofs.YtmlpmdccfmmpoaaGreat
open E
def zeroP:Posting:=⟨0,0,0,0,[]⟩
def runE (c:List Code) (l:List Src):List Posting×Int:=
 if srcOk l=true∧(c.all fun x=>(meaR x).2)=true then match runR c l with
  | some q=>(q,0)
  | none=>([],2)
 else ([],1)
def findS (l:List Src) (k:Int):Option Src:=l.find? fun s=>s.ent==k&&s.full
def oneE (c:Code) (l:List Src) (rule ent oth:Int):Posting×Int:=
 if (meaR c).2=true∧srcOk l=true∧0≤rule∧c.pair=(oth != -1) then match findS l ent with
  | none=>(zeroP,8)
  | some s=>if oth≠-1∧((findS l oth).isNone=true∨oth=ent) then (zeroP,8) else match instR c s oth rule with
   | some p=>(p,0)
   | none=>(zeroP,2)
 else (zeroP,1)
theorem runR_flat (c:List Code) (l:List Src):runR c l=gatherR ((List.range c.length).flatMap fun i=>(instsR l (c.getD i ⟨[],false,[]⟩).pair).map fun z=>instR (c.getD i ⟨[],false,[]⟩) z.1 z.2 i):=by
 unfold runR allR
 congr 1
 rw [List.flatMap_map]
 have e:c.zipIdx=(List.range c.length).map fun i=>(c.getD i ⟨[],false,[]⟩,i):=by
  apply List.ext_getElem?
  intro i
  rw [List.getElem?_zipIdx,List.getElem?_map]
  rcases Nat.lt_or_ge i c.length with h | h
  ·simp [h]
  ·simp [h]
 rw [e,List.flatMap_map]
theorem srcOk_iff {l:List Src} : srcOk l=true↔(∀s∈l,0≤s.ent∧s.ent<12∧∀x∈s.items,amtB x.amt=true)∧l.Pairwise fun a b=>a.ent<b.ent:=by
 constructor
 ·exact fun h=>⟨fun s hs=>src_in h hs,src_sorted h⟩
 ·rintro ⟨h1,h2⟩
  unfold srcOk
  rw [Bool.and_eq_true]
  refine⟨List.all_eq_true.2 fun s hs=>by simpa [and_assoc] using h1 s hs,List.all_eq_true.2 fun i hi=>?_⟩
  have hi:=List.mem_range.1 hi
  match i,hi with
  | 0,_=>rfl
  | i+1,hi=>
   have:=List.pairwise_iff_getElem.1 h2 i (i+1) (by omega) hi (by omega)
   simp only [Nat.add_sub_cancel,List.getD_eq_getElem?_getD,List.getElem?_eq_getElem hi,List.getElem?_eq_getElem (show i<l.length by omega),Option.getD_some]
   simp [this]
end Go.Proofs.YtmlpmdccfmmpoaaGreat
end
