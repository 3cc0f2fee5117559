/- Chapter 35: the accounts of a map, in order. -/
import Derived.Test.YtmlpmdccfmmpoaaGreatDoorExM
import Derived.Test.YtmlpmdccfmmpoaaGreatDoorSkl
set_option linter.unusedSimpArgs false
set_option linter.unusedVariables false
set_option maxHeartbeats 2000000
set_option maxRecDepth 100000
namespace Go.Proofs.YtmlpmdccfmmpoaaGreatDoor
open E

def B6 (ps:List Part):List (Int×Int):=ps.foldl (fun es p=>Ca es p.acc ((B7 es p.acc).getD 0+p.amt)) []
theorem Ed (ps:List Part) (p:Part):B6 (ps++[p])=Ca (B6 ps) p.acc ((B7 (B6 ps) p.acc).getD 0+p.amt):=by simp [B6]
theorem Ua (ps:List Part) (p:Part) (k:Int):As (ps++[p]) k=As ps k+(if p.acc=k then p.amt else 0):=by
 unfold As;rw [List.map_append,List.sum_append];simp
theorem O3 {α:Type} : ∀(l:List α),l=[]∨∃a x,l=a++[x]
 | []=>.inl rfl
 | x::l=>.inr (by
  rcases O3 l with rfl|⟨a,y,rfl⟩
  ·exact⟨[],x,rfl⟩
  ·exact⟨x::a,y,rfl⟩)
theorem Rh : ∀(n:Nat) (ps:List Part),ps.length=n→∀k,B7 (B6 ps) k=if k∈Aq ps then some (As ps k) else none
 | 0,ps,h,k=>by
  have:ps=[]:=List.eq_nil_of_length_eq_zero h
  subst this;rfl
 | n+1,ps,h,k=>by
  rcases O3 ps with rfl|⟨a,x,rfl⟩
  ·simp at h
  ·have ih:=Rh n a (by simpa using h)
   rw [Ed,H9,ih,ih,Ua]
   have hk:k∈Aq (a++[x])↔k∈Aq a∨x.acc=k:=by
    rw [Dg,Dg];constructor
    ·rintro ⟨p,hp,he⟩
     rcases List.mem_append.1 hp with hp|hp
     ·exact .inl ⟨p,hp,he⟩
     ·simp at hp;subst hp;exact .inr he
    ·rintro (⟨p,hp,he⟩|he)
     ·exact⟨p,by simp [hp],he⟩
     ·exact⟨x,by simp,he⟩
   by_cases h1:k=x.acc
   ·subst h1
    rw [if_pos rfl,if_pos (hk.2 (.inr rfl)),if_pos rfl]
    by_cases h2:x.acc∈Aq a
    ·rw [if_pos h2];rfl
    ·rw [if_neg h2,Mf h2];rfl
   ·rw [if_neg h1,if_neg (Ne.symm h1)]
    by_cases h2:k∈Aq a
    ·rw [if_pos h2,if_pos (hk.2 (.inl h2))];simp
    ·rw [if_neg h2,if_neg (fun h=>by rcases hk.1 h with h|h;exact h2 h;exact h1 h.symm)]
theorem En (ps:List Part) (k:Int):(B7 (B6 ps) k).getD 0=As ps k:=by
 rw [Rh _ ps rfl]
 by_cases h:k∈Aq ps
 ·rw [if_pos h];rfl
 ·rw [if_neg h,Mf h];rfl
theorem Eo : ∀(ps:List Part),(B6 ps).length≤ps.length:=fun ps=>by
 suffices h : ∀(ps:List Part) (es:List (Int×Int)),(ps.foldl (fun es p=>Ca es p.acc ((B7 es p.acc).getD 0+p.amt)) es).length≤es.length+ps.length by simpa [B6] using h ps []
 intro ps
 induction ps with
 | nil=>intro es;simp
 | cons p ps ih=>
  intro es
  have h1:=ih (Ca es p.acc ((B7 es p.acc).getD 0+p.amt))
  have h2:=F6 es p.acc ((B7 es p.acc).getD 0+p.amt)
  simp only [List.foldl_cons,List.length_cons];omega
theorem X9 {es:List (Int×Int)} {k v:Int} : (∀x,x∈(Ca es k v).map Prod.fst↔x=k∨x∈es.map Prod.fst)∧((es.map Prod.fst).Nodup→((Ca es k v).map Prod.fst).Nodup):=by
 induction es with
 | nil=>simp [Ca]
 | cons p es ih=>
  obtain⟨a,b⟩:=p
  unfold Ca
  by_cases h:k=a
  ·subst h;rw [if_pos rfl];exact⟨fun x=>by simp,fun h=>by simpa using h⟩
  ·rw [if_neg h]
   refine⟨fun x=>?_,fun hn=>?_⟩
   ·simp only [List.map_cons,List.mem_cons,ih.1]
    constructor
    ·rintro (h|h|h)<;>simp [h]
    ·rintro (h|h|h)<;>simp [h]
   ·simp only [List.map_cons,List.nodup_cons] at hn ⊢
    refine⟨fun hm=>?_,ih.2 hn.2⟩
    rcases (ih.1 a).1 hm with h1|h1
    ·exact h h1.symm
    ·exact hn.1 h1
theorem Js (ps:List Part):((B6 ps).map Prod.fst).Nodup∧∀k,k∈(B6 ps).map Prod.fst↔∃p∈ps,p.acc=k:=by
 suffices h : ∀(ps:List Part) (es:List (Int×Int)),(es.map Prod.fst).Nodup→((ps.foldl (fun es p=>Ca es p.acc ((B7 es p.acc).getD 0+p.amt)) es).map Prod.fst).Nodup∧∀k,k∈(ps.foldl (fun es p=>Ca es p.acc ((B7 es p.acc).getD 0+p.amt)) es).map Prod.fst↔(∃p∈ps,p.acc=k)∨k∈es.map Prod.fst by
  have:=h ps [] List.nodup_nil
  exact⟨this.1,fun k=>by simpa [B6] using this.2 k⟩
 intro ps
 induction ps with
 | nil=>intro es h;exact⟨h,fun k=>by simp⟩
 | cons p ps ih=>
  intro es h
  have hk:=@X9 es p.acc ((B7 es p.acc).getD 0+p.amt)
  have:=ih (Ca es p.acc ((B7 es p.acc).getD 0+p.amt)) (hk.2 h)
  refine⟨this.1,fun k=>?_⟩
  rw [List.foldl_cons,this.2 k,hk.1 k]
  constructor
  ·rintro (⟨q,h1,h2⟩|h1|h1)
   ·exact .inl ⟨q,by simp [h1],h2⟩
   ·exact .inl ⟨p,by simp,h1.symm⟩
   ·exact .inr h1
  ·rintro (⟨q,h1,h2⟩|h1)
   ·rcases List.mem_cons.1 h1 with rfl|h1
    ·exact .inr (.inl h2.symm)
    ·exact .inl ⟨q,h1,h2⟩
   ·exact .inr (.inr h1)
theorem Kj (ps:List Part) {ss:List Int} (h:ss.Perm ((B6 ps).map Prod.fst)):ss.mergeSort (fun x y=>decide (x≤y))=Aq ps:=by
 have hk:=Js ps
 have hp:=List.mergeSort_perm ss (fun x y=>decide (x≤y))
 have hs:=List.pairwise_mergeSort (le:=fun x y:Int=>decide (x≤y)) (fun a b c h1 h2=>by simp at *;omega) (fun a b=>by simp;omega) ss
 have hn:(ss.mergeSort fun x y=>decide (x≤y)).Nodup:=(hp.trans h).nodup_iff.2 hk.1
 refine Gy ?_ (Dk ps) fun x=>?_
 ·refine (List.pairwise_and_iff.2 ⟨hs,hn⟩).imp fun {a b} hab=>?_
  have h1:a≤b:=by simpa using hab.1
  have h2:=hab.2
  omega
 ·rw [(hp.trans h).mem_iff,hk.2,Dg]
def OkU (B:List Bx):Prop:=∀n m,B.length≤n→A6 n m B B
theorem OkU.S {B:List Bx} (h:OkU B):OkS ⟨B,[]⟩:=⟨h _ _ (Nat.le_refl _),trivial⟩
theorem A6.appU {n m:Nat} {A:List Bx} : ∀{l l':List Bx},A6 n m A A→(A6 n m (A++l) (A++l')↔A6 n m l l'):=by
 intro l l' h
 induction A with
 | nil=>rfl
 | cons a A ih=>exact⟨fun k=>(ih h.2).1 k.2,fun k=>⟨h.1,(ih h.2).2 k⟩⟩
theorem OkU.more {B:List Bx} (h:OkU B) (l:List Bx) (hl : ∀n m,B.length+l.length≤n→A6 n m l l):OkU (B++l):=fun n m hn=>by
 rw [List.length_append] at hn
 exact (A6.appU (h n m (by omega))).2 (hl n m hn)
theorem Ae {B:List Bx} {b:Nat} {x:Bx} (h:B[b]?=some x) (l:List Bx):(B++l)[b]?=some x:=by
 rw [List.getElem?_append_left (List.getElem?_eq_some_iff.1 h).1];exact h
theorem A02 (mb:Nat) (B:List Bx) (hB:OkU B) (hm:mb<B.length):FnS Tryz.prog 131 [.mp mb] ⟨B,[]⟩ (.fn (.func 164) [.ptr B.length 0]) ⟨B++[.cells [.mp mb]],[]⟩:=by
 have hle:=fun l l' n m h=>A6.appU (l:=l) (l':=l') (hB n m h)
 (refine FnS.of_code mix Tryz.call131 k_131 (by simp) (fun hB=>?_);(try simp at hB);(try simp -implicitDefEqProofs))
 (try simp -implicitDefEqProofs [hle,hm])
 omega
open Go.RowKit Go.Maps Go.Sort Go.Shelf
namespace E
theorem Inv.grownK {g:Gh} {S:St} {w w':World} (h:Inv g S w) (h1:w'.os=w.os) (h2:w'.tape=w.tape) (h3:w'.output=w.output) (h4:w.heap.size≤w'.heap.size) (h5 : ∀k,k<w.heap.size→w'.heap[k]?=w.heap[k]?):Mv g S w g S w':=by
 refine⟨⟨fun b o c hc=>?_,h.len,h.nodup,fun i blk bx hi hbx=>?_,h.sep,h.bwr,h.tlen,fun k n blk e z cap hk hn=>?_,h.tnil,h.tdis,Nat.le_trans h.lo h4,fun i blk hi=>Nat.lt_of_lt_of_le (h.bold i blk hi) h4,h.lay,h.lszOf fun b hb _=>h5 b hb⟩,Ext.refl _ _,⟨h1,h2,h3,h4,fun k hk _=>h5 k (Nat.lt_of_lt_of_le hk h.lo)⟩⟩
 ·rw [Dm (h5 b (h.Ilt hc))]
  exact h.imm b o c hc
 ·exact (h.box i blk bx hi hbx).mono (Ext.refl _ _) hi (h5 blk (h.bold i blk hi))
 ·obtain⟨q1,q2,q3,q4,hlt⟩:=h.tok k n blk e z cap hk hn
  exact⟨q1.imp id fun ⟨cur,a,r⟩=>⟨cur,by rw [h5 blk hlt];exact a,r⟩,q2,q3,q4,Nat.lt_of_lt_of_le hlt h4⟩
theorem Inv.fresh {g:Gh} {S:St} {w w':World} (h:Inv g S w) (hb:Below w.heap.size w w') {nb:Nat} (hnb:w.heap.size≤nb) {cur:Array Value} {ty:TypeId} (hc:w'.heap[nb]?=some (.cells cur ty (0,0))) :
  Mv g S w { g with I:=fun b o=>if b=nb then cur[o]? else g.I b o } S w':=by
 have hext:Ext g S.toks { g with I:=fun b o=>if b=nb then cur[o]? else g.I b o } S.toks:=by
  refine⟨fun b o c hc=>?_,fun _ _ h=>h,fun _ n h=>⟨n,h,Nat.le_refl _,fun _=>rfl⟩,rfl,rfl,fun b o c hc=>?_,fun _ _ _=>rfl⟩
  ·have:=h.Ilt hc
   simp only []
   rw [if_neg (by omega)]
   exact hc
  ·simp only [] at hc
   split at hc
   ·right;left;have:=h.lo;omega
   ·exact .inl hc
 refine⟨⟨?_,h.len,h.nodup,?_,?_,h.bwr,h.tlen,?_,h.tnil,h.tdis,Nat.le_trans h.lo hb.size,fun i blk hi=>Nat.lt_of_lt_of_le (h.bold i blk hi) hb.size,fun b o c hc=>hext.I _ _ _ (h.lay b o c hc),h.lszOf fun b hbl _=>hb.block b hbl⟩,hext,⟨hb.os,hb.tape,hb.output,hb.size,fun k hk _=>hb.block k (Nat.lt_of_lt_of_le hk h.lo)⟩⟩
 ·intro b o c hc'
  simp only [] at hc'
  split at hc'
  ·rename_i hbn
   subst hbn
   simp only [World.cell?,hc]
   exact hc'
  ·rw [Dm (hb.block b (h.Ilt hc'))]
   exact h.imm b o c hc'
 ·intro i blk bx hi hbx
  exact (h.box i blk bx hi hbx).mono hext hi (hb.block blk (h.bold i blk hi))
 ·intro i blk bx hi hbx hd o
  have:=h.bold i blk hi
  simp only []
  rw [if_neg (by omega)]
  exact h.sep i blk bx hi hbx hd o
 ·intro k n blk e z cap ht hn
  obtain⟨h1,h5,h6,h7,hlt⟩:=h.tok k n blk e z cap ht hn
  refine⟨h1.imp id fun ⟨cur,a,r⟩=>⟨cur,by rw [hb.block blk hlt];exact a,r⟩,fun o ho=>?_,h6,h7,Nat.lt_of_lt_of_le hlt hb.size⟩
  simp only []
  rw [if_neg (by omega)]
  exact h5 o ho
end E
def A03 (l:List Int):V:=.t (.sl (l.map fun n=>[T.int .i64 n]))
theorem Xa {H:Type} (R:Value→Option (DataW H×List MemPlace)) (hR : ∀v,∃z,R v=some z) (k:TypeId) : ∀(ms:List MapEntry) (ks:List Int),ms.length=ks.length→(∀j (h:j<ms.length),Go.keyOf Tryz.prog k (ms[j]).key=some (.int .i64 (ks.getD j 0)))→
  (intKeys (DataW.map ((ms.map (Go.WideElems.rg Tryz.prog k R)).foldr DataW.insert []))).Perm ks:=fun ms ks hl hk=>by
 have h1:=(Go.WideShapes.sorted_perm (ms.map (Go.WideElems.rg Tryz.prog k R))).map fun p:Lit×DataW H=>_root_.Go.intOf p.1
 refine h1.trans ?_
 have e:(ms.map (Go.WideElems.rg Tryz.prog k R)).map (fun p:Lit×DataW H=>_root_.Go.intOf p.1)=ks:=by
  apply List.ext_getElem
  ·simpa using hl
  ·intro j h2 h3
   have hj:j<ms.length:=by simpa using h2
   obtain⟨z,hz⟩:=hR (ms[j]).val
   simp only [List.getElem_map,Go.WideElems.rg,Go.WideElems.rd,hk j hj,hz,Option.bind_some,Option.map_some,Option.getD_some,_root_.Go.intOf]
   simp [List.getD_eq_getElem?_getD,h3]
 rw [e]
theorem A04 {us:Array Value} (h:us.size=1):us = #[us.getD 0 undef]:=by
 rcases us with ⟨l⟩
 match l,h with
 | [x],_=>rfl
theorem A05 (m:Nat):AnyZI.SortsIn Tryz.prog H1 Fence.wide m:=
  ⟨fun blk off cap ss W hH hblk hsz=>callsIn_wide.2 (AnyM.slices_Sort_int Jr blk off cap ss W hH hblk hsz),
   fun p cap W=>callsIn_wide.2 (AnyM.slices_Sort_int_none Jr p cap W)⟩
def Ge (l:List Int):List Int:=l.mergeSort fun x y=>decide (x≤y)
theorem Ub {a b:List Int} (h:a.Perm b) (hn:b.Nodup):Ge a=Ge b:=by
 have key : ∀l:List Int,l.Nodup→(Ge l).Pairwise (· < ·):=fun l hl=>by
  have hs:=List.pairwise_mergeSort (le:=fun x y:Int=>decide (x≤y)) (fun a b c h1 h2=>by simp at *;omega) (fun a b=>by simp;omega) l
  have hn2:(Ge l).Nodup:=(List.mergeSort_perm l _).nodup_iff.2 hl
  refine (List.pairwise_and_iff.2 ⟨hs,hn2⟩).imp fun {a b} hab=>?_
  have h1:a≤b:=by simpa using hab.1
  have h2:=hab.2
  omega
 refine Gy (key a (h.nodup_iff.2 hn)) (key b hn) fun x=>?_
 unfold Ge
 rw [(List.mergeSort_perm a _).mem_iff,(List.mergeSort_perm b _).mem_iff,h.mem_iff]
theorem Ri (nb mb:Nat) (B:List Bx) (es:List (Int×Int)) (hnb:B[nb]?=some (.cells [.mp mb])) (hmb:B[mb]?=some (.mp (mI vI es))) (hes:es.length≤10000) (hnd:(es.map Prod.fst).Nodup) (hrg : ∀p∈es,0≤p.1∧p.1≤1000000) :
  FnS Tryz.prog 130 [.fn (.func 164) [.ptr nb 0]] ⟨B,[]⟩ (A03 (Ge (es.map Prod.fst))) ⟨B,[]⟩:=by
 refine⟨Tryz.call130,fun g w us hI hus hrel=>?_⟩
 rw [A04 hus]
 have h0:=hrel 0 (by simp)
 simp only [List.getD_cons_zero] at h0
 generalize us.getD 0 undef=u0 at h0
 cases h0 with
 | fn _ _ vs hl hr=>
  have hvs:=A04 (by simpa using hl)
  have hr0:=hr 0 (by simp)
  simp only [List.getD_cons_zero] at hr0
  rw [hvs]
  generalize vs.getD 0 undef=p0 at hr0
  cases hr0 with
  | ptr _ _ blk hβ=>
   obtain⟨cv,cty,hh,hsz,hcr⟩:=hI.box nb blk _ hβ hnb
   have hc0:=hcr 0 (by simp)
   simp only [List.getD_cons_zero] at hc0
   have hcs:cv = #[cv.getD 0 undef]:=A04 (by simpa using hsz)
   generalize cv.getD 0 undef=c0 at hc0 hcs
   cases hc0 with
   | mp _ mblk hβm=>
    obtain⟨ms,clock,hm,hms,hmr,hmx,hbs⟩:=hI.box mb mblk _ hβm hmb
    have hlen:ms.size=es.length:=by simpa using hms
    have hcell:w.cell? ⟨blk,0,none⟩=some (.map (some mblk)):=by simp [World.cell?,hh,hcs]
    have hR : ∀v:Value,∃z,(fun _=>some (DataW.lit (.bool true),[]):Value→Option (DataW Unit×List MemPlace)) v=some z:=fun v=>⟨_,rfl⟩
    have hent : ∀j (h:j<ms.size),∃v,ms[j].key=.int .i64 ((es.map Prod.fst).getD j 0)∧0≤(es.map Prod.fst).getD j 0∧(es.map Prod.fst).getD j 0≤1000000∧ms[j].born<clock∧ms[j].val=v:=fun j h=>by
     obtain⟨m,h1,h2,h3,h4⟩:=hmr j (by simp;omega)
     have hje:j<es.length:=by omega
     have e1:ms[j]=m:=by rw [Array.getElem?_eq_getElem h] at h1;exact Option.some.inj h1
     have e2:((mI vI es).getD j (.junk,.junk)).1=vI ((es.map Prod.fst).getD j 0):=by simp [List.getD_eq_getElem?_getD,hje]
     rw [e2] at h2
     have hrj:=hrg es[j] (List.getElem_mem hje)
     have e3:(es.map Prod.fst).getD j 0=es[j].1:=by simp [List.getD_eq_getElem?_getD,hje]
     refine⟨_,?_,by rw [e3];exact hrj.1,by rw [e3];exact hrj.2,by rw [e1];exact h4,rfl⟩
     rw [e1]
     generalize m.key=mk at h2
     cases h2 with
     | t _ _ h2=>cases h2;rfl
    have hkey : ∀j (h:j<ms.toList.length),Go.keyOf Tryz.prog 3 (ms.toList[j]).key=some (.int .i64 ((es.map Prod.fst).getD j 0)):=fun j h=>by
     obtain⟨v,h1,h2,h3,_⟩:=hent j (by simpa using h)
     have e:ms.toList[j]=ms[j]'(by simpa using h):=by simp
     rw [e,h1]
     exact Maps.keyOf_int_mk Tryz.underlying3 (by have:=Go.RowKit.wrap64_wf ((es.map Prod.fst).getD j 0);rwa [show Go.RowKit.wrap64 ((es.map Prod.fst).getD j 0)=(es.map Prod.fst).getD j 0 from by unfold Go.RowKit.wrap64;omega] at this)
    have hkeys:(ms.toList.map (·.key))=(es.map Prod.fst).map fun n=>Value.int .i64 n:=by
     apply List.ext_getElem
     ·simp [hlen]
     ·intro j h1 h2
      obtain⟨v,q1,_⟩:=hent j (by simpa using h1)
      have hje:j<es.length:=by simpa using h2
      simp only [List.getElem_map,Array.getElem_toList,q1]
      simp [List.getD_eq_getElem?_getD,hje]
    have hfit:Go.WideElems.Fit Tryz.prog 3 (fun _=>some (DataW.lit (.bool true),[]):Value→Option (DataW Unit×List MemPlace)) ms clock:=by
     refine⟨hmx,⟨fun x hx=>?_,hbs.imp fun {a b} h=>Nat.ne_of_lt h,?_⟩,fun x hx=>?_⟩
     ·obtain⟨j,hj,rfl⟩:=List.mem_iff_getElem.1 hx
      obtain⟨v,_,_,_,h4,_⟩:=hent j (by simpa using hj)
      simpa using h4
     ·rw [hkeys]
      exact List.pairwise_map.2 (hnd.imp fun h e=>h (by simpa using e))
     ·obtain⟨j,hj,rfl⟩:=List.mem_iff_getElem.1 hx
      exact⟨(.int .i64 ((es.map Prod.fst).getD j 0),DataW.lit (.bool true)),by simp only [Go.WideElems.rd,hkey j hj,Option.bind_some,Option.map_some]⟩
    have hown:w.ownsMap Tryz.prog 3 (fun _=>some (DataW.lit (.bool true),[]):Value→Option (DataW Unit×List MemPlace)) mblk es.length _:=⟨ms,clock,hm,hfit,by omega,rfl⟩
    have hperm:=Xa (fun _=>some (DataW.lit (.bool true),[]):Value→Option (DataW Unit×List MemPlace)) hR 3 ms.toList (es.map Prod.fst) (by simp [hlen]) hkey
    have hseq:=AnyZI.keys_gives (ρ:=J3) { A01 with } Fence.wide 2 trivial rfl (by omega) blk mblk es.length _ w (hI.bold nb blk hβ) hcell hown
    have cS:=AnyZI.sorted_in U9 Fence.wide 5 trivial trivial trivial trivial rfl (by omega) (A05 _) (enters_of Tryz.func128 (by kernel_rfl) rfl) 164 #[.pointer (some ⟨blk,0,none⟩)] trivial (enters_of Tryz.func164 (by kernel_rfl) rfl) _ _ (by have:=hown.size_le;unfold maxLen;omega) (by have:=hown.size_le;omega) w hseq
    change CallsIn _ _ Tryz.prog 130 _ _ _ at cS
    refine (callsIn_wide.1 cS).mono ?_
    rintro e w' ⟨v,ss,rfl,hS,hrow,hnil,hb⟩
    have hp:ss.Perm (es.map Prod.fst):=hS.trans hperm
    have hso:ss.mergeSort (fun x y=>decide (x≤y))=Ge (es.map Prod.fst):=Ub hp hnd
    have hsl:(Ge (es.map Prod.fst)).length=ss.length:=by rw [←hso];exact (List.mergeSort_perm ss _).length_eq
    rw [hso] at hrow
    rcases hrow.2 with ⟨rfl,hz⟩|⟨gb,cap,cur,rfl,hbase,hgb,r1,r2,r3,r4⟩
    ·have hnl:Ge (es.map Prod.fst)=[]:=List.eq_nil_of_length_eq_zero (by omega)
     refine⟨_,g,rfl,?_,hI.grownK hb.os hb.tape hb.output hb.size hb.block⟩
     rw [hnl]
     exact .t _ _ .slnil
    ·refine⟨_,_,rfl,?_,hI.fresh hb hbase hgb⟩
     generalize Ge (es.map Prod.fst)=zs at *
     have hcz : ∀i,i<zs.length→cur[i]?=some (.int .i64 (zs.getD i 0)):=fun i hi=>by
      have e1:=congrArg (fun l:List Value=>l[i]?) r4
      simp only [List.getElem?_map] at e1
      rw [List.getElem?_take,if_pos (by omega),List.getElem?_eq_getElem hi] at e1
      rw [←Array.getElem?_toList,e1]
      simp [List.getD_eq_getElem?_getD,hi]
     rw [←hsl]
     refine .t _ _ ?_
     have e0:(zs.map fun n=>[T.int .i64 n]).length=zs.length:=by simp
     have hg : ∀i,i<zs.length→(zs.map fun n=>[T.int .i64 n]).getD i []=[T.int .i64 (zs.getD i 0)]:=fun i hi=>by simp [List.getD_eq_getElem?_getD,hi]
     rw [←e0]
     refine .sl _ gb 0 cap 1 (fun i _=>.int .i64 (zs.getD i 0)) (fun i hi=>by rw [hg i (by omega)];rfl) (by omega) r2 (fun i j hi hj=>?_) (fun i j hi hj=>?_)
     ·have hj0:j=0:=by omega
      subst hj0
      simp only [if_true,Nat.zero_add,Nat.mul_one,Nat.add_zero]
      exact hcz i (by omega)
     ·have hj0:j=0:=by omega
      subst hj0
      rw [hg i (by omega)]
      exact .int _ _
end Go.Proofs.YtmlpmdccfmmpoaaGreatDoor
