/- Functions whose slices grow in boxes, and that call what changes the state where the order of evaluation is open. -/
import Derived.Test.YtmlpmdccfmmpoaaGreatDoorExM
import Derived.Test.YtmlpmdccfmmpoaaGreatDoorSkl
import Derived.Test.YtmlpmdccfmmpoaaGreatDoorCodeM
set_option linter.unusedSimpArgs false
set_option linter.unusedVariables false
set_option maxHeartbeats 4000000
set_option maxRecDepth 100000
section
set_option linter.unusedSimpArgs false
set_option linter.unusedVariables false
set_option maxHeartbeats 2000000
set_option maxRecDepth 100000
namespace Go.Proofs.YtmlpmdccfmmpoaaGreatDoor
open E

def C5 (ps:List Part):List (Int×Int):=ps.foldl (fun es p=>D3 es p.acc ((Bf es p.acc).getD 0+p.amt)) []
theorem Hi (ps:List Part) (p:Part):C5 (ps++[p])=D3 (C5 ps) p.acc ((Bf (C5 ps) p.acc).getD 0+p.amt):=by simp [C5]
theorem Tx (ps:List Part) (p:Part) (k:Int):Am (ps++[p]) k=Am ps k+(if p.acc=k then p.amt else 0):=by
 unfold Am;rw [List.map_append,List.sum_append];simp
theorem Nr {α:Type} : ∀(l:List α),l=[]∨∃a x,l=a++[x]
 | []=>.inl rfl
 | x::l=>.inr (by
  rcases Nr l with rfl|⟨a,y,rfl⟩
  ·exact⟨[],x,rfl⟩
  ·exact⟨x::a,y,rfl⟩)
theorem R7 : ∀(n:Nat) (ps:List Part),ps.length=n→∀k,Bf (C5 ps) k=if k∈Ao ps then some (Am ps k) else none
 | 0,ps,h,k=>by
  have:ps=[]:=List.eq_nil_of_length_eq_zero h
  subst this;rfl
 | n+1,ps,h,k=>by
  rcases Nr ps with rfl|⟨a,x,rfl⟩
  ·simp at h
  ·have ih:=R7 n a (by simpa using h)
   rw [Hi,Jt,ih,ih,Tx]
   have hk:k∈Ao (a++[x])↔k∈Ao a∨x.acc=k:=by
    rw [Bt,Bt];constructor
    ·rintro ⟨p,hp,he⟩
     rcases List.mem_append.1 hp with hp|hp
     ·exact .inl ⟨p,hp,he⟩
     ·simp at hp;subst hp;exact .inr he
    ·rintro (⟨p,hp,he⟩|he)
     ·exact⟨p,by simp [hp],he⟩
     ·exact⟨x,by simp,he⟩
   by_cases h1:k=x.acc
   ·subst h1
    rw [if_pos rfl,if_pos (hk.2 (.inr rfl)),if_pos rfl]
    by_cases h2:x.acc∈Ao a
    ·rw [if_pos h2];rfl
    ·rw [if_neg h2,M9 h2];rfl
   ·rw [if_neg h1,if_neg (Ne.symm h1)]
    by_cases h2:k∈Ao a
    ·rw [if_pos h2,if_pos (hk.2 (.inl h2))];simp
    ·rw [if_neg h2,if_neg (fun h=>by rcases hk.1 h with h|h;exact h2 h;exact h1 h.symm)]
theorem Jc (ps:List Part) (k:Int):(Bf (C5 ps) k).getD 0=Am ps k:=by
 rw [R7 _ ps rfl]
 by_cases h:k∈Ao ps
 ·rw [if_pos h];rfl
 ·rw [if_neg h,M9 h];rfl
theorem Jd : ∀(ps:List Part),(C5 ps).length≤ps.length:=fun ps=>by
 suffices h : ∀(ps:List Part) (es:List (Int×Int)),(ps.foldl (fun es p=>D3 es p.acc ((Bf es p.acc).getD 0+p.amt)) es).length≤es.length+ps.length by simpa [C5] using h ps []
 intro ps
 induction ps with
 | nil=>intro es;simp
 | cons p ps ih=>
  intro es
  have h1:=ih (D3 es p.acc ((Bf es p.acc).getD 0+p.amt))
  have h2:=H0 es p.acc ((Bf es p.acc).getD 0+p.amt)
  simp only [List.foldl_cons,List.length_cons];omega
theorem X2 {es:List (Int×Int)} {k v:Int} : (∀x,x∈(D3 es k v).map Prod.fst↔x=k∨x∈es.map Prod.fst)∧((es.map Prod.fst).Nodup→((D3 es k v).map Prod.fst).Nodup):=by
 induction es with
 | nil=>simp [D3]
 | cons p es ih=>
  obtain⟨a,b⟩:=p
  unfold D3
  by_cases h:k=a
  ·subst h;rw [if_pos rfl];exact⟨fun x=>by simp,fun h=>by simpa using h⟩
  ·rw [if_neg h]
   refine⟨fun x=>?_,fun hn=>?_⟩
   ·simp only [List.map_cons,List.mem_cons,ih.1]
    constructor
    ·rintro (h|h|h)<;>simp [h]
    ·rintro (h|h|h)<;>simp [h]
   ·simp only [List.map_cons,List.nodup_cons] at hn ⊢
    refine⟨fun hm=>?_,ih.2 hn.2⟩
    rcases (ih.1 a).1 hm with h1|h1
    ·exact h h1.symm
    ·exact hn.1 h1
theorem Ns (ps:List Part):((C5 ps).map Prod.fst).Nodup∧∀k,k∈(C5 ps).map Prod.fst↔∃p∈ps,p.acc=k:=by
 suffices h : ∀(ps:List Part) (es:List (Int×Int)),(es.map Prod.fst).Nodup→((ps.foldl (fun es p=>D3 es p.acc ((Bf es p.acc).getD 0+p.amt)) es).map Prod.fst).Nodup∧∀k,k∈(ps.foldl (fun es p=>D3 es p.acc ((Bf es p.acc).getD 0+p.amt)) es).map Prod.fst↔(∃p∈ps,p.acc=k)∨k∈es.map Prod.fst by
  have:=h ps [] List.nodup_nil
  exact⟨this.1,fun k=>by simpa [C5] using this.2 k⟩
 intro ps
 induction ps with
 | nil=>intro es h;exact⟨h,fun k=>by simp⟩
 | cons p ps ih=>
  intro es h
  have hk:=@X2 es p.acc ((Bf es p.acc).getD 0+p.amt)
  have:=ih (D3 es p.acc ((Bf es p.acc).getD 0+p.amt)) (hk.2 h)
  refine⟨this.1,fun k=>?_⟩
  rw [List.foldl_cons,this.2 k,hk.1 k]
  constructor
  ·rintro (⟨q,h1,h2⟩|h1|h1)
   ·exact .inl ⟨q,by simp [h1],h2⟩
   ·exact .inl ⟨p,by simp,h1.symm⟩
   ·exact .inr h1
  ·rintro (⟨q,h1,h2⟩|h1)
   ·rcases List.mem_cons.1 h1 with rfl|h1
    ·exact .inr (.inl h2.symm)
    ·exact .inl ⟨q,h1,h2⟩
   ·exact .inr (.inr h1)
theorem R8 (ps:List Part) {ss:List Int} (h:ss.Perm ((C5 ps).map Prod.fst)):ss.mergeSort (fun x y=>decide (x≤y))=Ao ps:=by
 have hk:=Ns ps
 have hp:=List.mergeSort_perm ss (fun x y=>decide (x≤y))
 have hs:=List.pairwise_mergeSort (le:=fun x y:Int=>decide (x≤y)) (fun a b c h1 h2=>by simp at *;omega) (fun a b=>by simp;omega) ss
 have hn:(ss.mergeSort fun x y=>decide (x≤y)).Nodup:=(hp.trans h).nodup_iff.2 hk.1
 refine H1 ?_ (Co ps) fun x=>?_
 ·refine (List.pairwise_and_iff.2 ⟨hs,hn⟩).imp fun {a b} hab=>?_
  have h1:a≤b:=by simpa using hab.1
  have h2:=hab.2
  omega
 ·rw [(hp.trans h).mem_iff,hk.2,Bt]
def OkU (B:List Bx):Prop:=∀n m,B.length≤n→Ab n m B B
theorem OkU.S {B:List Bx} (h:OkU B):OkS ⟨B,[]⟩:=⟨h _ _ (Nat.le_refl _),trivial⟩
theorem Ab.appU {n m:Nat} {A:List Bx} : ∀{l l':List Bx},Ab n m A A→(Ab n m (A++l) (A++l')↔Ab n m l l'):=by
 intro l l' h
 induction A with
 | nil=>rfl
 | cons a A ih=>exact⟨fun k=>(ih h.2).1 k.2,fun k=>⟨h.1,(ih h.2).2 k⟩⟩
theorem OkU.more {B:List Bx} (h:OkU B) (l:List Bx) (hl : ∀n m,B.length+l.length≤n→Ab n m l l):OkU (B++l):=fun n m hn=>by
 rw [List.length_append] at hn
 exact (Ab.appU (h n m (by omega))).2 (hl n m hn)
theorem Aj {B:List Bx} {b:Nat} {x:Bx} (h:B[b]?=some x) (l:List Bx):(B++l)[b]?=some x:=by
 rw [List.getElem?_append_left (List.getElem?_eq_some_iff.1 h).1];exact h
theorem A5i (mb:Nat) (B:List Bx) (hB:OkU B) (hm:mb<B.length):FnS Tryz.prog 131 [.mp mb] ⟨B,[]⟩ (.fn (.func 164) [.ptr B.length 0]) ⟨B++[.cells [.mp mb]],[]⟩:=by
 have hle:=fun l l' n m h=>Ab.appU (l:=l) (l':=l') (hB n m h)
 (refine FnS.of_code mix Tryz.call131 k_131 (by simp) (fun hB=>?_);(try simp at hB);(try simp -implicitDefEqProofs))
 (try simp -implicitDefEqProofs [hle,hm])
 omega
open Go.RowKit Go.Maps Go.Sort Go.Shelf
namespace E
theorem Inv.grownK {g:Gh} {S:St} {w w':World} (h:Inv g S w) (h1:w'.os=w.os) (h2:w'.tape=w.tape) (h3:w'.output=w.output) (h4:w.heap.size≤w'.heap.size) (h5 : ∀k,k<w.heap.size→w'.heap[k]?=w.heap[k]?):Mv g S w g S w':=by
 refine⟨⟨fun b o c hc=>?_,h.len,h.nodup,fun i blk bx hi hbx=>?_,h.sep,h.bwr,h.tlen,fun k n blk e z cap hk hn=>?_,h.tnil,h.tdis,Nat.le_trans h.lo h4,fun i blk hi=>Nat.lt_of_lt_of_le (h.bold i blk hi) h4,h.lay,h.lszOf fun b hb _=>h5 b hb⟩,Ext.refl _ _,⟨h1,h2,h3,h4,fun k hk _=>h5 k (Nat.lt_of_lt_of_le hk h.lo)⟩⟩
 ·rw [E0 (h5 b (h.Ilt hc))]
  exact h.imm b o c hc
 ·exact (h.box i blk bx hi hbx).mono (Ext.refl _ _) hi (h5 blk (h.bold i blk hi))
 ·obtain⟨q1,q2,q3,q4,hlt⟩:=h.tok k n blk e z cap hk hn
  exact⟨q1.imp id fun ⟨cur,a,r⟩=>⟨cur,by rw [h5 blk hlt];exact a,r⟩,q2,q3,q4,Nat.lt_of_lt_of_le hlt h4⟩
theorem Inv.fresh {g:Gh} {S:St} {w w':World} (h:Inv g S w) (hb:Below w.heap.size w w') {nb:Nat} (hnb:w.heap.size≤nb) {cur:Array Value} {ty:TypeId} (hc:w'.heap[nb]?=some (.cells cur ty (0,0))) :
  Mv g S w { g with I:=fun b o=>if b=nb then cur[o]? else g.I b o } S w':=by
 have hext:Ext g S.toks { g with I:=fun b o=>if b=nb then cur[o]? else g.I b o } S.toks:=by
  refine⟨fun b o c hc=>?_,fun _ _ h=>h,fun _ n h=>⟨n,h,Nat.le_refl _,fun _=>rfl⟩,rfl,rfl,fun b o c hc=>?_,fun _ _ _=>rfl⟩
  ·have:=h.Ilt hc
   simp only []
   rw [if_neg (by omega)]
   exact hc
  ·simp only [] at hc
   split at hc
   ·right;left;have:=h.lo;omega
   ·exact .inl hc
 refine⟨⟨?_,h.len,h.nodup,?_,?_,h.bwr,h.tlen,?_,h.tnil,h.tdis,Nat.le_trans h.lo hb.size,fun i blk hi=>Nat.lt_of_lt_of_le (h.bold i blk hi) hb.size,fun b o c hc=>hext.I _ _ _ (h.lay b o c hc),h.lszOf fun b hbl _=>hb.block b hbl⟩,hext,⟨hb.os,hb.tape,hb.output,hb.size,fun k hk _=>hb.block k (Nat.lt_of_lt_of_le hk h.lo)⟩⟩
 ·intro b o c hc'
  simp only [] at hc'
  split at hc'
  ·rename_i hbn
   subst hbn
   simp only [World.cell?,hc]
   exact hc'
  ·rw [E0 (hb.block b (h.Ilt hc'))]
   exact h.imm b o c hc'
 ·intro i blk bx hi hbx
  exact (h.box i blk bx hi hbx).mono hext hi (hb.block blk (h.bold i blk hi))
 ·intro i blk bx hi hbx hd o
  have:=h.bold i blk hi
  simp only []
  rw [if_neg (by omega)]
  exact h.sep i blk bx hi hbx hd o
 ·intro k n blk e z cap ht hn
  obtain⟨h1,h5,h6,h7,hlt⟩:=h.tok k n blk e z cap ht hn
  refine⟨h1.imp id fun ⟨cur,a,r⟩=>⟨cur,by rw [hb.block blk hlt];exact a,r⟩,fun o ho=>?_,h6,h7,Nat.lt_of_lt_of_le hlt hb.size⟩
  simp only []
  rw [if_neg (by omega)]
  exact h5 o ho
end E
def A3x (l:List Int):V:=.t (.sl (l.map fun n=>[T.int .i64 n]))
theorem X3 {H:Type} (R:Value→Option (DataW H×List MemPlace)) (hR : ∀v,∃z,R v=some z) (k:TypeId) : ∀(ms:List MapEntry) (ks:List Int),ms.length=ks.length→(∀j (h:j<ms.length),Go.keyOf Tryz.prog k (ms[j]).key=some (.int .i64 (ks.getD j 0)))→
  (intKeys (DataW.map ((ms.map (Go.WideElems.rg Tryz.prog k R)).foldr DataW.insert []))).Perm ks:=fun ms ks hl hk=>by
 have h1:=(Go.WideShapes.sorted_perm (ms.map (Go.WideElems.rg Tryz.prog k R))).map fun p:Lit×DataW H=>_root_.Go.intOf p.1
 refine h1.trans ?_
 have e:(ms.map (Go.WideElems.rg Tryz.prog k R)).map (fun p:Lit×DataW H=>_root_.Go.intOf p.1)=ks:=by
  apply List.ext_getElem
  ·simpa using hl
  ·intro j h2 h3
   have hj:j<ms.length:=by simpa using h2
   obtain⟨z,hz⟩:=hR (ms[j]).val
   simp only [List.getElem_map,Go.WideElems.rg,Go.WideElems.rd,hk j hj,hz,Option.bind_some,Option.map_some,Option.getD_some,_root_.Go.intOf]
   simp [List.getD_eq_getElem?_getD,h3]
 rw [e]
theorem Zm {us:Array Value} (h:us.size=1):us = #[us.getD 0 undef]:=by
 rcases us with ⟨l⟩
 match l,h with
 | [x],_=>rfl
theorem Zn (m:Nat):AnyZI.SortsIn Tryz.prog H4 Fence.wide m:=
  ⟨fun blk off cap ss W hH hblk hsz=>callsIn_wide.2 (AnyM.slices_Sort_int K1 blk off cap ss W hH hblk hsz),
   fun p cap W=>callsIn_wide.2 (AnyM.slices_Sort_int_none K1 p cap W)⟩
def H5 (l:List Int):List Int:=l.mergeSort fun x y=>decide (x≤y)
theorem Ty {a b:List Int} (h:a.Perm b) (hn:b.Nodup):H5 a=H5 b:=by
 have key : ∀l:List Int,l.Nodup→(H5 l).Pairwise (· < ·):=fun l hl=>by
  have hs:=List.pairwise_mergeSort (le:=fun x y:Int=>decide (x≤y)) (fun a b c h1 h2=>by simp at *;omega) (fun a b=>by simp;omega) l
  have hn2:(H5 l).Nodup:=(List.mergeSort_perm l _).nodup_iff.2 hl
  refine (List.pairwise_and_iff.2 ⟨hs,hn2⟩).imp fun {a b} hab=>?_
  have h1:a≤b:=by simpa using hab.1
  have h2:=hab.2
  omega
 refine H1 (key a (h.nodup_iff.2 hn)) (key b hn) fun x=>?_
 unfold H5
 rw [(List.mergeSort_perm a _).mem_iff,(List.mergeSort_perm b _).mem_iff,h.mem_iff]
theorem Zo (nb mb:Nat) (B:List Bx) (es:List (Int×Int)) (hnb:B[nb]?=some (.cells [.mp mb])) (hmb:B[mb]?=some (.mp (mI vI es))) (hes:es.length≤10000) (hnd:(es.map Prod.fst).Nodup) (hrg : ∀p∈es,0≤p.1∧p.1≤1000000) :
  FnS Tryz.prog 130 [.fn (.func 164) [.ptr nb 0]] ⟨B,[]⟩ (A3x (H5 (es.map Prod.fst))) ⟨B,[]⟩:=by
 refine⟨Tryz.call130,fun g w us hI hus hrel=>?_⟩
 rw [Zm hus]
 have h0:=hrel 0 (by simp)
 simp only [List.getD_cons_zero] at h0
 generalize us.getD 0 undef=u0 at h0
 cases h0 with
 | fn _ _ vs hl hr=>
  have hvs:=Zm (by simpa using hl)
  have hr0:=hr 0 (by simp)
  simp only [List.getD_cons_zero] at hr0
  rw [hvs]
  generalize vs.getD 0 undef=p0 at hr0
  cases hr0 with
  | ptr _ _ blk hβ=>
   obtain⟨cv,cty,hh,hsz,hcr⟩:=hI.box nb blk _ hβ hnb
   have hc0:=hcr 0 (by simp)
   simp only [List.getD_cons_zero] at hc0
   have hcs:cv = #[cv.getD 0 undef]:=Zm (by simpa using hsz)
   generalize cv.getD 0 undef=c0 at hc0 hcs
   cases hc0 with
   | mp _ mblk hβm=>
    obtain⟨ms,clock,hm,hms,hmr,hmx,hbs⟩:=hI.box mb mblk _ hβm hmb
    have hlen:ms.size=es.length:=by simpa using hms
    have hcell:w.cell? ⟨blk,0,none⟩=some (.map (some mblk)):=by simp [World.cell?,hh,hcs]
    have hR : ∀v:Value,∃z,(fun _=>some (DataW.lit (.bool true),[]):Value→Option (DataW Unit×List MemPlace)) v=some z:=fun v=>⟨_,rfl⟩
    have hent : ∀j (h:j<ms.size),∃v,ms[j].key=.int .i64 ((es.map Prod.fst).getD j 0)∧0≤(es.map Prod.fst).getD j 0∧(es.map Prod.fst).getD j 0≤1000000∧ms[j].born<clock∧ms[j].val=v:=fun j h=>by
     obtain⟨m,h1,h2,h3,h4⟩:=hmr j (by simp;omega)
     have hje:j<es.length:=by omega
     have e1:ms[j]=m:=by rw [Array.getElem?_eq_getElem h] at h1;exact Option.some.inj h1
     have e2:((mI vI es).getD j (.junk,.junk)).1=vI ((es.map Prod.fst).getD j 0):=by simp [List.getD_eq_getElem?_getD,hje]
     rw [e2] at h2
     have hrj:=hrg es[j] (List.getElem_mem hje)
     have e3:(es.map Prod.fst).getD j 0=es[j].1:=by simp [List.getD_eq_getElem?_getD,hje]
     refine⟨_,?_,by rw [e3];exact hrj.1,by rw [e3];exact hrj.2,by rw [e1];exact h4,rfl⟩
     rw [e1]
     generalize m.key=mk at h2
     cases h2 with
     | t _ _ h2=>cases h2;rfl
    have hkey : ∀j (h:j<ms.toList.length),Go.keyOf Tryz.prog 3 (ms.toList[j]).key=some (.int .i64 ((es.map Prod.fst).getD j 0)):=fun j h=>by
     obtain⟨v,h1,h2,h3,_⟩:=hent j (by simpa using h)
     have e:ms.toList[j]=ms[j]'(by simpa using h):=by simp
     rw [e,h1]
     exact Maps.keyOf_int_mk Tryz.underlying3 (by have:=Go.RowKit.wrap64_wf ((es.map Prod.fst).getD j 0);rwa [show Go.RowKit.wrap64 ((es.map Prod.fst).getD j 0)=(es.map Prod.fst).getD j 0 from by unfold Go.RowKit.wrap64;omega] at this)
    have hkeys:(ms.toList.map (·.key))=(es.map Prod.fst).map fun n=>Value.int .i64 n:=by
     apply List.ext_getElem
     ·simp [hlen]
     ·intro j h1 h2
      obtain⟨v,q1,_⟩:=hent j (by simpa using h1)
      have hje:j<es.length:=by simpa using h2
      simp only [List.getElem_map,Array.getElem_toList,q1]
      simp [List.getD_eq_getElem?_getD,hje]
    have hfit:Go.WideElems.Fit Tryz.prog 3 (fun _=>some (DataW.lit (.bool true),[]):Value→Option (DataW Unit×List MemPlace)) ms clock:=by
     refine⟨hmx,⟨fun x hx=>?_,hbs.imp fun {a b} h=>Nat.ne_of_lt h,?_⟩,fun x hx=>?_⟩
     ·obtain⟨j,hj,rfl⟩:=List.mem_iff_getElem.1 hx
      obtain⟨v,_,_,_,h4,_⟩:=hent j (by simpa using hj)
      simpa using h4
     ·rw [hkeys]
      exact List.pairwise_map.2 (hnd.imp fun h e=>h (by simpa using e))
     ·obtain⟨j,hj,rfl⟩:=List.mem_iff_getElem.1 hx
      exact⟨(.int .i64 ((es.map Prod.fst).getD j 0),DataW.lit (.bool true)),by simp only [Go.WideElems.rd,hkey j hj,Option.bind_some,Option.map_some]⟩
    have hown:w.ownsMap Tryz.prog 3 (fun _=>some (DataW.lit (.bool true),[]):Value→Option (DataW Unit×List MemPlace)) mblk es.length _:=⟨ms,clock,hm,hfit,by omega,rfl⟩
    have hperm:=X3 (fun _=>some (DataW.lit (.bool true),[]):Value→Option (DataW Unit×List MemPlace)) hR 3 ms.toList (es.map Prod.fst) (by simp [hlen]) hkey
    have hseq:=AnyZI.keys_gives (ρ:=Jb) { Zl with } Fence.wide 2 trivial rfl (by omega) blk mblk es.length _ w (hI.bold nb blk hβ) hcell hown
    have cS:=AnyZI.sorted_in Tw Fence.wide 5 trivial trivial trivial trivial rfl (by omega) (Zn _) (enters_of Tryz.func128 (by kernel_rfl) rfl) 164 #[.pointer (some ⟨blk,0,none⟩)] trivial (enters_of Tryz.func164 (by kernel_rfl) rfl) _ _ (by have:=hown.size_le;unfold maxLen;omega) (by have:=hown.size_le;omega) w hseq
    change CallsIn _ _ Tryz.prog 130 _ _ _ at cS
    refine (callsIn_wide.1 cS).mono ?_
    rintro e w' ⟨v,ss,rfl,hS,hrow,hnil,hb⟩
    have hp:ss.Perm (es.map Prod.fst):=hS.trans hperm
    have hso:ss.mergeSort (fun x y=>decide (x≤y))=H5 (es.map Prod.fst):=Ty hp hnd
    have hsl:(H5 (es.map Prod.fst)).length=ss.length:=by rw [←hso];exact (List.mergeSort_perm ss _).length_eq
    rw [hso] at hrow
    rcases hrow.2 with ⟨rfl,hz⟩|⟨gb,cap,cur,rfl,hbase,hgb,r1,r2,r3,r4⟩
    ·have hnl:H5 (es.map Prod.fst)=[]:=List.eq_nil_of_length_eq_zero (by omega)
     refine⟨_,g,rfl,?_,hI.grownK hb.os hb.tape hb.output hb.size hb.block⟩
     rw [hnl]
     exact .t _ _ .slnil
    ·refine⟨_,_,rfl,?_,hI.fresh hb hbase hgb⟩
     generalize H5 (es.map Prod.fst)=zs at *
     have hcz : ∀i,i<zs.length→cur[i]?=some (.int .i64 (zs.getD i 0)):=fun i hi=>by
      have e1:=congrArg (fun l:List Value=>l[i]?) r4
      simp only [List.getElem?_map] at e1
      rw [List.getElem?_take,if_pos (by omega),List.getElem?_eq_getElem hi] at e1
      rw [←Array.getElem?_toList,e1]
      simp [List.getD_eq_getElem?_getD,hi]
     rw [←hsl]
     refine .t _ _ ?_
     have e0:(zs.map fun n=>[T.int .i64 n]).length=zs.length:=by simp
     have hg : ∀i,i<zs.length→(zs.map fun n=>[T.int .i64 n]).getD i []=[T.int .i64 (zs.getD i 0)]:=fun i hi=>by simp [List.getD_eq_getElem?_getD,hi]
     rw [←e0]
     refine .sl _ gb 0 cap 1 (fun i _=>.int .i64 (zs.getD i 0)) (fun i hi=>by rw [hg i (by omega)];rfl) (by omega) r2 (fun i j hi hj=>?_) (fun i j hi hj=>?_)
     ·have hj0:j=0:=by omega
      subst hj0
      simp only [if_true,Nat.zero_add,Nat.mul_one,Nat.add_zero]
      exact hcz i (by omega)
     ·have hj0:j=0:=by omega
      subst hj0
      rw [hg i (by omega)]
      exact .int _ _
end Go.Proofs.YtmlpmdccfmmpoaaGreatDoor
end
namespace Go.Proofs.YtmlpmdccfmmpoaaGreatDoor
open E
theorem G6 {α:Type} (f:α→Int) : ∀{l:List α},(∀(i:Nat) (x y:α),l[i]?=some x→l[i+1]?=some y→f x<f y)→l.Pairwise fun x y=>f x<f y
 | [],_=>List.Pairwise.nil
 | x::l,h=>by
  have ih:=G6 f (l:=l) fun i a b ha hb=>h (i+1) a b (by simpa using ha) (by simpa using hb)
  refine List.pairwise_cons.2 ⟨fun z hz=>?_,ih⟩
  match l,ih,h,hz with
  | y::l,ih,h,hz=>
   have h1:=h 0 x y (by simp) (by simp)
   rcases List.mem_cons.1 hz with rfl|hz
   ·exact h1
   ·exact Int.lt_trans h1 ((List.pairwise_cons.1 ih).1 z hz)
theorem G7 {l:List Src} (h:Ds l=true):l.Pairwise fun a b=>a.ent<b.ent:=by
 apply G6
 intro i x y hx hy
 have h2:=(Bool.and_eq_true _ _▸h:_∧_).2
 have hi:=(List.getElem?_eq_some_iff.1 hy).1
 have h3:=List.all_eq_true.1 h2 (i+1) (by simpa using hi)
 have hx':l.getD i ⟨0,false,0,0,[]⟩=x:=by rw [List.getD_eq_getElem?_getD,hx];rfl
 have hy':l.getD (i+1) ⟨0,false,0,0,[]⟩=y:=by rw [List.getD_eq_getElem?_getD,hy];rfl
 simp only [Nat.add_sub_cancel,hx',hy'] at h3
 simpa using h3
theorem Et {l:List Src} (h:Ds l=true) {s:Src} (hs:s∈l):0≤s.ent∧s.ent<12∧∀x∈s.items,Ah x.amt=true:=by
 have h2:=List.all_eq_true.1 (Bool.and_eq_true _ _▸h:_∧_).1 s hs
 simp only [Bool.and_eq_true,decide_eq_true_eq,List.all_eq_true] at h2
 exact⟨h2.1.1,h2.1.2,h2.2⟩
def Zp (c:List Code) (l:List Src):List ((Code×Nat)×(Src×Int)):=c.zipIdx.flatMap fun x=>(Jz l x.1.pair).map fun z=>(x,z)
theorem Zq (c:List Code) (l:List Src):K0 c l=Ch ((Zp c l).map fun y=>Cx y.1.1 y.2.1 y.2.2 y.1.2):=by
 unfold K0 A5h Zp
 congr 1
 rw [List.flatMap_map,List.map_flatMap]
 congr 1
 funext x
 rw [List.map_map]
 rfl
theorem A2l {c:List Code} {l:List Src} {y:(Code×Nat)×(Src×Int)} (h:y∈Zp c l):c[y.1.2]?=some y.1.1∧y.2.1∈l∧y.2.1.full=true∧(if y.1.1.pair=true then ∃o∈l,o.full=true∧o.ent=y.2.2∧o.ent≠y.2.1.ent else y.2.2 = -1):=by
 unfold Zp at h
 obtain⟨x,hx,hy⟩:=List.mem_flatMap.1 h
 obtain⟨z,hz,rfl⟩:=List.mem_map.1 hy
 unfold Jz at hz
 obtain⟨s,hs,hz⟩:=List.mem_flatMap.1 hz
 obtain⟨o,ho,rfl⟩:=List.mem_map.1 hz
 have hs:=List.mem_filter.1 hs
 refine⟨?_,hs.1,hs.2,?_⟩
 ·have:=List.mk_mem_zipIdx_iff_getElem?.1 (show (x.1,x.2)∈c.zipIdx from hx)
  exact this
 ·unfold L5 at ho
  by_cases hp:x.1.pair=true
  ·rw [if_pos hp] at ho ⊢
   obtain⟨t,ht,rfl⟩:=List.mem_map.1 ho
   have ht:=List.mem_filter.1 ht
   simp only [Bool.and_eq_true,bne_iff_ne,ne_eq] at ht
   exact⟨t,ht.1,ht.2.1,rfl,ht.2.2⟩
  ·rw [if_neg hp] at ho ⊢
   simpa using ho
theorem A2m {c:List Code} {l:List Src} {q:List Posting} (h:K0 c l=some q) {p:Posting} (hp:p∈q) :
  ∃y∈Zp c l,Cx y.1.1 y.2.1 y.2.2 y.1.2=some p∧p.kind=10∧p.rule=y.1.2∧p.ent=y.2.1.ent∧p.oth=y.2.2∧PartsOk p.parts∧p.parts≠[]:=by
 rw [Zq] at h
 obtain⟨h1,h2⟩:=H3 h hp
 obtain⟨y,hy,he⟩:=List.mem_map.1 h1
 have he':=he
 unfold Cx at he
 cases hx:Ar y.2.1 y.2.2 y.1.1.ins [] [] [] with
 | none=>rw [hx] at he;cases he
 | some ps=>
  rw [hx] at he
  simp only [Option.map_some,Option.some.injEq] at he
  by_cases hps:ps=[]
  ·unfold Dc at he;rw [if_pos hps] at he;subst he;exact absurd rfl h2
  ·unfold Dc at he
   rw [if_neg hps] at he
   subst he
   exact⟨y,hy,he',rfl,rfl,rfl,rfl,H2 hx,h2⟩
def B9:Posting:=⟨0,0,0,0,[]⟩
def G8 (c:List Code) (l:List Src):List Posting×Int:=
 if Ds l=true∧(c.all fun x=>(C4 x).2)=true then match K0 c l with
  | some q=>(q,0)
  | none=>([],2)
 else ([],1)
def findS (l:List Src) (k:Int):Option Src:=l.find? fun s=>s.ent==k&&s.full
theorem X4 (c:List Code) (l:List Src):K0 c l=Ch ((List.range c.length).flatMap fun i=>(Jz l (c.getD i ⟨[],false,[]⟩).pair).map fun z=>Cx (c.getD i ⟨[],false,[]⟩) z.1 z.2 i):=by
 unfold K0 A5h
 congr 1
 rw [List.flatMap_map]
 have e:c.zipIdx=(List.range c.length).map fun i=>(c.getD i ⟨[],false,[]⟩,i):=by
  apply List.ext_getElem?
  intro i
  rw [List.getElem?_zipIdx,List.getElem?_map]
  rcases Nat.lt_or_ge i c.length with h|h
  ·simp [h]
  ·simp [h]
 rw [e,List.flatMap_map]
theorem X5 {l:List Src} : Ds l=true↔(∀s∈l,0≤s.ent∧s.ent<12∧∀x∈s.items,Ah x.amt=true)∧l.Pairwise fun a b=>a.ent<b.ent:=by
 constructor
 ·exact fun h=>⟨fun s hs=>Et h hs,G7 h⟩
 ·rintro ⟨h1,h2⟩
  unfold Ds
  rw [Bool.and_eq_true]
  refine⟨List.all_eq_true.2 fun s hs=>by simpa [and_assoc] using h1 s hs,List.all_eq_true.2 fun i hi=>?_⟩
  have hi:=List.mem_range.1 hi
  match i,hi with
  | 0,_=>rfl
  | i+1,hi=>
   have:=List.pairwise_iff_getElem.1 h2 i (i+1) (by omega) hi (by omega)
   simp only [Nat.add_sub_cancel,List.getD_eq_getElem?_getD,List.getElem?_eq_getElem hi,List.getElem?_eq_getElem (show i<l.length by omega),Option.getD_some]
   simp [this]
def pV (p:Posting):V:=.agg [vI p.kind,vI p.ent,vI p.oth,vI p.rule,.t (.sl (p.parts.map Part.c))]
def peV (r:Posting×Int):V:=.tup [pV r.1,vI r.2]
def Cm (s:Src) (oth rule:Int) (r:Option (List Part)):Posting×Int:=match r with
 | none=>(B9,2)
 | some q=>(Dc s oth rule q,0)
theorem Je {k:Int} : ∀{ps:List Part},(∀p∈ps,Ah p.amt=true)→-(1000000000000*(ps.length:Int))≤Am ps k∧Am ps k≤1000000000000*(ps.length:Int)
 | [],_=>by simp [Am]
 | p::ps,h=>by
  have ih:=Je (k:=k) (ps:=ps) fun q hq=>h q (by simp [hq])
  have h1:=G4 (h p (by simp))
  rw [M8,List.length_cons]
  push_cast
  split<;>omega
theorem Me : ∀{ps:List Part},(∀p∈ps,Ah p.amt=true)→-(1000000000000*(ps.length:Int))≤(ps.map Part.amt).sum∧(ps.map Part.amt).sum≤1000000000000*(ps.length:Int)
 | [],_=>by simp
 | p::ps,h=>by
  have ih:=Me (ps:=ps) fun q hq=>h q (by simp [hq])
  have h1:=G4 (h p (by simp))
  rw [List.map_cons,List.sum_cons,List.length_cons]
  push_cast
  omega
def pre (ps:List Part) (ks:List Int):List Part:=(ks.filter fun k=>Am ps k != 0).map fun k=>⟨k,Am ps k⟩
theorem Zr (ps:List Part) (ks:List Int) (k:Int):pre ps (ks++[k])=pre ps ks++(if Am ps k=0 then [] else [⟨k,Am ps k⟩]):=by
 unfold pre
 rw [List.filter_append,List.map_append]
 congr 1
 by_cases h:Am ps k=0
 ·rw [if_pos h,List.filter_cons_of_neg (by simp [h])];rfl
 ·rw [if_neg h,List.filter_cons_of_pos (by simp [h])];rfl
theorem A2n (ps:List Part) (ks:List Int):(pre ps ks).length≤ks.length:=by
 unfold pre;rw [List.length_map];exact List.length_filter_le _ _
theorem Tz (ps:List Part) (h : ∀k∈Ao ps,Ah (Am ps k)=true):Cw ps=some (pre ps (Ao ps)):=by
 unfold Cw pre;rw [if_pos (List.all_eq_true.2 h)]
theorem U0 (ps:List Part) {k:Int} (hk:k∈Ao ps) (h:Ah (Am ps k)=false):Cw ps=none:=by
 unfold Cw;rw [if_neg (fun e=>by rw [List.all_eq_true.1 e k hk] at h;cases h)]
theorem G9 : ∀(ps:List Part),(Ao ps).length≤ps.length
 | []=>by simp [Ao]
 | p::ps=>by
  have ih:=G9 ps
  have e : ∀(k:Int) (l:List Int),(Jy k l).length≤l.length+1:=fun k l=>by
   induction l with
   | nil=>simp [Jy]
   | cons y l ih=>unfold Jy;split<;>(try split)<;>simp<;>omega
  have h2:=e p.acc (Ao ps)
  have e2:Ao (p::ps)=Jy p.acc (Ao ps):=rfl
  rw [e2,List.length_cons];omega
def X6 (n:Nat) (lv:V):Prop:=lv=.snil∨∃i k,lv=.bw i k∧i<n
theorem X6.ok {n n' m:Nat} {lv:V} (h:X6 n lv) (hn:n≤n'):okN n' m lv=true:=by
 rcases h with rfl|⟨i,k,rfl,hi⟩
 ·rfl
 ·simp [okN];omega
theorem R9 (b mb:Nat) (acc rule:Int) (B:List Bx) (hU:OkU B) (s:Src) (oth:Int) (lv:V) (ps:List Part) (hb:B[b]?=some (.cells (mC s oth lv mb (ps.map Part.amt).sum))) (hmb:B[mb]?=some (.mp (mI vI (C5 ps))))
  (hl:ps.length≤8000) (ham : ∀p∈ps,Ah p.amt=true) (hac : ∀p∈ps,0≤p.acc∧p.acc≤1000000) (hacc:0≤acc∧acc≤1000000) (hlv:X6 B.length lv) :
  FnS Tryz.prog 87 [.ptr b 0,vI acc,vI rule] ⟨B,[]⟩ (peV (Cm s oth rule (Cw (ps++[⟨acc,-(ps.map Part.amt).sum⟩])))) ⟨(B.set mb .dead).set b .dead,[]⟩:=by
 have hne:b≠mb:=fun e=>by rw [e,hmb] at hb;cases hb
 have hbl:=A6 hb
 have hml:=A6 hmb
 obtain⟨sum,hsum⟩ : ∃z,z=(ps.map Part.amt).sum:=⟨_,rfl⟩
 have hsb:=Me ham
 rw [←hsum] at hsb hb ⊢
 obtain⟨qs,hqs⟩ : ∃q,q=ps++[⟨acc,-sum⟩]:=⟨_,rfl⟩
 have hpm:C5 qs=D3 (C5 ps) acc ((Bf (C5 ps) acc).getD 0 + -sum):=by rw [hqs,Hi]
 have hps:=Jc ps acc
 have hsa:=Je (k:=acc) ham
 have hpl:=Jd ps
 have hq0:sum + -sum=0:=by omega
 rw [←hqs]
 have hkeys:=Ns qs
 have hso:=R8 qs (List.Perm.refl _)
 have hso':H5 ((C5 qs).map Prod.fst)=Ao qs:=hso
 have hql:=Jd qs
 have hqlen:qs.length≤8001:=by rw [hqs];simp;omega
 have hkl:=G9 qs
 have hrange : ∀p∈C5 qs,0≤p.1∧p.1≤1000000:=fun p hp=>by
  obtain⟨r,h1,h2⟩:=(hkeys.2 p.1).1 (List.mem_map.2 ⟨p,hp,rfl⟩)
  rw [←h2]
  rw [hqs] at h1
  rcases List.mem_append.1 h1 with h1|h1
  ·exact hac r h1
  ·simp at h1;subst h1;exact hacc
 have w1:IntKind.i64.wrap (-sum) = -sum:=wrap64 (by omega) (by omega)
 have h1:IntKind.i64.wrap ((Bf (C5 ps) acc).getD 0 + -sum)=(Bf (C5 ps) acc).getD 0 + -sum:=by rw [hps];exact wrap64 (by omega) (by omega)
 have h2:IntKind.i64.wrap (sum + -sum)=sum + -sum:=by rw [hq0];decide
 have hB1 : ∀l:List Bx,(∀n m,B.length+l.length≤n→Ab n m l l)→OkS ⟨B++l,[]⟩:=fun l hl=>(hU.more l hl).S
 have hpost:=fun (l:List Bx) (hl : ∀n m,B.length+l.length≤n→Ab n m l l)=>Tv b mb acc (-sum) ⟨B++l,[]⟩ (hB1 l hl) s oth lv sum (C5 ps) (Aj hb l) (Aj hmb l) (by omega) (hlv.ok (by simp)) h1 h2
 have hpost1:=hpost [.cells [vI 0,vI 0,vI 0,vI 0,.snil]] (fun n m h=>by simp [Ab,E.leB,A5,okNs,okN])
 rw [←hpm,hq0] at hpost1
 (refine FnS.of_code mix Tryz.call87 k_87 (by simp) (fun hB=>?_);(try simp at hB);(try simp -implicitDefEqProofs))
 have hbE : ∀l:List Bx,(B++l)[b]?=some (.cells (mC s oth lv mb sum)):=fun l=>Aj hb l
 unfold mC at hbE
 (try simp -implicitDefEqProofs [hbE,w1])
 refine Ac hpost1 ?_
 obtain⟨M,hM⟩ : ∃M,M=(B.set mb (.mp (mI vI (C5 qs)))).set b (.cells (mC s oth lv mb 0)):=⟨_,rfl⟩
 have hset : ∀l:List Bx,((B++l).set mb (.mp (mI vI (C5 qs)))).set b (.cells (mC s oth lv mb 0))=M++l:=fun l=>by
  rw [List.set_append_left _ _ hml,List.set_append_left _ _ (by simpa using hbl),hM]
 rw [hset]
 have hBL:B.length=M.length:=by rw [hM];simp
 have hMb:M[b]?=some (.cells (mC s oth lv mb 0)):=by rw [hM,List.getElem?_set_self (by simpa using hbl)]
 have hMm:M[mb]?=some (.mp (mI vI (C5 qs))):=by rw [hM,List.getElem?_set_ne hne,List.getElem?_set_self hml]
 have hMU:OkU M:=fun n m hn=>by
  rw [hM]
  exact Ab.set (show E.leB n m (.cells _) (.cells _) from ⟨A5 _,by unfold mC;have:=hlv.ok (n':=n) (m:=m) (by omega);simp [okNs,okN,this];omega⟩) b (Ab.set (G5 _) mb (hU n m (by omega)))
 have hfinal : ∀(l:List Bx) n m,B.length≤n→Ab n m (M++l) ((B.set mb .dead).set b .dead):=fun l n m hn=>by
  rw [hM]
  exact Ab.ext l (Ab.set (show E.leB n m (.cells _) .dead from trivial) b (Ab.set (show E.leB n m (.mp _) .dead from trivial) mb (hU n m hn)))
 have hMbE : ∀l:List Bx,(M++l)[b]?=some (.cells (mC s oth lv mb 0)):=fun l=>Aj hMb l
 have hMmE : ∀l:List Bx,(M++l)[mb]?=some (.mp (mI vI (C5 qs))):=fun l=>Aj hMm l
 have gz : ∀l:List Bx,(M++l)[M.length]?=l[0]?:=fun l=>by rw [List.getElem?_append_right (by omega)];congr 1;omega
 have g1 : ∀(l:List Bx) (j:Nat),(M++l)[M.length+j]?=l[j]?:=fun l j=>by rw [List.getElem?_append_right (by omega)];congr 1;omega
 have s0 : ∀(l:List Bx) (v:Bx),(M++l).set M.length v=M++l.set 0 v:=fun l v=>by rw [List.set_append_right _ _ (by omega)];simp
 have s1 : ∀(l:List Bx) (j:Nat) (v:Bx),(M++l).set (M.length+j) v=M++l.set j v:=fun l j v=>by rw [List.set_append_right _ _ (by omega)];congr 2;omega
 have hMml:mb<M.length:=by omega
 unfold mC at hMbE
 rw [hBL]
 clear hset hpost1 hpost hB1 hU hb hmb hM
 (try simp -implicitDefEqProofs [hMbE,hMmE,gz,g1,s0,s1])
 have hMU1:OkU (M++[.cells [vI 0,vI 0,vI 0,vI 0,.snil],.cells [vI 10,vI s.ent,vI oth,vI rule,.snil]]):=hMU.more _ (fun n m h=>by simp [Ab,E.leB,A5,okNs,okN])
 have hk:=A5i mb _ hMU1 (by simp;omega)
 have hS:=Zo (M.length+2) mb (M++[.cells [vI 0,vI 0,vI 0,vI 0,.snil],.cells [vI 10,vI s.ent,vI oth,vI rule,.snil]]++[.cells [.mp mb]]) (C5 qs) (by rw [List.append_assoc,g1];rfl) (by rw [List.append_assoc];exact hMmE _) (by omega) hkeys.1 hrange
 rw [hso'] at hS
 have hlen2:(M++[.cells [vI 0,vI 0,vI 0,vI 0,.snil],.cells [vI 10,vI s.ent,vI oth,vI rule,.snil]]:List Bx).length=M.length+2:=by simp
 rw [hlen2] at hk
 refine Ac hk ?_
 (try simp -implicitDefEqProofs)
 simp only [List.append_assoc,List.cons_append,List.nil_append] at hS
 refine Ac hS ?_
 have hkl':(Ao qs).length≤8001:=by omega
 unfold A3x
 (try simp -implicitDefEqProofs)
 obtain⟨KS,hKS⟩ : ∃K,K=Ao qs:=⟨_,rfl⟩
 have hres : ∀k,k≤KS.length→True:=fun _ _=>trivial
 refine Av [(.cell (M.length+1) 4,77,2)] (X:=Nat) (fun k=>k≤KS.length∧∀x∈KS.take k,Ah (Am qs x)=true)
  (fun k=>[(0,.ptr b 0),(6,.ptr M.length 0),(8,.ptr (M.length+1) 0),(36,.t (.sl (KS.map fun n=>[T.int .i64 n]))),(37,vI KS.length),(38,vI k)])
  (fun k=>⟨M++[.cells [vI 0,vI 0,vI 0,vI 0,.snil],.cells [vI 10,vI s.ent,vI oth,vI rule,.own 0 77 2 ((pre qs (KS.take k)).map Part.c)]],[(pre qs (KS.take k)).length]⟩) (fun k=>KS.length-k) 0 ⟨by omega,by simp⟩ ?hs ?_
 case hs=>
  have hle:=fun (l l':List Bx) n m h=>Ab.appU (l:=l) (l':=l') (hMU n m h)
  have e0:pre qs []=[]:=rfl
  rw [hKS]
  simp [g1,s1,e0,hle,E.leB,A5,okNs,okN]
  omega
 have hzero : ∀(e:Int),True:=fun _=>trivial
 rintro k ⟨hk1,hk2⟩ hbd
 clear hbd
 have hpl2:=A2n qs (KS.take k)
 rw [List.length_take] at hpl2
 have hmin:min k KS.length=k:=by omega
 have hklen:KS.length≤8001:=by rw [hKS];exact hkl'
 have e3:IntKind.i64.wrap ((k:Int)+1)=(k:Int)+1:=wrap64 (by omega) (by omega)
 have hle:=fun (l l':List Bx) n m h=>Ab.appU (l:=l) (l':=l') (hMU n m h)
 rcases Nat.lt_or_ge k KS.length with h|h
 ·obtain⟨x,hx⟩:=Ad h
  have hxm:x∈Ao qs:=by rw [←hKS];exact List.mem_of_getElem? hx
  have hfm:=Oi vI x (C5 qs)
  have hps2:=Jc qs x
  have ha:=Tu (Am qs x)
  have hsn:=Zr qs (KS.take k) x
  have htn:=Ae hx
  have g3:(KS.map fun n=>[T.int .i64 n])[k]?=some [T.int .i64 x]:=by simp [hx]
  have g4 : ∀hi,(KS.map fun n=>[T.int .i64 n])[k]'hi=[T.int .i64 x]:=fun hi=>by rw [List.getElem?_eq_getElem hi] at g3;exact Option.some.inj g3
  generalize hv:Am qs x=v at *
  cases hb2:Ah v
  ·rw [hb2] at ha
   have hbad:=U0 qs hxm (by rw [hv];exact hb2)
   rw [hbad]
   ((try simp at ha);(try simp -implicitDefEqProofs [h,g3,g4,hMbE,hMmE,g1,gz,s0,s1,hfm,hps2,Cm,peV,pV,B9]);repeat' first|(with_reducible apply A0<;>first|(simp only [eras,era,A1];first|with_reducible assumption)|(simp -implicitDefEqProofs [h,g3,g4,hMbE,hMmE,g1,gz,s0,s1,hfm,hps2,Cm,peV,pV,B9])))
   exact⟨by omega,hfinal _ _ _ (Nat.le_refl _)⟩
  ·rw [hb2] at ha
   have hk2' : ∀y∈KS.take (k+1),Ah (Am qs y)=true:=fun y hy=>by
    rw [htn] at hy
    rcases List.mem_append.1 hy with hy|hy
    ·exact hk2 y hy
    ·simp at hy;subst hy;rw [hv];exact hb2
   rw [←htn] at hsn
   by_cases v0:v=0
   ·rw [if_pos v0,List.append_nil] at hsn
    subst v0
    ((try simp at ha);(try simp -implicitDefEqProofs [h,g3,g4,hMbE,hMmE,g1,gz,s0,s1,hfm,hps2,e3]);repeat' first|(with_reducible apply A0<;>first|(simp only [eras,era,A1];first|with_reducible assumption)|(simp -implicitDefEqProofs [h,g3,g4,hMbE,hMmE,g1,gz,s0,s1,hfm,hps2,e3])))
    refine⟨k+1,⟨by omega,hk2'⟩,by omega,?_⟩
    rw [hsn]
    simp [hle,E.leB,A5,okNs,okN]
    omega
   ·rw [if_neg v0] at hsn
    have v1:(v != 0)=true:=by simpa using v0
    ((try simp at ha);(try simp -implicitDefEqProofs [h,g3,g4,hMbE,hMmE,g1,gz,s0,s1,hfm,hps2,e3,v0,v1,maxLen]);repeat' first|(with_reducible apply A0<;>first|(simp only [eras,era,A1];first|with_reducible assumption)|(simp -implicitDefEqProofs [h,g3,g4,hMbE,hMmE,g1,gz,s0,s1,hfm,hps2,e3,v0,v1,maxLen])))
    refine⟨⟨by omega,by omega⟩,k+1,⟨by omega,hk2'⟩,by omega,?_⟩
    rw [hsn]
    simp [hle,E.leB,A5,okNs,okN,Part.c]
    omega
 ·have hkk:k=KS.length:=by omega
  subst hkk
  rw [List.take_of_length_le (Nat.le_refl _)] at hk2 ⊢
  have hgood:=Tz qs (by rw [←hKS];exact hk2)
  rw [←hKS] at hgood
  rw [hgood]
  generalize pre qs KS=q at *
  by_cases q0:q=[]
  ·subst q0
   (try simp -implicitDefEqProofs [h,hMbE,hMmE,g1,gz,s0,s1,Cm,peV,pV,B9,Dc])
   exact⟨by omega,hfinal _ _ _ (Nat.le_refl _)⟩
  ·have q1:((q.length:Int)==0)=false:=by simp [q0]
   (try simp -implicitDefEqProofs [h,hMbE,hMmE,g1,gz,s0,s1,Cm,peV,pV,Dc,q0,q1])
   exact⟨by omega,hfinal _ _ _ (Nat.le_refl _)⟩
theorem w_pop (sb kb n:Nat) (B:List Bx) (hU : ∀m,Ab B.length m B B) (cs:List V) (v:Int) (h1:B[sb]?=some (.cells [.bw kb (n+1)])) (h2:B[kb]?=some (.buf 3 1 cs)) (h3:cs[n]?=some (vI v)) (hn:n+1≤1000000) :
  FnS Tryz.prog 108 [.ptr sb 0] ⟨B,[]⟩ (vI v) ⟨B.set sb (.cells [.bw kb n]),[]⟩:=by
 have hkb:=A6 h2
 have hcn:=A6 h3
 have e1:IntKind.i64.wrap (n:Int)=(n:Int):=E6 (by omega)
 have j3:n+1≤cs.length:=by omega
 have j1:(n:Int)<(n:Int)+1:=by omega
 have j2:(n:Int)≤(n:Int)+1:=by omega
 have h3' : ∀h,cs[n]'h=vI v:=fun h=>by rw [List.getElem?_eq_getElem h] at h3;exact Option.some.inj h3
 have hfin:Ab B.length 0 (B.set sb (.cells [.bw kb n])) (B.set sb (.cells [.bw kb n])):=Ab.set (show E.leB B.length 0 (.cells _) (.cells _) from ⟨A5 _,by simp [okNs,okN];exact hkb⟩) sb (hU 0)
 (refine FnS.of_code mix Tryz.call108 k_108 (by simp) (fun hB=>?_);(try simp at hB);(try simp -implicitDefEqProofs))
 ((try simp -implicitDefEqProofs [h1,h2,h3,h3',e1,j1,j2,j3,hcn,hfin]);repeat' first|((with_reducible first|apply A7|apply A8|apply A3)<;>(intro hc;have hc':=hc;(try simp at hc');simp -implicitDefEqProofs [hc,hc',h1,h2,h3,h3',e1,j1,j2,j3,hcn,hfin])))
end Go.Proofs.YtmlpmdccfmmpoaaGreatDoor
section
set_option linter.unusedVariables false
namespace Go.Proofs.YtmlpmdccfmmpoaaGreatDoor
namespace E
theorem FnS.of_codeV {P:Program} (hmix:P.follows .mixedOrders=true) {f N:Nat} {c:EC} {rs:List RV} {vs:List V} {S S':St} {r:V} (hE:Bl P f) (hc:ecG true true P f=some (N,c,rs)) (hlen:vs.length≤N)
  (h:bdVs vs→ewp P S.boxes.length S.toks.length c (Iw rs S.boxes.length S.toks.length r S') (fr0 vs) S):FnS P f vs S r S':=FnS.of_bd hE fun hb=>FnS.of_codeG hmix hE hc hlen (h hb)
end E
end Go.Proofs.YtmlpmdccfmmpoaaGreatDoor
end
