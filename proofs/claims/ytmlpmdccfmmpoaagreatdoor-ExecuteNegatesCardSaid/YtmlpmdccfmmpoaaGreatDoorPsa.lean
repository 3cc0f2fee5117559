/- check.Posts of one rule; slices.Sort and slices.Compact of ints. -/
import Derived.Test.YtmlpmdccfmmpoaaGreatDoorRcp
import Derived.Test.YtmlpmdccfmmpoaaGreatDoorSkl
import Derived.Test.YtmlpmdccfmmpoaaGreatDoorExp
import Derived.Test.YtmlpmdccfmmpoaaGreatDoorMaps
set_option linter.unusedSimpArgs false
set_option linter.unusedVariables false
set_option maxHeartbeats 4000000
set_option maxRecDepth 100000
namespace Go.Proofs.YtmlpmdccfmmpoaaGreatDoor
open E Go.RowKit

abbrev A0y (l:List Int):V:=.t (.sl (l.map fun n=>[.int .i64 n]))
def OkB (B:List Bx):Prop:=∀n m,B.length≤n→A6 n m B B
theorem OkB.more {B:List Bx} (h:OkB B) (l:List Bx) (hl : ∀n m,B.length+l.length≤n→A6 n m l l):OkB (B++l):=fun n m hn=>by
 rw [List.length_append] at hn
 exact (A6.app' (h n m (by omega))).2 (hl n m hn)

def Jg (l:List Int):Bx:=.buf 3 1 (l.map vI)
theorem Hk : ∀(l:List Int),Bu (l.map vI)=some (l.map fun n=>T.int .i64 n)
 | []=>rfl
 | n::l=>by simp [Bu,toT,Hk l]
theorem Ib (l:List Int):F0 1 l.length (l.map fun n=>T.int .i64 n)=some (l.map fun n=>[T.int .i64 n]):=by
 unfold F0
 rw [if_pos (by simp)]
 congr 1
 apply List.ext_getElem?
 intro i
 simp only [List.getElem?_map,List.getElem?_range]
 rcases Nat.lt_or_ge i l.length with h|h
 ·simp [h,List.take_one,List.head?_drop]
 ·simp [h]
theorem A7r (A:List Bx) (zs:List Int) (hl:zs.length≤1000000) (hA:OkB A) :
  FnS Tryz.prog 129 [.bw A.length zs.length] ⟨A++[Jg zs],[]⟩ (A0y (ddL zs)) ⟨A++[.dead],[]⟩:=by
 have gz : ∀(l:List Bx),(A++l)[A.length]?=l[0]?:=fun l=>Pc A l
 have s0 : ∀(l:List Bx) (v:Bx),(A++l).set A.length v=A++l.set 0 v:=fun l v=>by rw [List.set_append_right _ _ (by omega)];simp
 have hle:=fun l l' n m h=>A6.app' (l:=l) (l':=l') (hA n m h)
 have hdr:=fun l n m h=>A6.drop' (n:=n) (m:=m) l (hA n m h)
 obtain⟨c,hc⟩ : ∃c,c=zs.map vI:=⟨_,rfl⟩
 have hcl:c.length=zs.length:=by rw [hc];simp
 have hct:c.take zs.length=c:=List.take_of_length_le (by omega)
 have hrow:(Bu (c.take zs.length)).bind (F0 1 zs.length)=some (zs.map fun n=>[T.int .i64 n]):=by rw [hct,hc,Hk,Option.bind_some,Ib]
 have hok : ∀a b,okNs a b c=true:=fun a b=>by rw [hc];exact Au (fun v hv=>by obtain⟨t,_,rfl⟩:=List.mem_map.1 hv;rfl)
 have hgt : ∀(i:Nat) (x:Int),zs[i]?=some x→c[i]?=some (vI x)∧∀h,c[i]'h=vI x:=fun i x hx=>by
  have h1:c[i]?=some (vI x):=by rw [hc];simp [hx]
  exact⟨h1,fun h=>by rw [List.getElem?_eq_getElem h] at h1;exact Option.some.inj h1⟩
 have hbuf:Jg zs=.buf 3 1 c:=by rw [hc];rfl
 rw [hbuf]
 by_cases h2:zs.length<2
 ·have hdd:ddL zs=zs:=by
   match zs,h2 with
   | [],_=>rfl
   | [x],_=>rfl
  rw [hdd]
  have h2':decide ((zs.length:Int)<2)=true:=by simp;omega
  have h2'':(zs.length:Int)<2:=by omega
  (refine FnS.of_code mix Tryz.call129 k_129 (by simp) (fun hB=>?_);(try simp at hB);(try simp -implicitDefEqProofs))
  ((try simp -implicitDefEqProofs [gz,s0,hle,hdr,h2',h2'',Bs,hrow]);repeat' first|((with_reducible first|apply Ac|apply Ad|apply A5)<;>(intro hc;have hc':=hc;(try simp at hc');simp -implicitDefEqProofs [hc,hc',gz,s0,hle,hdr,h2',h2'',Bs,hrow])))
 have h2':decide ((zs.length:Int)<2)=false:=by simp;omega
 have h2'' : ¬(zs.length:Int)<2:=by omega
 (refine FnS.of_code mix Tryz.call129 k_129 (by simp) (fun hB=>?_);(try simp at hB);(try simp -implicitDefEqProofs))
 ((try simp -implicitDefEqProofs [gz,s0,hle,hdr,h2',h2'']);repeat' first|((with_reducible first|apply Ac|apply Ad|apply A5)<;>(intro hc;have hc':=hc;(try simp at hc');simp -implicitDefEqProofs [hc,hc',gz,s0,hle,hdr,h2',h2''])))
 refine A7 (X:=Nat) (fun j=>j+1≤zs.length∧ddL (zs.take (j+1))=zs.take (j+1))
  (fun j=>[(0,.bw A.length zs.length),(3,vI ((j:Int)+1))]) (fun _=>⟨A++[.buf 3 1 c],[]⟩) (fun j=>zs.length-j) 0 ⟨by omega,?h0⟩ ?hs ?_
 case h0=>
  match zs with
  | []=>rfl
  | x::l=>rfl
 case hs=>simp [hle,E.leB,A3,hok]
 rintro j ⟨hj,hd⟩ hbd
 clear hbd
 have i0:((j:Int)+1).toNat=j+1:=by omega
 have e2:IntKind.i64.wrap (j:Int)=(j:Int):=wrap64 (by omega) (by omega)
 rcases Nat.lt_or_ge (j+1) zs.length with h|h
 ·obtain⟨x,hx⟩:=Aa h
  obtain⟨y,hy⟩:=Aa (show j<zs.length by omega)
  have hnx:=Sd hx hy
  obtain⟨c1,c1'⟩:=hgt _ _ hx
  obtain⟨c2,c2'⟩:=hgt _ _ hy
  have e3:IntKind.i64.wrap ((j:Int)+1+1)=(j:Int)+1+1:=wrap64 (by omega) (by omega)
  have hi:(j:Int)+1<zs.length:=by omega
  have hi2:(j:Int)<zs.length:=by omega
  have hj0:(0:Int)≤(j:Int)+1:=by omega
  by_cases hq:x=y
  ·subst hq
   rw [if_pos rfl,List.append_nil,hd] at hnx
   ((try simp -implicitDefEqProofs [gz,s0,hle,hdr,hcl,i0,e2,h,hi,hi2,hj0,c1,c2,c1',c2']);repeat' first|((with_reducible first|apply Ac|apply Ad|apply A5)<;>(intro hc;have hc':=hc;(try simp at hc');simp -implicitDefEqProofs [hc,hc',gz,s0,hle,hdr,hcl,i0,e2,h,hi,hi2,hj0,c1,c2,c1',c2'])))
   refine⟨by omega,by omega,by omega,?_⟩
   have hstart:(zs.take (j+1)).map vI++c.drop (zs.take (j+1)).length=c:=by
    have hl1:(zs.take (j+1)).length=j+1:=by simp;omega
    rw [hl1,hc,←List.map_drop,←List.map_append,List.take_append_drop]
   have hsub:((zs.length:Int)-((j:Int)+1)).toNat=zs.length-(j+1):=by omega
   have hl1:(zs.take (j+1)).length=j+1:=by simp;omega
   refine A7 (X:=Nat) (fun i=>j+2+i≤zs.length∧(ddL (zs.take (j+2+i))).length≤j+1+i)
    (fun i=>[(0,.bw A.length zs.length),(3,vI (ddL (zs.take (j+2+i))).length),(4,.vw A.length (j+1) (zs.length-(j+1))),(5,vI ((i:Int)+1))])
    (fun i=>⟨A++[.buf 3 1 ((ddL (zs.take (j+2+i))).map vI++c.drop (ddL (zs.take (j+2+i))).length)],[]⟩) (fun i=>zs.length-i) 0 ⟨by omega,?h1⟩ ?hs2 ?_
   case h1=>rw [hnx,hl1];omega
   case hs2=>
    rw [Nat.add_zero,hnx,hstart,hl1]
    simp [hle,E.leB,A3,hok,hsub]
   rintro i ⟨hi1,hi3⟩ hbd
   clear hbd
   have hD1:(ddL (zs.take (j+2+i))).length≤zs.length:=by omega
   have hnext : ∀u v:Int,zs[j+1+i+1]?=some u→zs[j+1+i]?=some v→ddL (zs.take (j+2+(i+1)))=ddL (zs.take (j+2+i))++(if u=v then [] else [u]):=by
    intro u v hu hv
    have:=Sd hu hv
    rw [show j+1+i+2=j+2+(i+1) by omega,show j+1+i+1=j+2+i by omega] at this
    exact this
   generalize hD:ddL (zs.take (j+2+i))=D at *
   have hDc:(D.map vI).length=D.length:=by simp
   have hcsl:(D.map vI++c.drop D.length).length=zs.length:=by simp;omega
   have hcsg : ∀q,D.length≤q→(D.map vI++c.drop D.length)[q]?=c[q]?:=fun q hq=>by
    rw [List.getElem?_append_right (by omega),List.getElem?_drop];congr 1;omega
   have hcst:(D.map vI++c.drop D.length).take D.length=D.map vI:=by
    rw [List.take_append_of_le_length (by omega),List.take_of_length_le (by omega)]
   have hcsd:(D.map vI++c.drop D.length).drop (D.length+1)=c.drop (D.length+1):=by
    rw [List.drop_append,List.drop_of_length_le (by omega),List.nil_append,List.drop_drop];congr 1;omega
   have hcso : ∀a b,okNs a b (D.map vI++c.drop D.length)=true:=fun a b=>Au (fun v hv=>by
    rcases List.mem_append.1 hv with hv|hv
    ·obtain⟨t,_,rfl⟩:=List.mem_map.1 hv;rfl
    ·have:=List.mem_of_mem_drop hv
     rw [hc] at this
     obtain⟨t,_,rfl⟩:=List.mem_map.1 this;rfl)
   obtain⟨cs,hcs⟩ : ∃cs,cs=D.map vI++c.drop D.length:=⟨_,rfl⟩
   rw [←hcs] at hcsl hcsg hcst hcsd hcso ⊢
   have f1:IntKind.i64.wrap ((i:Int)+1+1)=(i:Int)+1+1:=wrap64 (by omega) (by omega)
   have f2:IntKind.i64.wrap (i:Int)=(i:Int):=wrap64 (by omega) (by omega)
   have f3:IntKind.i64.wrap ((D.length:Int)+1)=(D.length:Int)+1:=wrap64 (by omega) (by omega)
   have f4:((i:Int)+1).toNat=i+1:=by omega
   rcases Nat.lt_or_ge (j+2+i) zs.length with g|g
   ·obtain⟨u,hu⟩:=Aa (show j+1+i+1<zs.length by omega)
    obtain⟨v,hv⟩:=Aa (show j+1+i<zs.length by omega)
    have hn2:=hnext u v hu hv
    have d1:cs[j+1+(i+1)]?=some (vI u):=by rw [hcsg _ (by omega)];exact (hgt _ _ hu).1
    have d2:cs[j+1+i]?=some (vI v):=by rw [hcsg _ (by omega)];exact (hgt _ _ hv).1
    have d1' : ∀h,cs[j+1+(i+1)]'h=vI u:=fun h=>by rw [List.getElem?_eq_getElem h] at d1;exact Option.some.inj d1
    have d2' : ∀h,cs[j+1+i]'h=vI v:=fun h=>by rw [List.getElem?_eq_getElem h] at d2;exact Option.some.inj d2
    have g1:(i:Int)+1<((zs.length-(j+1):Nat):Int):=by omega
    have g2:(i:Int)<((zs.length-(j+1):Nat):Int):=by omega
    have g3:j+1+(i+1)<zs.length:=by omega
    have g4:j+1+i<zs.length:=by omega
    have g5:(D.length:Int)<zs.length:=by omega
    by_cases huv:u=v
    ·subst huv
     rw [if_pos rfl,List.append_nil] at hn2
     ((try simp -implicitDefEqProofs [gz,s0,hle,hdr,hcsl,f1,f2,f4,g1,g2,g3,g4,d1,d2,d1',d2']);repeat' first|((with_reducible first|apply Ac|apply Ad|apply A5)<;>(intro hc;have hc':=hc;(try simp at hc');simp -implicitDefEqProofs [hc,hc',gz,s0,hle,hdr,hcsl,f1,f2,f4,g1,g2,g3,g4,d1,d2,d1',d2'])))
     exact⟨by omega,by omega,by omega,i+1,⟨by omega,by rw [hn2];omega⟩,by omega,⟨by rw [hn2,←hcs];exact A3 _,by rw [hn2,←hcs];exact hcso _ _⟩,by rw [hn2],by push_cast;rfl⟩
    ·have huv':(u==v)=false:=by simpa using huv
     rw [if_neg huv] at hn2
     ((try simp -implicitDefEqProofs [gz,s0,hle,hdr,hcsl,f1,f2,f3,f4,g1,g2,g3,g4,g5,d1,d2,d1',d2',huv',huv,hcst,hcsd]);repeat' first|((with_reducible first|apply Ac|apply Ad|apply A5)<;>(intro hc;have hc':=hc;(try simp at hc');simp -implicitDefEqProofs [hc,hc',gz,s0,hle,hdr,hcsl,f1,f2,f3,f4,g1,g2,g3,g4,g5,d1,d2,d1',d2',huv',huv,hcst,hcsd])))
     refine⟨by omega,by omega,by omega,?_⟩
     have huv2:(u != v)=true:=by simpa using huv
     have hxl:D.length≤zs.length:=by omega
     have hxl2:D.length+1≤zs.length:=by omega
     have hnew:(D++[u]).map vI++c.drop (D++[u]).length=D.map vI++vI u::c.drop (D.length+1):=by simp
     have hnewo : ∀a b,okNs a b (D.map vI++vI u::c.drop (D.length+1))=true:=fun a b=>Au (fun v hv=>by
      rcases List.mem_append.1 hv with hv|hv
      ·obtain⟨t,_,rfl⟩:=List.mem_map.1 hv;rfl
      ·rcases List.mem_cons.1 hv with rfl|hv
       ·rfl
       ·have:=List.mem_of_mem_drop hv
        rw [hc] at this
        obtain⟨t,_,rfl⟩:=List.mem_map.1 this;rfl)
     ((try simp -implicitDefEqProofs [gz,s0,hle,hdr,hcsl,f1,f2,f3,f4,g1,g2,g3,g4,g5,d1,d2,d1',d2',huv2,huv',huv,hcst,hcsd,hxl,hxl2]);repeat' first|((with_reducible first|apply Ac|apply Ad|apply A5)<;>(intro hc;have hc':=hc;(try simp at hc');simp -implicitDefEqProofs [hc,hc',gz,s0,hle,hdr,hcsl,f1,f2,f3,f4,g1,g2,g3,g4,g5,d1,d2,d1',d2',huv2,huv',huv,hcst,hcsd,hxl,hxl2])))
     exact⟨by omega,by omega,i+1,⟨by omega,by rw [hn2];simp;omega⟩,by omega,⟨by rw [hn2,hnew];exact A3 _,by rw [hn2,hnew];exact hnewo _ _⟩,by rw [hn2];simp,by push_cast;rfl⟩
   ·have hend:j+2+i=zs.length:=by omega
    rw [hend,List.take_length] at hD
    rw [hD]
    have g1 : ¬(i:Int)+1<((zs.length-(j+1):Nat):Int):=by omega
    have g5:(D.length:Int)<zs.length:=by omega
    have hfz2:(Bu (cs.take D.length)).bind (F0 1 D.length)=some (D.map fun n=>[T.int .i64 n]):=by rw [hcst,Hk,Option.bind_some,Ib]
    have hfz : ∀X:List V,(Bu ((cs.take D.length++X).take D.length)).bind (F0 1 D.length)=some (D.map fun n=>[T.int .i64 n]):=fun X=>by
     rw [hcst,List.take_append_of_le_length (by simp),List.take_of_length_le (by simp),Hk,Option.bind_some,Ib]
    have hxl:D.length≤zs.length:=by omega
    have hxl2:D.length<zs.length:=by omega
    have hxl3:D.length+(zs.length-D.length)=zs.length:=by omega
    have hxl4 : ¬zs.length≤D.length:=by omega
    ((try simp -implicitDefEqProofs [gz,s0,hle,hdr,hcsl,g1,g5,Bs,hfz,hfz2,hxl,hxl2,hxl3,hxl4]);repeat' first|((with_reducible first|apply Ac|apply Ad|apply A5)<;>(intro hc;have hc':=hc;(try simp at hc');simp -implicitDefEqProofs [hc,hc',gz,s0,hle,hdr,hcsl,g1,g5,Bs,hfz,hfz2,hxl,hxl2,hxl3,hxl4])))
    all_goals omega
  ·have hq':(x==y)=false:=by simpa using hq
   rw [if_neg hq,hd,←Ag hx] at hnx
   ((try simp -implicitDefEqProofs [gz,s0,hle,hdr,hcl,i0,e2,e3,h,hi,hi2,hj0,c1,c2,c1',c2',hq']);repeat' first|((with_reducible first|apply Ac|apply Ad|apply A5)<;>(intro hc;have hc':=hc;(try simp at hc');simp -implicitDefEqProofs [hc,hc',gz,s0,hle,hdr,hcl,i0,e2,e3,h,hi,hi2,hj0,c1,c2,c1',c2',hq'])))
   exact⟨by omega,by omega,j+1,⟨by omega,hnx⟩,by omega,hok _ _,by push_cast;rfl⟩
 ·have:j+1=zs.length:=by omega
  have hni : ¬(j:Int)+1<zs.length:=by omega
  rw [this,List.take_length] at hd
  rw [hd]
  ((try simp -implicitDefEqProofs [gz,s0,hle,hdr,hni,Bs,hrow]);repeat' first|((with_reducible first|apply Ac|apply Ad|apply A5)<;>(intro hc;have hc':=hc;(try simp at hc');simp -implicitDefEqProofs [hc,hc',gz,s0,hle,hdr,hni,Bs,hrow])))
namespace E
theorem A0z {us:Array Value} (h:us.size=1):us = #[us.getD 0 undef]:=by
 rcases us with ⟨l⟩
 match l,h with
 | [x],_=>rfl
theorem Inv.grownS {g:Gh} {S:St} {w w':World} (h:Inv g S w) (h1:w'.os=w.os) (h2:w'.tape=w.tape) (h3:w'.output=w.output) (h4:w.heap.size≤w'.heap.size) (h5 : ∀k,k<w.heap.size→w'.heap[k]?=w.heap[k]?):Mv g S w g S w':=by
 refine⟨⟨fun b o c hc=>?_,h.len,h.nodup,fun i blk bx hi hbx=>?_,h.sep,h.bwr,h.tlen,fun k n blk e z cap hk hn=>?_,h.tnil,h.tdis,Nat.le_trans h.lo h4,fun i blk hi=>Nat.lt_of_lt_of_le (h.bold i blk hi) h4,h.lay,h.lszOf fun b hb _=>h5 b hb⟩,Ext.refl _ _,⟨h1,h2,h3,h4,fun k hk _=>h5 k (Nat.lt_of_lt_of_le hk h.lo)⟩⟩
 ·rw [Dm (h5 b (h.Ilt hc))]
  exact h.imm b o c hc
 ·exact (h.box i blk bx hi hbx).mono (Ext.refl _ _) hi (h5 blk (h.bold i blk hi))
 ·obtain⟨q1,q2,q3,q4,hlt⟩:=h.tok k n blk e z cap hk hn
  exact⟨q1.imp id fun ⟨cur,a,r⟩=>⟨cur,by rw [h5 blk hlt];exact a,r⟩,q2,q3,q4,Nat.lt_of_lt_of_le hlt h4⟩
theorem A69 (b:Nat) (zs:List Int) (S:St) (hz:zs.length≤1000000) (hS:S.boxes[b]?=some (Jg zs)) :
  FnS Tryz.prog 128 [.bw b zs.length] S (.tup []) ⟨S.boxes.set b (Jg (Dx zs)),S.toks⟩:=by
 refine⟨Tryz.call128,fun g w us hI hus hrel=>?_⟩
 rw [A0z hus]
 have h0:=hrel 0 (by simp)
 simp only [List.getD_cons_zero] at h0
 generalize us.getD 0 undef=u0 at h0
 cases h0 with
 | bw _ _ blk cap hβ hc hk hm=>
  obtain⟨vs,hh,h2,⟨h3,_⟩,h4⟩:=hI.box b blk _ hβ hS
  have hl:zs.length≤vs.size:=by simpa using h3
  have hcell : ∀j,j<zs.length→vs[j]?=some (.int .i64 (zs.getD j 0)):=by
   intro j hj
   have hr:=h4 j (by simpa using hj)
   have e1:(zs.map vI).getD j .junk=vI (zs.getD j 0):=by simp [List.getD_eq_getElem?_getD,hj]
   rw [e1] at hr
   have hjv:j<vs.size:=by omega
   have e2:vs.getD j undef=vs[j]:=by simp [hjv]
   rw [e2] at hr
   rw [Array.getElem?_eq_getElem hjv]
   generalize vs[j]=u at hr
   cases hr with
   | t _ _ hr=>cases hr;rfl
  have hH:Go.Sort.Holds (Value.int .i64) w blk 0 zs.toArray:=by
   intro j hj
   have hj':j<zs.length:=by simpa using hj
   have e:=hcell j hj'
   have e3:zs.toArray[j]! = zs.getD j 0:=by simp [hj',List.getD_eq_getElem?_getD]
   rw [e3]
   refine⟨?_,?_⟩
   ·simp [World.cell?,hh,e]
   ·simp [World.frozen?,hh]
  have hblk:blk<w.heap.size:=(Array.getElem?_eq_some_iff.1 hh).1
  refine (AnyM.slices_Sort_int Jr blk 0 cap zs w hH hblk (by omega)).mono ?_
  rintro e w' ⟨rfl,n,os,rfl⟩
  refine⟨.tuple #[],g,rfl,.tup [] #[] rfl (fun j hj=>by simp at hj),?_⟩
  have hput:(Go.Sort.putRow (Value.int .i64) (Go.Sort.ahead w n) blk 0 (Dx zs).toArray).heap[blk]?=some (.cells (Go.Sort.putCells (Value.int .i64) 0 (Dx zs).toArray vs) 3 (0,0)):=by
   simp [Go.Sort.putRow,Go.Sort.mapBlock,Go.Sort.ahead,Array.getElem?_modify,hh,Go.Sort.onCells]
  have hm1:=hI.put b blk _ (Jg (Dx zs)) hβ hS (fun h=>by cases h) (fun h=>by cases h) (.cells #[] 0) (Go.Sort.putRow (Value.int .i64) (Go.Sort.ahead w n) blk 0 (Dx zs).toArray)
   (fun k hk=>by simp [Go.Sort.putRow,Go.Sort.mapBlock,Go.Sort.ahead,Array.getElem?_modify,Ne.symm hk]) (by simp) rfl rfl rfl
   ⟨_,hput,by simpa [Go.Sort.putCells] using h2,⟨by simpa [Go.Sort.putCells,Fv] using hl,fun h=>by cases h⟩,fun j hj=>by
    have hj':j<(Dx zs).length:=by simpa using hj
    have hjz:j<zs.length:=by rw [Fv] at hj';exact hj'
    have hjv:j<vs.size:=by omega
    have e1:((Dx zs).map vI).getD j .junk=vI ((Dx zs).getD j 0):=by simp [List.getD_eq_getElem?_getD,hj']
    have e2:(Go.Sort.putCells (Value.int .i64) 0 (Dx zs).toArray vs).getD j undef=.int .i64 ((Dx zs).getD j 0):=by
     simp [Go.Sort.putCells,hjv,hj',List.getD_eq_getElem?_getD]
    rw [e1,e2]
    exact .t _ _ (.int _ _)⟩
  refine hm1.trans (hm1.inv.grownS rfl rfl rfl (by simp) fun k hk=>?_)
  simp only [Go.Sort.grow]
  rw [Array.getElem?_append_left (by simpa using hk)]
  rfl

end E
theorem okI (a b:Nat) (q:List Int):okNs a b (q.map vI)=true:=Au (fun v hv=>by obtain⟨t,_,rfl⟩:=List.mem_map.1 hv;rfl)
theorem okT (a b:Nat) (q:List T):okNs a b (q.map V.t)=true:=Au (fun v hv=>by obtain⟨t,_,rfl⟩:=List.mem_map.1 hv;rfl)
theorem N3 (n m:Nat) (L:List Int):E.leB n m (Jg L) (Jg L):=⟨rfl,rfl,A3 _,okI n m L⟩
theorem Id (n m:Nat) (q:List T):E.leB n m (.cells (q.map V.t)) (.cells (q.map V.t)):=⟨A3 _,okT n m q⟩
def Up (k:Nat) (A:List Bx) (L:List Int):V:=if k=0 then .snil else .bw A.length L.length
def Uq (k:Nat) (A:List Bx) (L:List Int):List Bx:=if k=0 then A else A++[Jg L]
theorem A3f (p:List Rul) (hp:p.length=1) (hss : ∀r∈p,r.stmts.length≤40):A8 Tryz.prog 83 [Rul.l p] (A0y (ddL (Dx (Bl p)))):=by
 generalize hR:ddL (Dx (Bl p))=R
 (refine A8.of_codeB mix Tryz.call83 kb_83 (by simp) (fun hB=>?_);(try simp at hB);(try simp -implicitDefEqProofs))
 refine A7 (X:=Nat×List Bx) (fun X=>X.1≤p.length∧OkB X.2)
  (fun X=>[(3,Up X.1 X.2 (Bl (p.take X.1))),(8,Rul.l p),(9,vI p.length),(10,vI X.1)])
  (fun X=>⟨Uq X.1 X.2 (Bl (p.take X.1)),[]⟩) (fun X=>p.length-X.1) (0,[]) ⟨by simp,fun _ _ _=>trivial⟩ (by simp [Up,Uq]) ?_
 rintro ⟨i,A⟩ ⟨hi,hA⟩ hbd
 simp only [] at hi hA
 clear hbd
 have gz : ∀(l:List Bx),(A++l)[A.length]?=l[0]?:=fun l=>Pc A l
 have g1 : ∀(l:List Bx),(A++l)[A.length+1]?=l[1]?:=fun l=>Rt A l
 have s0 : ∀(l:List Bx) (v:Bx),(A++l).set A.length v=A++l.set 0 v:=fun l v=>by rw [List.set_append_right _ _ (by omega)];simp
 have s1 : ∀(l:List Bx) (v:Bx),(A++l).set (A.length+1) v=A++l.set 1 v:=fun l v=>by rw [List.set_append_right _ _ (by omega)];simp
 have hle:=fun l l' n m h=>A6.app' (l:=l) (l':=l') (hA n m h)
 have hdr:=fun l n m h=>A6.drop' (n:=n) (m:=m) l (hA n m h)
 rcases Nat.lt_or_ge i p.length with h|h
 ·have hx:p[i]?=some p[i]:=by simp [h]
  have e3:IntKind.i64.wrap ((i:Int)+1)=(i:Int)+1:=wrap64 (by omega) (by omega)
  have hsl:=hss _ (List.getElem_mem h)
  have hnx:=Un hx
  have hpl:(Bl (p.take i)).length≤2050:=by
   have:=K1 (p.take i) 40 (fun r hr=>hss r (List.mem_of_mem_take hr))
   have h2:(p.take i).length≤50:=by simp;omega
   omega
  obtain⟨nm,pr,ss,to,hr⟩ : ∃nm pr ss to,p[i]=⟨nm,pr,ss,to⟩:=⟨_,_,_,_,rfl⟩
  have hrk:(p.map Rul.c)[i]?=some [.str nm,.bool pr,.sl (ss.map Stm.c),.int .i64 to]:=by simp [h,hr,Rul.c]
  have hcc:p[i].c=[.str nm,.bool pr,.sl (ss.map Stm.c),.int .i64 to]:=by rw [hr];rfl
  rw [hr] at hsl hnx
  simp only [] at hsl hnx
  have e9 : ∀(A2:List Bx) (L:List Int),Up (i+1) A2 L=.bw A2.length L.length:=fun A2 L=>by unfold Up;rw [if_neg (by omega)]
  have e8 : ∀(A2:List Bx) (L:List Int),Uq (i+1) A2 L=A2++[Jg L]:=fun A2 L=>by unfold Uq;rw [if_neg (by omega)]
  have hi0:i=0:=by omega
  subst hi0
  have hL00:Bl (p.take 0)=[]:=by simp [Bl]
  rw [hL00] at hnx hpl
  have e7 : ∀L,Up 0 A L=.snil:=fun _=>rfl
  have e6 : ∀L,Uq 0 A L=A:=fun _=>rfl
  simp only [e7,e6]
  obtain⟨L0,hL0⟩ : ∃L0:List Int,L0=[]:=⟨_,rfl⟩
  rw [←hL0] at hnx hpl
  ((try simp -implicitDefEqProofs [h,hrk,hcc,gz,g1,s0,s1,hle,hdr]);repeat' first|((with_reducible first|apply Ac|apply Ad|apply A5)<;>(intro hc;have hc':=hc;(try simp at hc');simp -implicitDefEqProofs [hc,hc',h,hrk,hcc,gz,g1,s0,s1,hle,hdr])))
  refine⟨by unfold maxLen;omega,?_⟩
  refine A7 (X:=Nat×List Bx) (fun X=>X.1≤ss.length∧OkB X.2)
   (fun X=>[(3,.bw X.2.length (L0++to::E4 (ss.take X.1)).length),(8,Rul.l p),(9,vI p.length),(10,vI (0:Nat)),(20,Stm.l ss),(21,vI ss.length),(22,vI X.1)])
   (fun X=>⟨X.2++[Jg (L0++to::E4 (ss.take X.1))],[]⟩) (fun X=>ss.length-X.1) (0,A++[.cells [vS nm,vB pr,Stm.l ss,vI to]]) ⟨by simp,?_⟩ ?_ ?_
  ·refine hA.more _ (fun n m _=>?_)
   exact⟨⟨A3 _,rfl⟩,trivial⟩
  ·simp only [hL0]
   simp [E4,Jg,hle,E.leB,A3,A6,okNs,okN]
  rintro ⟨k,A2⟩ ⟨hk,hA2⟩ hbd
  simp only [] at hk hA2
  clear hbd gz g1 s0 s1 hle hdr
  have gz : ∀(l:List Bx),(A2++l)[A2.length]?=l[0]?:=fun l=>Pc A2 l
  have g1 : ∀(l:List Bx),(A2++l)[A2.length+1]?=l[1]?:=fun l=>Rt A2 l
  have s0 : ∀(l:List Bx) (v:Bx),(A2++l).set A2.length v=A2++l.set 0 v:=fun l v=>by rw [List.set_append_right _ _ (by omega)];simp
  have s1 : ∀(l:List Bx) (v:Bx),(A2++l).set (A2.length+1) v=A2++l.set 1 v:=fun l v=>by rw [List.set_append_right _ _ (by omega)];simp
  have hle:=fun l l' n m h=>A6.app' (l:=l) (l':=l') (hA2 n m h)
  have hdr:=fun l n m h=>A6.drop' (n:=n) (m:=m) l (hA2 n m h)
  have hal:=Jf (ss.take k)
  have htl:(ss.take k).length≤40:=by simp;omega
  rcases Nat.lt_or_ge k ss.length with g|g
  ·have e4:IntKind.i64.wrap ((k:Int)+1)=(k:Int)+1:=wrap64 (by omega) (by omega)
   have gx:ss[k]?=some ss[k]:=by simp [g]
   have han:=Y6 gx
   obtain⟨kd,acc,sn,x,hs⟩ : ∃kd acc sn x,ss[k]=⟨kd,acc,sn,x⟩:=⟨_,_,_,_,rfl⟩
   have hsk:(ss.map Stm.c)[k]?=some (.int .i64 kd::.int .i64 acc::.str sn::x.c):=by simp [g,hs,Stm.c]
   have hc2:Stm.c ⟨kd,acc,sn,x⟩=(.int .i64 kd::.int .i64 acc::.str sn::x.c):=rfl
   have hlc:=Du x
   have htc:=Cw x
   rw [hs] at han
   by_cases k3:kd=3
   ·subst k3
    have ha:E4 [⟨3,acc,sn,x⟩]=[acc]:=rfl
    rw [ha] at han
    have hML:(L0++to::E4 (ss.take (k+1)))=(L0++to::E4 (ss.take k))++[acc]:=by rw [han];simp
    have hMl:(L0++to::E4 (ss.take k)).length≤3000:=by simp;omega
    generalize hM:(L0++to::E4 (ss.take k))=M at *
    simp only [Jg]
    have hbl:(M.map vI).length=M.length:=by simp
    generalize hbv:M.map vI=bv at *
    ((try simp -implicitDefEqProofs [g,hs,hsk,hc2,hlc,htc,e4,gz,g1,s0,s1,hle,hdr,hbl]);repeat' first|((with_reducible first|apply Ac|apply Ad|apply A5)<;>(intro hc;have hc':=hc;(try simp at hc');simp -implicitDefEqProofs [hc,hc',g,hs,hsk,hc2,hlc,htc,e4,gz,g1,s0,s1,hle,hdr,hbl])))
    have hbt:bv.take M.length=bv:=List.take_of_length_le (by omega)
    have hfin:L0.map vI++vI to::(E4 (ss.take (k+1))).map vI=bv++[vI acc]:=by
     have:=congrArg (List.map vI) hML
     simp only [List.map_append,List.map_cons,List.map_nil,hbv] at this
     exact this
    have hsc:=Id
    refine⟨⟨by unfold maxLen;omega,by omega⟩,k+1,A2++[.dead,.cells (vI 3::vI acc::vS sn::x.c.map V.t)],⟨by omega,by refine hA2.more _ (fun n m _=>?_);exact⟨trivial,Id n m (.int .i64 3::.int .i64 acc::.str sn::x.c),trivial⟩⟩,by omega,?_,?_,by push_cast;rfl⟩
    ·rw [hfin,hbt,List.append_assoc]
     refine (hle _ _ _ _ (by simp;omega)).2 ⟨trivial,Id _ _ (.int .i64 3::.int .i64 acc::.str sn::x.c),?_,trivial⟩
     have:bv++[vI acc]=(M++[acc]).map vI:=by rw [List.map_append,hbv];rfl
     show E.leB _ _ (.buf _ _ (bv++[vI acc])) (.buf _ _ (bv++[vI acc]))
     rw [this]
     exact N3 _ _ _
    ·have q1:(A2++[Bx.dead,.cells (vI 3::vI acc::vS sn::x.c.map V.t)]).length=A2.length+2:=by simp
     have q2:L0.length+((E4 (ss.take (k+1))).length+1)=M.length+1:=by
      have:=congrArg List.length hML
      simp only [List.length_append,List.length_cons,List.length_nil] at this
      omega
     rw [q1,q2]
     exact leA.refl _
   ·have k3':(kd==3)=false:=by simpa using k3
    have ha:E4 [⟨kd,acc,sn,x⟩]=[]:=by simp [E4,k3]
    rw [ha,List.append_nil] at han
    ((try simp -implicitDefEqProofs [g,hs,hsk,hc2,hlc,htc,e4,k3,k3',gz,g1,s0,s1,hle,hdr]);repeat' first|((with_reducible first|apply Ac|apply Ad|apply A5)<;>(intro hc;have hc':=hc;(try simp at hc');simp -implicitDefEqProofs [hc,hc',g,hs,hsk,hc2,hlc,htc,e4,k3,k3',gz,g1,s0,s1,hle,hdr])))
    refine⟨k+1,A2,⟨by omega,hA2⟩,by omega,?_,by rw [han];exact leA.refl _,by push_cast;rfl⟩
    rw [han]
    exact (hle _ _ _ _ (by omega)).2 ⟨N3 _ _ _,trivial⟩
  ·have:k=ss.length:=by omega
   subst this
   rw [List.take_length] at *
   ((try simp -implicitDefEqProofs [e3,hle,hdr]);repeat' first|((with_reducible first|apply Ac|apply Ad|apply A5)<;>(intro hc;have hc':=hc;(try simp at hc');simp -implicitDefEqProofs [hc,hc',e3,hle,hdr])))
   refine⟨0+1,A2,⟨by omega,hA2⟩,by omega,?_,⟨?_,?_⟩,by simp⟩
   ·rw [e8,hnx]
    exact (hle _ _ _ _ (by simp)).2 ⟨N3 _ _ _,trivial⟩
   ·rw [e9,hnx]
    have q:(L0++to::E4 ss).length=L0.length+((E4 ss).length+1):=by simp
    rw [q]
    exact leA.refl _
   ·rw [e8,e9];simp [okN]
 ·have:i=p.length:=by omega
  subst this
  rw [List.take_length]
  have e9:Up p.length A (Bl p)=.bw A.length (Bl p).length:=by unfold Up;rw [if_neg (by omega)]
  have e8:Uq p.length A (Bl p)=A++[Jg (Bl p)]:=by unfold Uq;rw [if_neg (by omega)]
  have hpl:=K1 p 40 hss
  rw [e9,e8]
  have h1:=A69 A.length (Bl p) ⟨A++[Jg (Bl p)],[]⟩ (by omega) (by simp)
  have h2:=A7r A (Dx (Bl p)) (by rw [Fv];omega) hA
  simp only [s0,List.set_cons_zero] at h1
  rw [hR,Fv] at h2
  ((try simp -implicitDefEqProofs);repeat' first|((with_reducible first|apply Ac|apply Ad|apply A5)<;>(intro hc;have hc':=hc;(try simp at hc');simp -implicitDefEqProofs [hc,hc'])))
  refine Ab h1 ?_
  ((try simp -implicitDefEqProofs);repeat' first|((with_reducible first|apply Ac|apply Ad|apply A5)<;>(intro hc;have hc':=hc;(try simp at hc');simp -implicitDefEqProofs [hc,hc'])))
  refine Ab h2 ?_
  ((try simp -implicitDefEqProofs);repeat' first|((with_reducible first|apply Ac|apply Ad|apply A5)<;>(intro hc;have hc':=hc;(try simp at hc');simp -implicitDefEqProofs [hc,hc'])))
end Go.Proofs.YtmlpmdccfmmpoaaGreatDoor
