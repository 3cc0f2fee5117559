/- Chapter 35: the law ExecuteInterprets. -/
import Derived.Test.YtmlpmdccfmmpoaaGreatDoorRfi
import Derived.Test.YtmlpmdccfmmpoaaGreatDoorSkl
import Derived.Test.YtmlpmdccfmmpoaaGreatDoorExp
import Derived.Test.YtmlpmdccfmmpoaaGreatDoorInP
import Derived.Test.YtmlpmdccfmmpoaaGreatDoorRul
import Derived.Test.YtmlpmdccfmmpoaaGreatDoorVaW
import Derived.Test.YtmlpmdccfmmpoaaGreatDoorIpX
import Derived.Test.YtmlpmdccfmmpoaaGreatDoorLit
import Derived.Test.YtmlpmdccfmmpoaaGreatDoorRcm
import Derived.Test.YtmlpmdccfmmpoaaGreatDoorPrg
set_option linter.unusedSimpArgs false
set_option linter.unusedVariables false
set_option maxHeartbeats 4000000
set_option maxRecDepth 100000
section
set_option linter.unusedSimpArgs false
set_option linter.unusedVariables false
set_option maxHeartbeats 4000000
set_option maxRecDepth 100000
namespace Go.Proofs.YtmlpmdccfmmpoaaGreatDoor
open E Go.RowKit

abbrev A15 (l:List Int):V:=.t (.sl (l.map fun n=>[.int .i64 n]))
def OkB (B:List Bx):Prop:=∀n m,B.length≤n→Ab n m B B
theorem OkB.more {B:List Bx} (h:OkB B) (l:List Bx) (hl : ∀n m,B.length+l.length≤n→Ab n m l l):OkB (B++l):=fun n m hn=>by
 rw [List.length_append] at hn
 exact (Ab.app' (h n m (by omega))).2 (hl n m hn)

def Jn (l:List Int):Bx:=.buf 3 1 (l.map vI)
theorem Hm : ∀(l:List Int),Bv (l.map vI)=some (l.map fun n=>T.int .i64 n)
 | []=>rfl
 | n::l=>by simp [Bv,toT,Hm l]
theorem Ig (l:List Int):F4 1 l.length (l.map fun n=>T.int .i64 n)=some (l.map fun n=>[T.int .i64 n]):=by
 unfold F4
 rw [if_pos (by simp)]
 congr 1
 apply List.ext_getElem?
 intro i
 simp only [List.getElem?_map,List.getElem?_range]
 rcases Nat.lt_or_ge i l.length with h|h
 ·simp [h,List.take_one,List.head?_drop]
 ·simp [h]
theorem A7y (A:List Bx) (zs:List Int) (hl:zs.length≤1000000) (hA:OkB A) :
  FnS Tryz.prog 129 [.bw A.length zs.length] ⟨A++[Jn zs],[]⟩ (A15 (ddL zs)) ⟨A++[.dead],[]⟩:=by
 have gz : ∀(l:List Bx),(A++l)[A.length]?=l[0]?:=fun l=>P4 A l
 have s0 : ∀(l:List Bx) (v:Bx),(A++l).set A.length v=A++l.set 0 v:=fun l v=>by rw [List.set_append_right _ _ (by omega)];simp
 have hle:=fun l l' n m h=>Ab.app' (l:=l) (l':=l') (hA n m h)
 have hdr:=fun l n m h=>Ab.drop' (n:=n) (m:=m) l (hA n m h)
 obtain⟨c,hc⟩ : ∃c,c=zs.map vI:=⟨_,rfl⟩
 have hcl:c.length=zs.length:=by rw [hc];simp
 have hct:c.take zs.length=c:=List.take_of_length_le (by omega)
 have hrow:(Bv (c.take zs.length)).bind (F4 1 zs.length)=some (zs.map fun n=>[T.int .i64 n]):=by rw [hct,hc,Hm,Option.bind_some,Ig]
 have hok : ∀a b,okNs a b c=true:=fun a b=>by rw [hc];exact At (fun v hv=>by obtain⟨t,_,rfl⟩:=List.mem_map.1 hv;rfl)
 have hgt : ∀(i:Nat) (x:Int),zs[i]?=some x→c[i]?=some (vI x)∧∀h,c[i]'h=vI x:=fun i x hx=>by
  have h1:c[i]?=some (vI x):=by rw [hc];simp [hx]
  exact⟨h1,fun h=>by rw [List.getElem?_eq_getElem h] at h1;exact Option.some.inj h1⟩
 have hbuf:Jn zs=.buf 3 1 c:=by rw [hc];rfl
 rw [hbuf]
 by_cases h2:zs.length<2
 ·have hdd:ddL zs=zs:=by
   match zs,h2 with
   | [],_=>rfl
   | [x],_=>rfl
  rw [hdd]
  have h2':decide ((zs.length:Int)<2)=true:=by simp;omega
  have h2'':(zs.length:Int)<2:=by omega
  (refine FnS.of_code mix Tryz.call129 k_129 (by simp) (fun hB=>?_);(try simp at hB);(try simp -implicitDefEqProofs))
  ((try simp -implicitDefEqProofs [gz,s0,hle,hdr,h2',h2'',Br,hrow]);repeat' first|((with_reducible first|apply A7|apply A8|apply A3)<;>(intro hc;have hc':=hc;(try simp at hc');simp -implicitDefEqProofs [hc,hc',gz,s0,hle,hdr,h2',h2'',Br,hrow])))
 have h2':decide ((zs.length:Int)<2)=false:=by simp;omega
 have h2'' : ¬(zs.length:Int)<2:=by omega
 (refine FnS.of_code mix Tryz.call129 k_129 (by simp) (fun hB=>?_);(try simp at hB);(try simp -implicitDefEqProofs))
 ((try simp -implicitDefEqProofs [gz,s0,hle,hdr,h2',h2'']);repeat' first|((with_reducible first|apply A7|apply A8|apply A3)<;>(intro hc;have hc':=hc;(try simp at hc');simp -implicitDefEqProofs [hc,hc',gz,s0,hle,hdr,h2',h2''])))
 refine A9 (X:=Nat) (fun j=>j+1≤zs.length∧ddL (zs.take (j+1))=zs.take (j+1))
  (fun j=>[(0,.bw A.length zs.length),(3,vI ((j:Int)+1))]) (fun _=>⟨A++[.buf 3 1 c],[]⟩) (fun j=>zs.length-j) 0 ⟨by omega,?h0⟩ ?hs ?_
 case h0=>
  match zs with
  | []=>rfl
  | x::l=>rfl
 case hs=>simp [hle,E.leB,A5,hok]
 rintro j ⟨hj,hd⟩ hbd
 clear hbd
 have i0:((j:Int)+1).toNat=j+1:=by omega
 have e2:IntKind.i64.wrap (j:Int)=(j:Int):=wrap64 (by omega) (by omega)
 rcases Nat.lt_or_ge (j+1) zs.length with h|h
 ·obtain⟨x,hx⟩:=Ad h
  obtain⟨y,hy⟩:=Ad (show j<zs.length by omega)
  have hnx:=Rr hx hy
  obtain⟨c1,c1'⟩:=hgt _ _ hx
  obtain⟨c2,c2'⟩:=hgt _ _ hy
  have e3:IntKind.i64.wrap ((j:Int)+1+1)=(j:Int)+1+1:=wrap64 (by omega) (by omega)
  have hi:(j:Int)+1<zs.length:=by omega
  have hi2:(j:Int)<zs.length:=by omega
  have hj0:(0:Int)≤(j:Int)+1:=by omega
  by_cases hq:x=y
  ·subst hq
   rw [if_pos rfl,List.append_nil,hd] at hnx
   ((try simp -implicitDefEqProofs [gz,s0,hle,hdr,hcl,i0,e2,h,hi,hi2,hj0,c1,c2,c1',c2']);repeat' first|((with_reducible first|apply A7|apply A8|apply A3)<;>(intro hc;have hc':=hc;(try simp at hc');simp -implicitDefEqProofs [hc,hc',gz,s0,hle,hdr,hcl,i0,e2,h,hi,hi2,hj0,c1,c2,c1',c2'])))
   refine⟨by omega,by omega,by omega,?_⟩
   have hstart:(zs.take (j+1)).map vI++c.drop (zs.take (j+1)).length=c:=by
    have hl1:(zs.take (j+1)).length=j+1:=by simp;omega
    rw [hl1,hc,←List.map_drop,←List.map_append,List.take_append_drop]
   have hsub:((zs.length:Int)-((j:Int)+1)).toNat=zs.length-(j+1):=by omega
   have hl1:(zs.take (j+1)).length=j+1:=by simp;omega
   refine A9 (X:=Nat) (fun i=>j+2+i≤zs.length∧(ddL (zs.take (j+2+i))).length≤j+1+i)
    (fun i=>[(0,.bw A.length zs.length),(3,vI (ddL (zs.take (j+2+i))).length),(4,.vw A.length (j+1) (zs.length-(j+1))),(5,vI ((i:Int)+1))])
    (fun i=>⟨A++[.buf 3 1 ((ddL (zs.take (j+2+i))).map vI++c.drop (ddL (zs.take (j+2+i))).length)],[]⟩) (fun i=>zs.length-i) 0 ⟨by omega,?h1⟩ ?hs2 ?_
   case h1=>rw [hnx,hl1];omega
   case hs2=>
    rw [Nat.add_zero,hnx,hstart,hl1]
    simp [hle,E.leB,A5,hok,hsub]
   rintro i ⟨hi1,hi3⟩ hbd
   clear hbd
   have hD1:(ddL (zs.take (j+2+i))).length≤zs.length:=by omega
   have hnext : ∀u v:Int,zs[j+1+i+1]?=some u→zs[j+1+i]?=some v→ddL (zs.take (j+2+(i+1)))=ddL (zs.take (j+2+i))++(if u=v then [] else [u]):=by
    intro u v hu hv
    have:=Rr hu hv
    rw [show j+1+i+2=j+2+(i+1) by omega,show j+1+i+1=j+2+i by omega] at this
    exact this
   generalize hD:ddL (zs.take (j+2+i))=D at *
   have hDc:(D.map vI).length=D.length:=by simp
   have hcsl:(D.map vI++c.drop D.length).length=zs.length:=by simp;omega
   have hcsg : ∀q,D.length≤q→(D.map vI++c.drop D.length)[q]?=c[q]?:=fun q hq=>by
    rw [List.getElem?_append_right (by omega),List.getElem?_drop];congr 1;omega
   have hcst:(D.map vI++c.drop D.length).take D.length=D.map vI:=by
    rw [List.take_append_of_le_length (by omega),List.take_of_length_le (by omega)]
   have hcsd:(D.map vI++c.drop D.length).drop (D.length+1)=c.drop (D.length+1):=by
    rw [List.drop_append,List.drop_of_length_le (by omega),List.nil_append,List.drop_drop];congr 1;omega
   have hcso : ∀a b,okNs a b (D.map vI++c.drop D.length)=true:=fun a b=>At (fun v hv=>by
    rcases List.mem_append.1 hv with hv|hv
    ·obtain⟨t,_,rfl⟩:=List.mem_map.1 hv;rfl
    ·have:=List.mem_of_mem_drop hv
     rw [hc] at this
     obtain⟨t,_,rfl⟩:=List.mem_map.1 this;rfl)
   obtain⟨cs,hcs⟩ : ∃cs,cs=D.map vI++c.drop D.length:=⟨_,rfl⟩
   rw [←hcs] at hcsl hcsg hcst hcsd hcso ⊢
   have f1:IntKind.i64.wrap ((i:Int)+1+1)=(i:Int)+1+1:=wrap64 (by omega) (by omega)
   have f2:IntKind.i64.wrap (i:Int)=(i:Int):=wrap64 (by omega) (by omega)
   have f3:IntKind.i64.wrap ((D.length:Int)+1)=(D.length:Int)+1:=wrap64 (by omega) (by omega)
   have f4:((i:Int)+1).toNat=i+1:=by omega
   rcases Nat.lt_or_ge (j+2+i) zs.length with g|g
   ·obtain⟨u,hu⟩:=Ad (show j+1+i+1<zs.length by omega)
    obtain⟨v,hv⟩:=Ad (show j+1+i<zs.length by omega)
    have hn2:=hnext u v hu hv
    have d1:cs[j+1+(i+1)]?=some (vI u):=by rw [hcsg _ (by omega)];exact (hgt _ _ hu).1
    have d2:cs[j+1+i]?=some (vI v):=by rw [hcsg _ (by omega)];exact (hgt _ _ hv).1
    have d1' : ∀h,cs[j+1+(i+1)]'h=vI u:=fun h=>by rw [List.getElem?_eq_getElem h] at d1;exact Option.some.inj d1
    have d2' : ∀h,cs[j+1+i]'h=vI v:=fun h=>by rw [List.getElem?_eq_getElem h] at d2;exact Option.some.inj d2
    have g1:(i:Int)+1<((zs.length-(j+1):Nat):Int):=by omega
    have g2:(i:Int)<((zs.length-(j+1):Nat):Int):=by omega
    have g3:j+1+(i+1)<zs.length:=by omega
    have g4:j+1+i<zs.length:=by omega
    have g5:(D.length:Int)<zs.length:=by omega
    by_cases huv:u=v
    ·subst huv
     rw [if_pos rfl,List.append_nil] at hn2
     ((try simp -implicitDefEqProofs [gz,s0,hle,hdr,hcsl,f1,f2,f4,g1,g2,g3,g4,d1,d2,d1',d2']);repeat' first|((with_reducible first|apply A7|apply A8|apply A3)<;>(intro hc;have hc':=hc;(try simp at hc');simp -implicitDefEqProofs [hc,hc',gz,s0,hle,hdr,hcsl,f1,f2,f4,g1,g2,g3,g4,d1,d2,d1',d2'])))
     exact⟨by omega,by omega,by omega,i+1,⟨by omega,by rw [hn2];omega⟩,by omega,⟨by rw [hn2,←hcs];exact A5 _,by rw [hn2,←hcs];exact hcso _ _⟩,by rw [hn2],by push_cast;rfl⟩
    ·have huv':(u==v)=false:=by simpa using huv
     rw [if_neg huv] at hn2
     ((try simp -implicitDefEqProofs [gz,s0,hle,hdr,hcsl,f1,f2,f3,f4,g1,g2,g3,g4,g5,d1,d2,d1',d2',huv',huv,hcst,hcsd]);repeat' first|((with_reducible first|apply A7|apply A8|apply A3)<;>(intro hc;have hc':=hc;(try simp at hc');simp -implicitDefEqProofs [hc,hc',gz,s0,hle,hdr,hcsl,f1,f2,f3,f4,g1,g2,g3,g4,g5,d1,d2,d1',d2',huv',huv,hcst,hcsd])))
     refine⟨by omega,by omega,by omega,?_⟩
     have huv2:(u != v)=true:=by simpa using huv
     have hxl:D.length≤zs.length:=by omega
     have hxl2:D.length+1≤zs.length:=by omega
     have hnew:(D++[u]).map vI++c.drop (D++[u]).length=D.map vI++vI u::c.drop (D.length+1):=by simp
     have hnewo : ∀a b,okNs a b (D.map vI++vI u::c.drop (D.length+1))=true:=fun a b=>At (fun v hv=>by
      rcases List.mem_append.1 hv with hv|hv
      ·obtain⟨t,_,rfl⟩:=List.mem_map.1 hv;rfl
      ·rcases List.mem_cons.1 hv with rfl|hv
       ·rfl
       ·have:=List.mem_of_mem_drop hv
        rw [hc] at this
        obtain⟨t,_,rfl⟩:=List.mem_map.1 this;rfl)
     ((try simp -implicitDefEqProofs [gz,s0,hle,hdr,hcsl,f1,f2,f3,f4,g1,g2,g3,g4,g5,d1,d2,d1',d2',huv2,huv',huv,hcst,hcsd,hxl,hxl2]);repeat' first|((with_reducible first|apply A7|apply A8|apply A3)<;>(intro hc;have hc':=hc;(try simp at hc');simp -implicitDefEqProofs [hc,hc',gz,s0,hle,hdr,hcsl,f1,f2,f3,f4,g1,g2,g3,g4,g5,d1,d2,d1',d2',huv2,huv',huv,hcst,hcsd,hxl,hxl2])))
     exact⟨by omega,by omega,i+1,⟨by omega,by rw [hn2];simp;omega⟩,by omega,⟨by rw [hn2,hnew];exact A5 _,by rw [hn2,hnew];exact hnewo _ _⟩,by rw [hn2];simp,by push_cast;rfl⟩
   ·have hend:j+2+i=zs.length:=by omega
    rw [hend,List.take_length] at hD
    rw [hD]
    have g1 : ¬(i:Int)+1<((zs.length-(j+1):Nat):Int):=by omega
    have g5:(D.length:Int)<zs.length:=by omega
    have hfz2:(Bv (cs.take D.length)).bind (F4 1 D.length)=some (D.map fun n=>[T.int .i64 n]):=by rw [hcst,Hm,Option.bind_some,Ig]
    have hfz : ∀X:List V,(Bv ((cs.take D.length++X).take D.length)).bind (F4 1 D.length)=some (D.map fun n=>[T.int .i64 n]):=fun X=>by
     rw [hcst,List.take_append_of_le_length (by simp),List.take_of_length_le (by simp),Hm,Option.bind_some,Ig]
    have hxl:D.length≤zs.length:=by omega
    have hxl2:D.length<zs.length:=by omega
    have hxl3:D.length+(zs.length-D.length)=zs.length:=by omega
    have hxl4 : ¬zs.length≤D.length:=by omega
    ((try simp -implicitDefEqProofs [gz,s0,hle,hdr,hcsl,g1,g5,Br,hfz,hfz2,hxl,hxl2,hxl3,hxl4]);repeat' first|((with_reducible first|apply A7|apply A8|apply A3)<;>(intro hc;have hc':=hc;(try simp at hc');simp -implicitDefEqProofs [hc,hc',gz,s0,hle,hdr,hcsl,g1,g5,Br,hfz,hfz2,hxl,hxl2,hxl3,hxl4])))
    all_goals omega
  ·have hq':(x==y)=false:=by simpa using hq
   rw [if_neg hq,hd,←Ae hx] at hnx
   ((try simp -implicitDefEqProofs [gz,s0,hle,hdr,hcl,i0,e2,e3,h,hi,hi2,hj0,c1,c2,c1',c2',hq']);repeat' first|((with_reducible first|apply A7|apply A8|apply A3)<;>(intro hc;have hc':=hc;(try simp at hc');simp -implicitDefEqProofs [hc,hc',gz,s0,hle,hdr,hcl,i0,e2,e3,h,hi,hi2,hj0,c1,c2,c1',c2',hq'])))
   exact⟨by omega,by omega,j+1,⟨by omega,hnx⟩,by omega,hok _ _,by push_cast;rfl⟩
 ·have:j+1=zs.length:=by omega
  have hni : ¬(j:Int)+1<zs.length:=by omega
  rw [this,List.take_length] at hd
  rw [hd]
  ((try simp -implicitDefEqProofs [gz,s0,hle,hdr,hni,Br,hrow]);repeat' first|((with_reducible first|apply A7|apply A8|apply A3)<;>(intro hc;have hc':=hc;(try simp at hc');simp -implicitDefEqProofs [hc,hc',gz,s0,hle,hdr,hni,Br,hrow])))
namespace E
theorem A16 {us:Array Value} (h:us.size=1):us = #[us.getD 0 undef]:=by
 rcases us with ⟨l⟩
 match l,h with
 | [x],_=>rfl
theorem Inv.grownS {g:Gh} {S:St} {w w':World} (h:Inv g S w) (h1:w'.os=w.os) (h2:w'.tape=w.tape) (h3:w'.output=w.output) (h4:w.heap.size≤w'.heap.size) (h5 : ∀k,k<w.heap.size→w'.heap[k]?=w.heap[k]?):Mv g S w g S w':=by
 refine⟨⟨fun b o c hc=>?_,h.len,h.nodup,fun i blk bx hi hbx=>?_,h.sep,h.bwr,h.tlen,fun k n blk e z cap hk hn=>?_,h.tnil,h.tdis,Nat.le_trans h.lo h4,fun i blk hi=>Nat.lt_of_lt_of_le (h.bold i blk hi) h4,h.lay,h.lszOf fun b hb _=>h5 b hb⟩,Ext.refl _ _,⟨h1,h2,h3,h4,fun k hk _=>h5 k (Nat.lt_of_lt_of_le hk h.lo)⟩⟩
 ·rw [E0 (h5 b (h.Ilt hc))]
  exact h.imm b o c hc
 ·exact (h.box i blk bx hi hbx).mono (Ext.refl _ _) hi (h5 blk (h.bold i blk hi))
 ·obtain⟨q1,q2,q3,q4,hlt⟩:=h.tok k n blk e z cap hk hn
  exact⟨q1.imp id fun ⟨cur,a,r⟩=>⟨cur,by rw [h5 blk hlt];exact a,r⟩,q2,q3,q4,Nat.lt_of_lt_of_le hlt h4⟩
theorem A6f (b:Nat) (zs:List Int) (S:St) (hz:zs.length≤1000000) (hS:S.boxes[b]?=some (Jn zs)) :
  FnS Tryz.prog 128 [.bw b zs.length] S (.tup []) ⟨S.boxes.set b (Jn (E7 zs)),S.toks⟩:=by
 refine⟨Tryz.call128,fun g w us hI hus hrel=>?_⟩
 rw [A16 hus]
 have h0:=hrel 0 (by simp)
 simp only [List.getD_cons_zero] at h0
 generalize us.getD 0 undef=u0 at h0
 cases h0 with
 | bw _ _ blk cap hβ hc hk hm=>
  obtain⟨vs,hh,h2,⟨h3,_⟩,h4⟩:=hI.box b blk _ hβ hS
  have hl:zs.length≤vs.size:=by simpa using h3
  have hcell : ∀j,j<zs.length→vs[j]?=some (.int .i64 (zs.getD j 0)):=by
   intro j hj
   have hr:=h4 j (by simpa using hj)
   have e1:(zs.map vI).getD j .junk=vI (zs.getD j 0):=by simp [List.getD_eq_getElem?_getD,hj]
   rw [e1] at hr
   have hjv:j<vs.size:=by omega
   have e2:vs.getD j undef=vs[j]:=by simp [hjv]
   rw [e2] at hr
   rw [Array.getElem?_eq_getElem hjv]
   generalize vs[j]=u at hr
   cases hr with
   | t _ _ hr=>cases hr;rfl
  have hH:Go.Sort.Holds (Value.int .i64) w blk 0 zs.toArray:=by
   intro j hj
   have hj':j<zs.length:=by simpa using hj
   have e:=hcell j hj'
   have e3:zs.toArray[j]! = zs.getD j 0:=by simp [hj',List.getD_eq_getElem?_getD]
   rw [e3]
   refine⟨?_,?_⟩
   ·simp [World.cell?,hh,e]
   ·simp [World.frozen?,hh]
  have hblk:blk<w.heap.size:=(Array.getElem?_eq_some_iff.1 hh).1
  refine (AnyM.slices_Sort_int K1 blk 0 cap zs w hH hblk (by omega)).mono ?_
  rintro e w' ⟨rfl,n,os,rfl⟩
  refine⟨.tuple #[],g,rfl,.tup [] #[] rfl (fun j hj=>by simp at hj),?_⟩
  have hput:(Go.Sort.putRow (Value.int .i64) (Go.Sort.ahead w n) blk 0 (E7 zs).toArray).heap[blk]?=some (.cells (Go.Sort.putCells (Value.int .i64) 0 (E7 zs).toArray vs) 3 (0,0)):=by
   simp [Go.Sort.putRow,Go.Sort.mapBlock,Go.Sort.ahead,Array.getElem?_modify,hh,Go.Sort.onCells]
  have hm1:=hI.put b blk _ (Jn (E7 zs)) hβ hS (fun h=>by cases h) (fun h=>by cases h) (.cells #[] 0) (Go.Sort.putRow (Value.int .i64) (Go.Sort.ahead w n) blk 0 (E7 zs).toArray)
   (fun k hk=>by simp [Go.Sort.putRow,Go.Sort.mapBlock,Go.Sort.ahead,Array.getElem?_modify,Ne.symm hk]) (by simp) rfl rfl rfl
   ⟨_,hput,by simpa [Go.Sort.putCells] using h2,⟨by simpa [Go.Sort.putCells,Fq] using hl,fun h=>by cases h⟩,fun j hj=>by
    have hj':j<(E7 zs).length:=by simpa using hj
    have hjz:j<zs.length:=by rw [Fq] at hj';exact hj'
    have hjv:j<vs.size:=by omega
    have e1:((E7 zs).map vI).getD j .junk=vI ((E7 zs).getD j 0):=by simp [List.getD_eq_getElem?_getD,hj']
    have e2:(Go.Sort.putCells (Value.int .i64) 0 (E7 zs).toArray vs).getD j undef=.int .i64 ((E7 zs).getD j 0):=by
     simp [Go.Sort.putCells,hjv,hj',List.getD_eq_getElem?_getD]
    rw [e1,e2]
    exact .t _ _ (.int _ _)⟩
  refine hm1.trans (hm1.inv.grownS rfl rfl rfl (by simp) fun k hk=>?_)
  simp only [Go.Sort.grow]
  rw [Array.getElem?_append_left (by simpa using hk)]
  rfl

end E
theorem okI (a b:Nat) (q:List Int):okNs a b (q.map vI)=true:=At (fun v hv=>by obtain⟨t,_,rfl⟩:=List.mem_map.1 hv;rfl)
theorem okT (a b:Nat) (q:List T):okNs a b (q.map V.t)=true:=At (fun v hv=>by obtain⟨t,_,rfl⟩:=List.mem_map.1 hv;rfl)
theorem Mu (n m:Nat) (L:List Int):E.leB n m (Jn L) (Jn L):=⟨rfl,rfl,A5 _,okI n m L⟩
theorem Ih (n m:Nat) (q:List T):E.leB n m (.cells (q.map V.t)) (.cells (q.map V.t)):=⟨A5 _,okT n m q⟩
def Uh (k:Nat) (A:List Bx) (L:List Int):V:=if k=0 then .snil else .bw A.length L.length
def Ui (k:Nat) (A:List Bx) (L:List Int):List Bx:=if k=0 then A else A++[Jn L]
theorem A3f (p:List Rul) (hp:p.length=1) (hss : ∀r∈p,r.stmts.length≤40):A4 Tryz.prog 83 [Rul.l p] (A15 (ddL (E7 (Bj p)))):=by
 generalize hR:ddL (E7 (Bj p))=R
 (refine A4.of_codeB mix Tryz.call83 kb_83 (by simp) (fun hB=>?_);(try simp at hB);(try simp -implicitDefEqProofs))
 refine A9 (X:=Nat×List Bx) (fun X=>X.1≤p.length∧OkB X.2)
  (fun X=>[(3,Uh X.1 X.2 (Bj (p.take X.1))),(8,Rul.l p),(9,vI p.length),(10,vI X.1)])
  (fun X=>⟨Ui X.1 X.2 (Bj (p.take X.1)),[]⟩) (fun X=>p.length-X.1) (0,[]) ⟨by simp,fun _ _ _=>trivial⟩ (by simp [Uh,Ui]) ?_
 rintro ⟨i,A⟩ ⟨hi,hA⟩ hbd
 simp only [] at hi hA
 clear hbd
 have gz : ∀(l:List Bx),(A++l)[A.length]?=l[0]?:=fun l=>P4 A l
 have g1 : ∀(l:List Bx),(A++l)[A.length+1]?=l[1]?:=fun l=>Rl A l
 have s0 : ∀(l:List Bx) (v:Bx),(A++l).set A.length v=A++l.set 0 v:=fun l v=>by rw [List.set_append_right _ _ (by omega)];simp
 have s1 : ∀(l:List Bx) (v:Bx),(A++l).set (A.length+1) v=A++l.set 1 v:=fun l v=>by rw [List.set_append_right _ _ (by omega)];simp
 have hle:=fun l l' n m h=>Ab.app' (l:=l) (l':=l') (hA n m h)
 have hdr:=fun l n m h=>Ab.drop' (n:=n) (m:=m) l (hA n m h)
 rcases Nat.lt_or_ge i p.length with h|h
 ·have hx:p[i]?=some p[i]:=by simp [h]
  have e3:IntKind.i64.wrap ((i:Int)+1)=(i:Int)+1:=wrap64 (by omega) (by omega)
  have hsl:=hss _ (List.getElem_mem h)
  have hnx:=U6 hx
  have hpl:(Bj (p.take i)).length≤2050:=by
   have:=K5 (p.take i) 40 (fun r hr=>hss r (List.mem_of_mem_take hr))
   have h2:(p.take i).length≤50:=by simp;omega
   omega
  obtain⟨nm,pr,ss,to,hr⟩ : ∃nm pr ss to,p[i]=⟨nm,pr,ss,to⟩:=⟨_,_,_,_,rfl⟩
  have hrk:(p.map Rul.c)[i]?=some [.str nm,.bool pr,.sl (ss.map Stm.c),.int .i64 to]:=by simp [h,hr,Rul.c]
  have hcc:p[i].c=[.str nm,.bool pr,.sl (ss.map Stm.c),.int .i64 to]:=by rw [hr];rfl
  rw [hr] at hsl hnx
  simp only [] at hsl hnx
  have e9 : ∀(A2:List Bx) (L:List Int),Uh (i+1) A2 L=.bw A2.length L.length:=fun A2 L=>by unfold Uh;rw [if_neg (by omega)]
  have e8 : ∀(A2:List Bx) (L:List Int),Ui (i+1) A2 L=A2++[Jn L]:=fun A2 L=>by unfold Ui;rw [if_neg (by omega)]
  have hi0:i=0:=by omega
  subst hi0
  have hL00:Bj (p.take 0)=[]:=by simp [Bj]
  rw [hL00] at hnx hpl
  have e7 : ∀L,Uh 0 A L=.snil:=fun _=>rfl
  have e6 : ∀L,Ui 0 A L=A:=fun _=>rfl
  simp only [e7,e6]
  obtain⟨L0,hL0⟩ : ∃L0:List Int,L0=[]:=⟨_,rfl⟩
  rw [←hL0] at hnx hpl
  ((try simp -implicitDefEqProofs [h,hrk,hcc,gz,g1,s0,s1,hle,hdr]);repeat' first|((with_reducible first|apply A7|apply A8|apply A3)<;>(intro hc;have hc':=hc;(try simp at hc');simp -implicitDefEqProofs [hc,hc',h,hrk,hcc,gz,g1,s0,s1,hle,hdr])))
  refine⟨by unfold maxLen;omega,?_⟩
  refine A9 (X:=Nat×List Bx) (fun X=>X.1≤ss.length∧OkB X.2)
   (fun X=>[(3,.bw X.2.length (L0++to::Ee (ss.take X.1)).length),(8,Rul.l p),(9,vI p.length),(10,vI (0:Nat)),(20,Stm.l ss),(21,vI ss.length),(22,vI X.1)])
   (fun X=>⟨X.2++[Jn (L0++to::Ee (ss.take X.1))],[]⟩) (fun X=>ss.length-X.1) (0,A++[.cells [vS nm,vB pr,Stm.l ss,vI to]]) ⟨by simp,?_⟩ ?_ ?_
  ·refine hA.more _ (fun n m _=>?_)
   exact⟨⟨A5 _,rfl⟩,trivial⟩
  ·simp only [hL0]
   simp [Ee,Jn,hle,E.leB,A5,Ab,okNs,okN]
  rintro ⟨k,A2⟩ ⟨hk,hA2⟩ hbd
  simp only [] at hk hA2
  clear hbd gz g1 s0 s1 hle hdr
  have gz : ∀(l:List Bx),(A2++l)[A2.length]?=l[0]?:=fun l=>P4 A2 l
  have g1 : ∀(l:List Bx),(A2++l)[A2.length+1]?=l[1]?:=fun l=>Rl A2 l
  have s0 : ∀(l:List Bx) (v:Bx),(A2++l).set A2.length v=A2++l.set 0 v:=fun l v=>by rw [List.set_append_right _ _ (by omega)];simp
  have s1 : ∀(l:List Bx) (v:Bx),(A2++l).set (A2.length+1) v=A2++l.set 1 v:=fun l v=>by rw [List.set_append_right _ _ (by omega)];simp
  have hle:=fun l l' n m h=>Ab.app' (l:=l) (l':=l') (hA2 n m h)
  have hdr:=fun l n m h=>Ab.drop' (n:=n) (m:=m) l (hA2 n m h)
  have hal:=Jk (ss.take k)
  have htl:(ss.take k).length≤40:=by simp;omega
  rcases Nat.lt_or_ge k ss.length with g|g
  ·have e4:IntKind.i64.wrap ((k:Int)+1)=(k:Int)+1:=wrap64 (by omega) (by omega)
   have gx:ss[k]?=some ss[k]:=by simp [g]
   have han:=Xn gx
   obtain⟨kd,acc,sn,x,hs⟩ : ∃kd acc sn x,ss[k]=⟨kd,acc,sn,x⟩:=⟨_,_,_,_,rfl⟩
   have hsk:(ss.map Stm.c)[k]?=some (.int .i64 kd::.int .i64 acc::.str sn::x.c):=by simp [g,hs,Stm.c]
   have hc2:Stm.c ⟨kd,acc,sn,x⟩=(.int .i64 kd::.int .i64 acc::.str sn::x.c):=rfl
   have hlc:=D5 x
   have htc:=C3 x
   rw [hs] at han
   by_cases k3:kd=3
   ·subst k3
    have ha:Ee [⟨3,acc,sn,x⟩]=[acc]:=rfl
    rw [ha] at han
    have hML:(L0++to::Ee (ss.take (k+1)))=(L0++to::Ee (ss.take k))++[acc]:=by rw [han];simp
    have hMl:(L0++to::Ee (ss.take k)).length≤3000:=by simp;omega
    generalize hM:(L0++to::Ee (ss.take k))=M at *
    simp only [Jn]
    have hbl:(M.map vI).length=M.length:=by simp
    generalize hbv:M.map vI=bv at *
    ((try simp -implicitDefEqProofs [g,hs,hsk,hc2,hlc,htc,e4,gz,g1,s0,s1,hle,hdr,hbl]);repeat' first|((with_reducible first|apply A7|apply A8|apply A3)<;>(intro hc;have hc':=hc;(try simp at hc');simp -implicitDefEqProofs [hc,hc',g,hs,hsk,hc2,hlc,htc,e4,gz,g1,s0,s1,hle,hdr,hbl])))
    have hbt:bv.take M.length=bv:=List.take_of_length_le (by omega)
    have hfin:L0.map vI++vI to::(Ee (ss.take (k+1))).map vI=bv++[vI acc]:=by
     have:=congrArg (List.map vI) hML
     simp only [List.map_append,List.map_cons,List.map_nil,hbv] at this
     exact this
    have hsc:=Ih
    refine⟨⟨by unfold maxLen;omega,by omega⟩,k+1,A2++[.dead,.cells (vI 3::vI acc::vS sn::x.c.map V.t)],⟨by omega,by refine hA2.more _ (fun n m _=>?_);exact⟨trivial,Ih n m (.int .i64 3::.int .i64 acc::.str sn::x.c),trivial⟩⟩,by omega,?_,?_,by push_cast;rfl⟩
    ·rw [hfin,hbt,List.append_assoc]
     refine (hle _ _ _ _ (by simp;omega)).2 ⟨trivial,Ih _ _ (.int .i64 3::.int .i64 acc::.str sn::x.c),?_,trivial⟩
     have:bv++[vI acc]=(M++[acc]).map vI:=by rw [List.map_append,hbv];rfl
     show E.leB _ _ (.buf _ _ (bv++[vI acc])) (.buf _ _ (bv++[vI acc]))
     rw [this]
     exact Mu _ _ _
    ·have q1:(A2++[Bx.dead,.cells (vI 3::vI acc::vS sn::x.c.map V.t)]).length=A2.length+2:=by simp
     have q2:L0.length+((Ee (ss.take (k+1))).length+1)=M.length+1:=by
      have:=congrArg List.length hML
      simp only [List.length_append,List.length_cons,List.length_nil] at this
      omega
     rw [q1,q2]
     exact leA.refl _
   ·have k3':(kd==3)=false:=by simpa using k3
    have ha:Ee [⟨kd,acc,sn,x⟩]=[]:=by simp [Ee,k3]
    rw [ha,List.append_nil] at han
    ((try simp -implicitDefEqProofs [g,hs,hsk,hc2,hlc,htc,e4,k3,k3',gz,g1,s0,s1,hle,hdr]);repeat' first|((with_reducible first|apply A7|apply A8|apply A3)<;>(intro hc;have hc':=hc;(try simp at hc');simp -implicitDefEqProofs [hc,hc',g,hs,hsk,hc2,hlc,htc,e4,k3,k3',gz,g1,s0,s1,hle,hdr])))
    refine⟨k+1,A2,⟨by omega,hA2⟩,by omega,?_,by rw [han];exact leA.refl _,by push_cast;rfl⟩
    rw [han]
    exact (hle _ _ _ _ (by omega)).2 ⟨Mu _ _ _,trivial⟩
  ·have:k=ss.length:=by omega
   subst this
   rw [List.take_length] at *
   ((try simp -implicitDefEqProofs [e3,hle,hdr]);repeat' first|((with_reducible first|apply A7|apply A8|apply A3)<;>(intro hc;have hc':=hc;(try simp at hc');simp -implicitDefEqProofs [hc,hc',e3,hle,hdr])))
   refine⟨0+1,A2,⟨by omega,hA2⟩,by omega,?_,⟨?_,?_⟩,by simp⟩
   ·rw [e8,hnx]
    exact (hle _ _ _ _ (by simp)).2 ⟨Mu _ _ _,trivial⟩
   ·rw [e9,hnx]
    have q:(L0++to::Ee ss).length=L0.length+((Ee ss).length+1):=by simp
    rw [q]
    exact leA.refl _
   ·rw [e8,e9];simp [okN]
 ·have:i=p.length:=by omega
  subst this
  rw [List.take_length]
  have e9:Uh p.length A (Bj p)=.bw A.length (Bj p).length:=by unfold Uh;rw [if_neg (by omega)]
  have e8:Ui p.length A (Bj p)=A++[Jn (Bj p)]:=by unfold Ui;rw [if_neg (by omega)]
  have hpl:=K5 p 40 hss
  rw [e9,e8]
  have h1:=A6f A.length (Bj p) ⟨A++[Jn (Bj p)],[]⟩ (by omega) (by simp)
  have h2:=A7y A (E7 (Bj p)) (by rw [Fq];omega) hA
  simp only [s0,List.set_cons_zero] at h1
  rw [hR,Fq] at h2
  ((try simp -implicitDefEqProofs);repeat' first|((with_reducible first|apply A7|apply A8|apply A3)<;>(intro hc;have hc':=hc;(try simp at hc');simp -implicitDefEqProofs [hc,hc'])))
  refine Ac h1 ?_
  ((try simp -implicitDefEqProofs);repeat' first|((with_reducible first|apply A7|apply A8|apply A3)<;>(intro hc;have hc':=hc;(try simp at hc');simp -implicitDefEqProofs [hc,hc'])))
  refine Ac h2 ?_
  ((try simp -implicitDefEqProofs);repeat' first|((with_reducible first|apply A7|apply A8|apply A3)<;>(intro hc;have hc':=hc;(try simp at hc');simp -implicitDefEqProofs [hc,hc'])))
end Go.Proofs.YtmlpmdccfmmpoaaGreatDoor
end
namespace Go.Proofs.YtmlpmdccfmmpoaaGreatDoor
open E
theorem A3g (p:List Rul) (hc : ∀r∈p,∀s∈r.stmts,s.ex.cnt≤100000):A4 Tryz.prog 37 [Rul.l p] (vB (Ei p)):=by
 generalize hR:Ei p=R
 have hv:=V0 p hc
 unfold Ei at hR
 by_cases h1:Ho p=true
 case neg=>
  rw [Bool.not_eq_true] at h1
  rw [h1] at hv hR
  simp only [Bool.false_and] at hR
  subst hR
  (refine A4.of_code mix Tryz.call37 k_37 (by simp) (fun hB=>?_);(try simp at hB);(try simp -implicitDefEqProofs))
  ((try simp at hv);(try simp -implicitDefEqProofs);repeat' first|(with_reducible apply A0<;>first|(simp only [eras,era,A1];first|with_reducible assumption)|(simp -implicitDefEqProofs)))
 have h3:=h1
 rw [h1] at hv hR
 rw [Bool.true_and] at hR
 unfold Ho at h3
 simp only [Bool.and_eq_true,decide_eq_true_eq,List.all_eq_true] at h3
 obtain⟨hrs,hpl⟩:=h3
 (refine A4.of_code mix Tryz.call37 k_37 (by simp) (fun hB=>?_);(try simp at hB);(try simp -implicitDefEqProofs))
 ((try simp at hv);(try simp -implicitDefEqProofs);repeat' first|(with_reducible apply A0<;>first|(simp only [eras,era,A1];first|with_reducible assumption)|(simp -implicitDefEqProofs)))
 refine A9 (X:=Nat) (fun k=>k≤p.length∧(p.take k).all Dk=true∧((p.map (·.name)).take k).Nodup) (fun k=>[(3,.mp 0),(15,Rul.l p),(16,vI p.length),(17,vI k)])
  (fun k=>⟨[.mp (mS Dq (Bp ((p.map (·.name)).take k)))],[]⟩) (fun k=>p.length-k) 0 ⟨by simp,by simp,by simp⟩ (by simp [Bp]) ?_
 rintro k ⟨hk,hfi,hnd⟩ hbd
 clear hbd
 rcases Nat.lt_or_ge k p.length with h|h
 ·have hx:p[k]?=some p[k]:=by simp [h]
  have e3:IntKind.i64.wrap ((k:Int)+1)=(k:Int)+1:=wrap64 (by omega) (by omega)
  have hmem:=List.getElem_mem h
  have hrb:=hrs _ hmem
  have hone:=A33 hrb
  have hN:(p.map (·.name)).take (k+1)=(p.map (·.name)).take k++[p[k].name]:=Ae (by simp [h])
  have hlen:((p.map (·.name)).take k).length≤1000:=by simp;omega
  have hsl:p[k].stmts.length≤30:=by
   unfold Cs at hrb
   simp only [Bool.and_eq_true,decide_eq_true_eq] at hrb
   exact hrb.1.1.2
  have hpost:=A3f [p[k]] rfl (fun r hr=>by rw [List.mem_singleton.1 hr];omega)
  obtain⟨L,hL⟩ : ∃L,L=ddL (E7 (Bj [p[k]])):=⟨_,rfl⟩
  have hLl:L.length≤31:=by
   have h1:=Vj (E7 (Bj [p[k]]))
   have h2:=Jk p[k].stmts
   rw [Fq] at h1
   rw [hL]
   simp [Bj] at h1 ⊢
   omega
  rw [←hL] at hpost hone
  have hchk:=A35 [p[k]] (C6 L) (fun r hr=>by rw [List.mem_singleton.1 hr];exact hc _ hmem) (by simp [C6];omega)
  rw [hone] at hchk
  have hall:(p.take (k+1)).all Dk=Dk p[k]:=by rw [Ae hx,List.all_append,hfi];simp
  have hno:Dk p[k]=false→p.all Dk=false:=fun hf=>by
   rw [Bool.eq_false_iff];intro h0
   rw [List.all_eq_true] at h0
   rw [h0 _ hmem] at hf;cases hf
  have hfd:Dk p[k]=decide (Bo (fun _=>true) p[k].pair [] p[k].stmts=0):=rfl
  obtain⟨nm,pr,ss,to,hr⟩ : ∃nm pr ss to,p[k]=⟨nm,pr,ss,to⟩:=⟨_,_,_,_,rfl⟩
  have hrk:(p.map Rul.c)[k]?=some [.str nm,.bool pr,.sl (ss.map Stm.c),.int .i64 to]:=by simp [h,hr,Rul.c]
  have hcc:p[k].c=[.str nm,.bool pr,.sl (ss.map Stm.c),.int .i64 to]:=by rw [hr];rfl
  have hdup:nm∈(p.map (·.name)).take k→¬(p.map (·.name)).Nodup:=fun hm hn=>by
   have e:(p.map (·.name))=(p.map (·.name)).take (k+1)++(p.map (·.name)).drop (k+1):=(List.take_append_drop _ _).symm
   rw [e] at hn
   have:=(List.nodup_append.1 hn).1
   rw [hN,hr] at this
   exact (List.nodup_append.1 this).2.2 nm hm nm (by simp) rfl
  rw [hr] at hN hall hno hfd hchk hpost
  generalize hE:Bo (fun _=>true) pr [] ss=E at *
  simp only [] at hN hfd hchk
  clear hone hL
  rw [hfd] at hall hno
  simp only [Rul.l,List.map_cons,List.map_nil,Rul.c] at hpost hchk
  generalize hM:(p.map (·.name)).take k=M at *
  have hfm:=He Dq nm (Bp M)
  rw [Ep] at hfm
  have hsm:=Oj Dq nm true (Bp M)
  have hcl:(C6 L).length=L.length:=by simp [C6]
  ((try simp at hpost);(try simp -implicitDefEqProofs [h,hrk,hcc]);repeat' first|(with_reducible apply A0<;>first|(simp only [eras,era,A1];first|with_reducible assumption)|(simp -implicitDefEqProofs [h,hrk,hcc])))
  refine Av [(.slot 6,189,4)] (X:=Nat) (fun j=>j≤L.length) (fun j=>[(3,.mp 0),(5,.ptr 1 0),(6,.own 0 189 4 (((C6 L).map Account.c).take j)),(15,Rul.l p),(16,vI p.length),(17,vI k),(23,A15 L),(24,vI L.length),(25,vI j)])
   (fun j=>⟨[.mp (mS Dq (Bp M)),.cells [vS nm,vB pr,Stm.l ss,vI to]],[j]⟩) (fun j=>L.length-j) 0 (by omega) ?_ ?_
  ·simp
   exact⟨At (fun v hv=>by obtain⟨p,_,rfl⟩:=List.mem_map.1 hv;rfl),At (fun v hv=>by obtain⟨p,_,rfl⟩:=List.mem_map.1 hv;rfl)⟩
  rintro j hj hbd
  clear hbd
  rcases Nat.lt_or_ge j L.length with g|g
  ·obtain⟨c,gx⟩:=Ad g
   have g3:IntKind.i64.wrap ((j:Int)+1)=(j:Int)+1:=wrap64 (by omega) (by omega)
   have gc:(L.map fun n=>[T.int .i64 n])[j]?=some [T.int .i64 c]:=by simp [gx]
   have gc' : ∀h,(L.map fun n=>[T.int .i64 n])[j]'h=[T.int .i64 c]:=fun h=>by rw [List.getElem?_eq_getElem h] at gc;exact Option.some.inj gc
   have gap:=Ae (l:=(C6 L).map Account.c) (k:=j) (x:=[.int .i64 c,.int .i64 1,.int .i64 1,.int .i64 0]) (by simp [C6,gx,Account.c])
   have gl:(((C6 L).map Account.c).take j).length=j:=by simp [C6];omega
   generalize ((C6 L).map Account.c).take j=A at *
   (try simp -implicitDefEqProofs [g,gc,gc',g3,gl,maxLen])
   exact⟨⟨by omega,by omega⟩,j+1,by omega,by omega,⟨⟨At (fun v hv=>by obtain⟨p,_,rfl⟩:=List.mem_map.1 hv;rfl),At (fun v hv=>by obtain⟨p,_,rfl⟩:=List.mem_map.1 hv;rfl)⟩,rfl⟩,by rw [gap];exact leA.refl _,by push_cast;rfl⟩
  ·have hj':j=L.length:=by omega
   subst hj'
   have gt:((C6 L).map Account.c).take L.length=(C6 L).map Account.c:=List.take_of_length_le (by simp [C6])
   rw [gt]
   simp only [Account.l] at hchk
   generalize (C6 L).map Account.c=A at *
   by_cases he:E=0
   ·rw [decide_eq_true he] at hall
    subst he
    by_cases hin:nm∈M
    ·rw [if_pos hin] at hfm
     have hRf:R=false:=by
      rw [←hR,Bool.and_eq_false_iff];right;exact decide_eq_false (hdup hin)
     subst hRf
     ((try simp at hchk);(try simp -implicitDefEqProofs [h,hfm]);repeat' first|(with_reducible apply A0<;>first|(simp only [eras,era,A1];first|with_reducible assumption)|(simp -implicitDefEqProofs [h,hfm])))
    ·rw [if_neg hin] at hfm
     rw [I5 hin] at hsm
     ((try simp at hchk);(try simp -implicitDefEqProofs [h,hfm,hsm,e3]);repeat' first|(with_reducible apply A0<;>first|(simp only [eras,era,A1];first|with_reducible assumption)|(simp -implicitDefEqProofs [h,hfm,hsm,e3])))
     exact⟨by unfold maxLen;omega,k+1,⟨by omega,List.all_eq_true.1 hall,by rw [hN,List.nodup_append];exact⟨hnd,by simp,fun a ha b hb=>by rw [List.mem_singleton.1 hb];exact fun e=>hin (e▸ha)⟩⟩,by omega,⟨by rw [hN],At (fun v hv=>by obtain⟨p,_,rfl⟩:=List.mem_map.1 hv;rfl),At (fun v hv=>by obtain⟨p,_,rfl⟩:=List.mem_map.1 hv;rfl)⟩,by push_cast;rfl⟩
   ·have he':(E==0)=false:=by simpa using he
    have he2:(E != 0)=true:=by simpa using he
    have hRf:R=false:=by
     rw [←hR,Bool.and_eq_false_iff];left;exact hno (decide_eq_false he)
    subst hRf
    ((try simp at hchk);(try simp -implicitDefEqProofs [h,he,he',he2]);repeat' first|(with_reducible apply A0<;>first|(simp only [eras,era,A1];first|with_reducible assumption)|(simp -implicitDefEqProofs [h,he,he',he2])))
 ·have:k=p.length:=by omega
  subst this
  have hRt:R=true:=by
   rw [List.take_length] at hfi
   rw [List.take_of_length_le (by simp)] at hnd
   rw [←hR,hfi,decide_eq_true hnd];rfl
  subst hRt
  (try simp -implicitDefEqProofs [h])
theorem A17 (p:List Rul) (l:List Src) (hfw:Mn p=true) (hl:l.length≤13) (hs : ∀s∈l,s.num.natAbs≤100000∧0<s.den∧s.den≤100000∧s.items.length≤1000) :
  A4 Tryz.prog 14 [Rul.l p,Src.l l] (psV (if Ei p=true then G8 (p.map Be) l else ([],1))):=by
 obtain⟨f1,f2,f3⟩:=Jl hfw
 have hfi:Ei p=true→∀r∈p,Dk r=true:=fun h=>by
  unfold Ei at h
  simp only [Bool.and_eq_true,List.all_eq_true] at h
  exact h.1.2
 exact Pd p l (Ei p) (A3g p fun r hr s h=>by have:=f3 r hr s h;omega) (fun h r hr=>⟨Jm h r hr,fun _=>true,by have:=hfi h r hr;unfold Dk at this;simpa using this⟩)
  (fun h r hr=>Uf (Jm h r hr) (hfi h r hr)) hl (by omega) hs
theorem Pe (p:List Rul) (L:List Src) (hfw:Mn p=true) : ∀q∈(if Ei p=true then G8 (p.map Be) L else ([],1)).1,q.parts.length≤1000000:=by
 intro q hq
 split at hq
 ·rename_i hsn
  unfold G8 at hq
  split at hq
  ·rename_i g
   cases hrr:K0 (p.map Be) L with
   | none=>rw [hrr] at hq;simp at hq
   | some w=>
    rw [hrr] at hq
    have:=(A3b (fun c hc=>by
     obtain⟨r,hr,rfl⟩:=List.mem_map.1 hc
     exact O0 hfw hr (S7 (Jm hsn r hr))) g.1 hrr hq).len
    omega
  ·simp at hq
 ·simp at hq
theorem Pf (p:List Rul) (hok : ∀r∈p,r.ok) (l:List Sou) (hw : ∀y∈l,y.wf):A4 Tryz.prog 4 [Rul.l p,Sou.l l] (vB true):=by
 have ha:=Xf
 have hf:=A7v p
 have hf2:=A2r l []
 cases h1:Mn p
 ·rw [h1] at hf
  (refine A4.of_code mix Tryz.call4 k_4 (by simp) (fun hB=>?_);(try simp at hB);(try simp -implicitDefEqProofs))
  ((try simp at ha hf);(try simp -implicitDefEqProofs);repeat' first|(with_reducible apply A0<;>first|(simp only [eras,era,A1];first|with_reducible assumption)|(simp -implicitDefEqProofs)))
 rw [h1] at hf
 cases h2:U2 l []
 ·rw [h2] at hf2
  (refine A4.of_code mix Tryz.call4 k_4 (by simp) (fun hB=>?_);(try simp at hB);(try simp -implicitDefEqProofs))
  ((try simp at ha hf hf2);(try simp -implicitDefEqProofs);repeat' first|(with_reducible apply A0<;>first|(simp only [eras,era,A1];first|with_reducible assumption)|(simp -implicitDefEqProofs)))
 rw [h2] at hf2
 obtain⟨f1,f2,f3,f4⟩:=S5 h2
 obtain⟨g1,g2,g3⟩:=Jl h1
 have hs:=Xe l (by omega) hw
 have hrm:=A0w h2 hw
 have hown:=A0k p (by omega) (fun r hr=>by have:=g2 r hr;omega) (fun r hr s h=>by have:=g3 r hr s h;omega)
 have hv1:=A17 p (l.map Sou.src) h1 (by simp;omega) hrm
 have hv2:=P8 p (l.map Sou.src) hok h1 (by simp;omega) hrm
 have hpl:=Pe p (l.map Sou.src) h1
 generalize (if Ei p=true then G8 (p.map Be) (l.map Sou.src) else ([],1))=W at *
 obtain⟨w1,w2⟩:=W
 have hsm:=A0x w1 hpl
 unfold Src.l Src.ql psV at *
 generalize (l.map Sou.src).map Src.c=A at *
 generalize (l.map Sou.src).map Src.q=A2 at *
 (refine A4.of_code mix Tryz.call4 k_4 (by simp) (fun hB=>?_);(try simp at hB);(try simp -implicitDefEqProofs))
 ((try simp at ha hf hf2 hs hown hv1 hv2 hsm);(try simp -implicitDefEqProofs);repeat' first|(with_reducible apply A0<;>first|(simp only [eras,era,A1];first|with_reducible assumption)|(simp -implicitDefEqProofs)))
end Go.Proofs.YtmlpmdccfmmpoaaGreatDoor
