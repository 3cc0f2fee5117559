/- Quotients of integers: the program's. -/
import Derived.Test.YtmlpmdccfmmpoaaGreatDoorOp
import Derived.Test.YtmlpmdccfmmpoaaGreatDoorCodeB
set_option linter.unusedSimpArgs false
set_option linter.unusedVariables false
set_option maxHeartbeats 2000000
set_option maxRecDepth 8000
namespace Go.Proofs.YtmlpmdccfmmpoaaGreatDoor
open E
def Jo (n:Int):Bool:=decide (1≤n)&&decide (n≤99999)
def E8 (x:Ins) (pair:Bool) (st:Int):Bool:=
 if x.op=1 then Ah x.a&&(x.b==0)
 else if x.op=2 then decide (0≤x.a)&&decide (x.a<st)&&(x.b==0)
 else if x.op=3∨x.op=4 then Jo x.a&&Jo x.b&&decide (x.a≤x.b)&&((x.op==3)||pair)
 else if x.op=9 then decide (1≤x.a)&&Ah x.a&&(x.b==0)
 else if x.op=23 then (x.a==st)&&(x.b==0)
 else if x.op=25∨x.op=26 then Jo x.a&&(x.b==0)
 else (x.a==0)&&(x.b==0)

theorem A3x (n:Int):A8 Tryz.prog 173 [vI n] (vB (Jo n)):=by
 unfold Jo
 (refine A8.of_code mix Tryz.call173 k_173 (by simp) (fun hB=>?_);(try simp at hB);(try simp -implicitDefEqProofs))
 ((try simp -implicitDefEqProofs);repeat' first|((with_reducible first|apply Ac|apply Ad|apply A5)<;>(intro hc;have hc':=hc;(try simp at hc');simp -implicitDefEqProofs [hc,hc'])))
theorem A7l (x:Ins) (c:Code) (st:Int):A8 Tryz.prog 141 [x.v,c.v,vI st] (vB (E8 x c.pair st)):=by
 obtain⟨op,a,b⟩:=x
 obtain⟨nm,pair,ins⟩:=c
 unfold E8
 (refine A8.of_code mix Tryz.call141 k_141 (by simp) (fun hB=>?_);(try simp at hB);(try simp -implicitDefEqProofs))
 ((try simp -implicitDefEqProofs);repeat' first|((with_reducible first|apply Ac|apply Ad|apply A5)<;>(intro hc;have hc':=hc;(try simp at hc');simp -implicitDefEqProofs [hc,hc']))|(with_reducible apply A0<;>first|(simp only [eras,era,A1];first|with_reducible exact (Gd _)|with_reducible exact (A3x _)|simpa using (Gd _)|simpa using (A3x _))|(simp -implicitDefEqProofs)))

def A2o (op:Int):List UInt8×Int×Int×Int:=Zv.getD op.toNat ([],0,0,0)
def tk (op:Int):Int:=(A2o op).2.1
def pt (op:Int):Int:=(A2o op).2.2.1
def us (op:Int):Int:=(A2o op).2.2.2
def nm (op:Int):List UInt8:=(A2o op).1

theorem tab_row {n:Nat} (h:n≤26):((P5.map V.t).drop (n*4)).take 4=[vS (nm n),vI (tk n),vI (pt n),vI (us n)]:=by
 rcases (by omega:n=0∨n=1∨n=2∨n=3∨n=4∨n=5∨n=6∨n=7∨n=8∨n=9∨n=10∨n=11∨n=12∨n=13∨n=14∨n=15∨n=16∨n=17∨n=18∨n=19∨n=20∨n=21∨n=22∨n=23∨n=24∨n=25∨n=26) with rfl|rfl|rfl|rfl|rfl|rfl|rfl|rfl|rfl|rfl|rfl|rfl|rfl|rfl|rfl|rfl|rfl|rfl|rfl|rfl|rfl|rfl|rfl|rfl|rfl|rfl|rfl<;>rfl
theorem A2p:P5.length=108:=by rfl

def Ev (len:Nat) (pair:Bool) (i:Nat) (x:Ins) (st:Int):Bool:=
 decide (x.op<1)||decide (26<x.op)||(decide (x.op=26) != decide (i+1=len)) || !E8 x pair st
def E1 (op dep:Int):Bool:=decide (dep<tk op)||(decide (pt op=0)&&decide (dep≠tk op))
def Cz (len:Nat) (pair:Bool) (i:Nat) (x:Ins) (s:Int×Int×Int):Option (Int×Int×Int):=
 if Ev len pair i x s.2.2=true then none else if E1 x.op s.2.1=true then none
 else some (max s.1 (s.2.1+(pt x.op-tk x.op)),s.2.1+(pt x.op-tk x.op),if x.op=23 then s.2.2+1 else s.2.2)
def Cl (c:Code):Nat→Option (Int×Int×Int)
 | 0=>some (0,0,0)
 | k+1=>match Cl c k,c.ins[k]? with
  | some s,some x=>Cz c.ins.length c.pair k x s
  | _,_=>none
def D7 (c:Code):Int×Bool:=if c.ins=[] then (0,false) else match Cl c c.ins.length with
 | some s=>(s.1,true)
 | none=>(0,false)

theorem O2 {c:Code} {k:Nat} (h:Cl c k=none) : ∀m,Cl c (k+m)=none
 | 0=>h
 | m+1=>by rw [←Nat.add_assoc];simp only [Cl,O2 h m]
theorem Jp {c:Code} {k:Nat} {s:Int×Int×Int} {x:Ins} (h:Cl c k=some s) (hx:c.ins[k]?=some x):Cl c (k+1)=Cz c.ins.length c.pair k x s:=by simp only [Cl,h,hx]
theorem Md {c:Code} {k:Nat} {s:Int×Int×Int} {x:Ins} (h:Cl c k=some s) (hx:c.ins[k]?=some x) (hf:Cz c.ins.length c.pair k x s=none):D7 c=(0,false):=by
 have hk:=A4 hx
 have h1:=O2 ((Jp h hx).trans hf) (c.ins.length-(k+1))
 rw [show k+1+(c.ins.length-(k+1))=c.ins.length from by omega] at h1
 unfold D7
 rw [h1]
 split<;>rfl

theorem A3y {n:Nat} (h:n≤26):0≤pt n∧pt n≤1∧0≤tk n∧tk n≤2:=by
 rcases (by omega:n=0∨n=1∨n=2∨n=3∨n=4∨n=5∨n=6∨n=7∨n=8∨n=9∨n=10∨n=11∨n=12∨n=13∨n=14∨n=15∨n=16∨n=17∨n=18∨n=19∨n=20∨n=21∨n=22∨n=23∨n=24∨n=25∨n=26) with rfl|rfl|rfl|rfl|rfl|rfl|rfl|rfl|rfl|rfl|rfl|rfl|rfl|rfl|rfl|rfl|rfl|rfl|rfl|rfl|rfl|rfl|rfl|rfl|rfl|rfl|rfl<;>decide

theorem Vk {len:Nat} {pair:Bool} {i:Nat} {x:Ins} {s s':Int×Int×Int} (h:Cz len pair i x s=some s'):1≤x.op∧x.op≤26∧tk x.op≤s.2.1∧s'=(max s.1 (s.2.1+(pt x.op-tk x.op)),s.2.1+(pt x.op-tk x.op),if x.op=23 then s.2.2+1 else s.2.2):=by
 unfold Cz at h
 split at h
 ·cases h
 split at h
 ·cases h
 rename_i h1 h2
 simp only [Ev,E1,Bool.or_eq_true,decide_eq_true_eq,not_or,Int.not_lt] at h1 h2
 exact⟨by omega,by omega,h2.1,(Option.some.inj h).symm⟩

theorem P6 {c:Code} : ∀{k:Nat} {s:Int×Int×Int},Cl c k=some s→0≤s.1∧s.1≤k∧0≤s.2.1∧s.2.1≤k∧0≤s.2.2∧s.2.2≤k
 | 0,s,h=>by cases h;simp
 | k+1,s,h=>by
  simp only [Cl] at h
  split at h
  ·rename_i s0 x h1 h2
   have ih:=P6 h1
   obtain⟨h3,h4,h5,rfl⟩:=Vk h
   obtain⟨n,hn⟩ : ∃n:Nat,x.op=n:=⟨x.op.toNat,by omega⟩
   rw [hn] at h5 ⊢
   have h6:=A3y (n:=n) (by omega)
   simp only []
   refine⟨by omega,by push_cast;omega,by omega,by push_cast;omega,?_,?_⟩<;>split<;>push_cast<;>omega
  ·cases h

theorem A7m (c:Code) (hlen:c.ins.length≤1000000):A8 Tryz.prog 102 [c.v] (vO (D7 c)):=by
 obtain⟨cn,pair,ins⟩:=c
 simp only [] at hlen
 have htab:=A7i
 have hrow : ∀n:Nat,n≤26→((P5.map V.t).drop (n*4)).take 4=[vS (nm n),vI (tk n),vI (pt n),vI (us n)]:=fun n h=>tab_row h
 have htl:(P5.map V.t).length=108:=by rw [List.length_map];exact A2p
 have htt : ∀x∈P5.map V.t,∃y,x=V.t y:=fun x hx=>by obtain⟨y,_,rfl⟩:=List.mem_map.1 hx;exact⟨y,rfl⟩
 have hok : ∀n m,okNs n m (P5.map V.t)=true:=fun n m=>Dq n m _
 generalize hM:(⟨cn,pair,ins⟩:Code)=c0
 have hci:c0.ins=ins:=by rw [←hM]
 have hcp:c0.pair=pair:=by rw [←hM]
 rcases Nat.eq_zero_or_pos ins.length with h0|h0
 ·have h1:ins=[]:=List.eq_nil_of_length_eq_zero h0
  have h2:D7 c0=(0,false):=by unfold D7;rw [hci,h1];rfl
  rw [h2,←hM,h1]
  (refine A8.of_code mix Tryz.call102 k_102 (by simp) (fun hB=>?_);(try simp at hB);(try simp -implicitDefEqProofs [vO]))
  (try simp -implicitDefEqProofs [vO])
 have h0b:((ins.length:Int)==0)=false:=by simp;exact fun h=>by simp [h] at h0
 generalize hR:vO (D7 c0)=R
 rw [←hM]
 (refine A8.of_code mix Tryz.call102 k_102 (by simp) (fun hB=>?_);(try simp at hB);(try simp -implicitDefEqProofs))
 generalize P5.map V.t=TB at *
 ((try simp at htab);(try simp -implicitDefEqProofs [h0b]);repeat' first|(with_reducible apply A0<;>first|(simp only [eras,era,A1];first|with_reducible assumption)|(simp -implicitDefEqProofs [h0b])))
 refine⟨⟨htl,fun x hx=>by obtain⟨y,rfl⟩:=htt x hx;rfl⟩,?_⟩
 refine A7 (X:=Nat×Int×Int×Int) (fun X=>X.1≤ins.length∧Cl c0 X.1=some X.2)
  (fun X=>[(1,.ptr 0 0),(4,vI X.2.1),(5,vI X.2.2.1),(6,vI X.2.2.2),(7,.ptr 1 0),(17,Ins.l ins),(18,vI ins.length),(19,vI X.1)])
  (fun _=>⟨[.cells [vS cn,vB pair,Ins.l ins],.cells TB],[]⟩) (fun X=>ins.length-X.1) (0,0,0,0) ⟨by simp,rfl⟩ ?hs ?_
 case hs=>simp [htl];exact hok 2 0
 rintro ⟨k,sz,d,st⟩ ⟨hk,hr⟩ hbd
 simp only [] at hk hr
 have hbds:=P6 hr
 simp only [] at hbds
 rcases Nat.lt_or_ge k ins.length with h|h
 ·have hx:ins[k]?=some ins[k]:=by simp [h]
  have h' : ¬ins.length≤k:=by omega
  have e3:IntKind.i64.wrap ((k:Int)+1)=(k:Int)+1:=wrap64 (by omega) (by omega)
  have e5:IntKind.i64.wrap ((ins.length:Int)-1)=(ins.length:Int)-1:=wrap64 (by omega) (by omega)
  have hnum:=A7l ins[k] ⟨cn,pair,ins⟩ st
  have hfail:Ev ins.length pair k ins[k] st=true→R=vO (0,false):=fun hb=>by
   rw [←hR,Md hr (by rw [hci];exact hx) (by unfold Cz;rw [hci,hcp,if_pos hb])]
  rcases (by omega:ins[k].op<1∨1≤ins[k].op) with b1|b1
  ·rw [hfail (by simp [Ev,b1])]
   ((try simp at hnum);(try simp -implicitDefEqProofs [vO,h,h',e5,b1]);repeat' first|(with_reducible apply A0<;>first|(simp only [eras,era,A1];first|with_reducible assumption)|(simp -implicitDefEqProofs [vO,h,h',e5,b1])))
  have b1' : ¬ins[k].op<1:=by omega
  rcases (by omega:26<ins[k].op∨ins[k].op≤26) with b2|b2
  ·rw [hfail (by simp [Ev,b2])]
   ((try simp at hnum);(try simp -implicitDefEqProofs [vO,h,h',e5,b1',b2]);repeat' first|(with_reducible apply A0<;>first|(simp only [eras,era,A1];first|with_reducible assumption)|(simp -implicitDefEqProofs [vO,h,h',e5,b1',b2])))
  have b2' : ¬26<ins[k].op:=by omega
  obtain⟨n,hn⟩ : ∃n:Nat,ins[k].op=n:=⟨ins[k].op.toNat,by omega⟩
  have b1n : ¬(n:Int)<1:=by omega
  have b2n : ¬(26:Int)<n:=by omega
  have agree : ∀u v:Bool,decide (ins[k].op=26)=u→decide (k+1=ins.length)=v→((ins[k].op==26)=u∧((k:Int)==(ins.length:Int)-1)=v):=by
   rintro u v rfl rfl
   refine⟨by rw [←Bool.beq_eq_decide_eq],?_⟩
   rw [Bool.eq_iff_iff]
   simp
   omega
  have hrn:=hrow n (by omega)
  have hpk:=A3y (n:=n) (by omega)
  have hfail2:E1 n d=true→R=vO (0,false):=fun hb=>by
   rw [←hR,Md hr (by rw [hci];exact hx) (by unfold Cz;rw [hn,if_pos hb];split<;>rfl)]
  have hgo:Ev ins.length pair k ins[k] st=false→E1 n d=false→Cl c0 (k+1)=some (max sz (d+(pt n-tk n)),d+(pt n-tk n),if (n:Int)=23 then st+1 else st):=fun g1 g2=>by
   rw [Jp hr (by rw [hci];exact hx)]
   unfold Cz
   rw [hci,hcp,hn,if_neg (by simp [g1]),if_neg (by simp [g2])]
  have e6:IntKind.i64.wrap (pt n-tk n)=pt n-tk n:=wrap64 (by omega) (by omega)
  have e7:IntKind.i64.wrap (d+(pt n-tk n))=d+(pt n-tk n):=wrap64 (by omega) (by omega)
  have e8:IntKind.i64.wrap (st+1)=st+1:=wrap64 (by omega) (by omega)
  cases hu:decide (ins[k].op=26)<;>cases hv:decide (k+1=ins.length)<;>obtain⟨f1,f2⟩:=agree _ _ hu hv
  ·cases hnv:E8 ins[k] pair st
   ·rw [hfail (by simp only [Ev,hu,hv,hnv];simp)]
    simp only [hnv] at hnum
    ((try simp at hnum);(try simp -implicitDefEqProofs [vO,h,h',e5,b1',b2',f1,f2]);repeat' first|(with_reducible apply A0<;>first|(simp only [eras,era,A1];first|with_reducible assumption)|(simp -implicitDefEqProofs [vO,h,h',e5,b1',b2',f1,f2])))
   simp only [hnv] at hnum
   have hb:Ev ins.length pair k ins[k] st=false:=by simp only [Ev,hu,hv,hnv];simp;omega
   simp [hn] at hnum
   rw [hn] at f1
   rcases (by omega:d<tk n∨tk n≤d) with d1|d1
   ·rw [hfail2 (by simp [E1,d1])]
    ((try simp at hnum);(try simp -implicitDefEqProofs [vO,h,h',e5,b1n,b2n,hn,hrn,f1,f2,d1]);repeat' first|(with_reducible apply A0<;>first|(simp only [eras,era,A1];first|with_reducible assumption)|(simp -implicitDefEqProofs [vO,h,h',e5,b1n,b2n,hn,hrn,f1,f2,d1])))
    all_goals exact⟨by omega,by omega⟩
   have d1' : ¬d<tk n:=by omega
   have q1:((pt n==0)=true∧(d != tk n)=true)∨(pt n==0)=false∨((pt n==0)=true∧(d != tk n)=false):=by
    cases (pt n==0)<;>cases (d != tk n)<;>simp
   rcases q1 with ⟨q1,q2⟩|q1|⟨q1,q2⟩
   ·rw [hfail2 (by simp at q1 q2;simp [E1,q1,q2])]
    ((try simp at hnum);(try simp -implicitDefEqProofs [vO,h,h',e5,b1n,b2n,hn,hrn,f1,f2,d1',q1,q2]);repeat' first|(with_reducible apply A0<;>first|(simp only [eras,era,A1];first|with_reducible assumption)|(simp -implicitDefEqProofs [vO,h,h',e5,b1n,b2n,hn,hrn,f1,f2,d1',q1,q2])))
    all_goals exact⟨by omega,by omega⟩
   ·have hg:=hgo hb (by first|(simp at q1 q2;simp [E1,d1,q1,q2];done)|(simp at q1;simp [E1,d1,q1]))
    rcases Int.decEq n 23 with n1|n1
    ·have n2:((n:Int)==23)=false:=by simpa using n1
     rw [if_neg n1] at hg
     ((try simp at hnum);(try simp -implicitDefEqProofs [h,h',e3,e5,e6,e7,b1n,b2n,hn,hrn,f1,f2,d1',q1,n2]);repeat' first|(with_reducible apply A0<;>first|(simp only [eras,era,A1];first|with_reducible assumption)|(simp -implicitDefEqProofs [h,h',e3,e5,e6,e7,b1n,b2n,hn,hrn,f1,f2,d1',q1,n2])))
     all_goals exact⟨by omega,by omega,k+1,_,_,_,⟨by omega,hg⟩,by omega,hok 2 0,rfl,rfl,rfl,by push_cast;rfl⟩
    ·have n2:((n:Int)==23)=true:=by simpa using n1
     rw [if_pos n1] at hg
     ((try simp at hnum);(try simp -implicitDefEqProofs [h,h',e3,e5,e6,e7,e8,b1n,b2n,hn,hrn,f1,f2,d1',q1,n2]);repeat' first|(with_reducible apply A0<;>first|(simp only [eras,era,A1];first|with_reducible assumption)|(simp -implicitDefEqProofs [h,h',e3,e5,e6,e7,e8,b1n,b2n,hn,hrn,f1,f2,d1',q1,n2])))
     all_goals exact⟨by omega,by omega,k+1,_,_,_,⟨by omega,hg⟩,by omega,hok 2 0,rfl,rfl,rfl,by push_cast;rfl⟩
   ·have hg:=hgo hb (by first|(simp at q1 q2;simp [E1,d1,q1,q2];done)|(simp at q1;simp [E1,d1,q1]))
    rcases Int.decEq n 23 with n1|n1
    ·have n2:((n:Int)==23)=false:=by simpa using n1
     rw [if_neg n1] at hg
     ((try simp at hnum);(try simp -implicitDefEqProofs [h,h',e3,e5,e6,e7,b1n,b2n,hn,hrn,f1,f2,d1',q1,n2,q2]);repeat' first|(with_reducible apply A0<;>first|(simp only [eras,era,A1];first|with_reducible assumption)|(simp -implicitDefEqProofs [h,h',e3,e5,e6,e7,b1n,b2n,hn,hrn,f1,f2,d1',q1,n2,q2])))
     all_goals exact⟨by omega,by omega,k+1,_,_,_,⟨by omega,hg⟩,by omega,hok 2 0,rfl,rfl,rfl,by push_cast;rfl⟩
    ·have n2:((n:Int)==23)=true:=by simpa using n1
     rw [if_pos n1] at hg
     ((try simp at hnum);(try simp -implicitDefEqProofs [h,h',e3,e5,e6,e7,e8,b1n,b2n,hn,hrn,f1,f2,d1',q1,n2,q2]);repeat' first|(with_reducible apply A0<;>first|(simp only [eras,era,A1];first|with_reducible assumption)|(simp -implicitDefEqProofs [h,h',e3,e5,e6,e7,e8,b1n,b2n,hn,hrn,f1,f2,d1',q1,n2,q2])))
     all_goals exact⟨by omega,by omega,k+1,_,_,_,⟨by omega,hg⟩,by omega,hok 2 0,rfl,rfl,rfl,by push_cast;rfl⟩
  ·rw [hfail (by simp only [Ev,hu,hv];simp)]
   ((try simp at hnum);(try simp -implicitDefEqProofs [vO,h,h',e5,b1',b2',f1,f2]);repeat' first|(with_reducible apply A0<;>first|(simp only [eras,era,A1];first|with_reducible assumption)|(simp -implicitDefEqProofs [vO,h,h',e5,b1',b2',f1,f2])))
  ·rw [hfail (by simp only [Ev,hu,hv];simp)]
   ((try simp at hnum);(try simp -implicitDefEqProofs [vO,h,h',e5,b1',b2',f1,f2]);repeat' first|(with_reducible apply A0<;>first|(simp only [eras,era,A1];first|with_reducible assumption)|(simp -implicitDefEqProofs [vO,h,h',e5,b1',b2',f1,f2])))
  ·cases hnv:E8 ins[k] pair st
   ·rw [hfail (by simp only [Ev,hu,hv,hnv];simp)]
    simp only [hnv] at hnum
    ((try simp at hnum);(try simp -implicitDefEqProofs [vO,h,h',e5,b1',b2',f1,f2]);repeat' first|(with_reducible apply A0<;>first|(simp only [eras,era,A1];first|with_reducible assumption)|(simp -implicitDefEqProofs [vO,h,h',e5,b1',b2',f1,f2])))
   simp only [hnv] at hnum
   have hb:Ev ins.length pair k ins[k] st=false:=by simp only [Ev,hu,hv,hnv];simp;omega
   simp [hn] at hnum
   rw [hn] at f1
   rcases (by omega:d<tk n∨tk n≤d) with d1|d1
   ·rw [hfail2 (by simp [E1,d1])]
    ((try simp at hnum);(try simp -implicitDefEqProofs [vO,h,h',e5,b1n,b2n,hn,hrn,f1,f2,d1]);repeat' first|(with_reducible apply A0<;>first|(simp only [eras,era,A1];first|with_reducible assumption)|(simp -implicitDefEqProofs [vO,h,h',e5,b1n,b2n,hn,hrn,f1,f2,d1])))
    all_goals exact⟨by omega,by omega⟩
   have d1' : ¬d<tk n:=by omega
   have q1:((pt n==0)=true∧(d != tk n)=true)∨(pt n==0)=false∨((pt n==0)=true∧(d != tk n)=false):=by
    cases (pt n==0)<;>cases (d != tk n)<;>simp
   rcases q1 with ⟨q1,q2⟩|q1|⟨q1,q2⟩
   ·rw [hfail2 (by simp at q1 q2;simp [E1,q1,q2])]
    ((try simp at hnum);(try simp -implicitDefEqProofs [vO,h,h',e5,b1n,b2n,hn,hrn,f1,f2,d1',q1,q2]);repeat' first|(with_reducible apply A0<;>first|(simp only [eras,era,A1];first|with_reducible assumption)|(simp -implicitDefEqProofs [vO,h,h',e5,b1n,b2n,hn,hrn,f1,f2,d1',q1,q2])))
    all_goals exact⟨by omega,by omega⟩
   ·have hg:=hgo hb (by first|(simp at q1 q2;simp [E1,d1,q1,q2];done)|(simp at q1;simp [E1,d1,q1]))
    rcases Int.decEq n 23 with n1|n1
    ·have n2:((n:Int)==23)=false:=by simpa using n1
     rw [if_neg n1] at hg
     ((try simp at hnum);(try simp -implicitDefEqProofs [h,h',e3,e5,e6,e7,b1n,b2n,hn,hrn,f1,f2,d1',q1,n2]);repeat' first|(with_reducible apply A0<;>first|(simp only [eras,era,A1];first|with_reducible assumption)|(simp -implicitDefEqProofs [h,h',e3,e5,e6,e7,b1n,b2n,hn,hrn,f1,f2,d1',q1,n2])))
     all_goals exact⟨by omega,by omega,k+1,_,_,_,⟨by omega,hg⟩,by omega,hok 2 0,rfl,rfl,rfl,by push_cast;rfl⟩
    ·have n2:((n:Int)==23)=true:=by simpa using n1
     rw [if_pos n1] at hg
     ((try simp at hnum);(try simp -implicitDefEqProofs [h,h',e3,e5,e6,e7,e8,b1n,b2n,hn,hrn,f1,f2,d1',q1,n2]);repeat' first|(with_reducible apply A0<;>first|(simp only [eras,era,A1];first|with_reducible assumption)|(simp -implicitDefEqProofs [h,h',e3,e5,e6,e7,e8,b1n,b2n,hn,hrn,f1,f2,d1',q1,n2])))
     all_goals exact⟨by omega,by omega,k+1,_,_,_,⟨by omega,hg⟩,by omega,hok 2 0,rfl,rfl,rfl,by push_cast;rfl⟩
   ·have hg:=hgo hb (by first|(simp at q1 q2;simp [E1,d1,q1,q2];done)|(simp at q1;simp [E1,d1,q1]))
    rcases Int.decEq n 23 with n1|n1
    ·have n2:((n:Int)==23)=false:=by simpa using n1
     rw [if_neg n1] at hg
     ((try simp at hnum);(try simp -implicitDefEqProofs [h,h',e3,e5,e6,e7,b1n,b2n,hn,hrn,f1,f2,d1',q1,n2,q2]);repeat' first|(with_reducible apply A0<;>first|(simp only [eras,era,A1];first|with_reducible assumption)|(simp -implicitDefEqProofs [h,h',e3,e5,e6,e7,b1n,b2n,hn,hrn,f1,f2,d1',q1,n2,q2])))
     all_goals exact⟨by omega,by omega,k+1,_,_,_,⟨by omega,hg⟩,by omega,hok 2 0,rfl,rfl,rfl,by push_cast;rfl⟩
    ·have n2:((n:Int)==23)=true:=by simpa using n1
     rw [if_pos n1] at hg
     ((try simp at hnum);(try simp -implicitDefEqProofs [h,h',e3,e5,e6,e7,e8,b1n,b2n,hn,hrn,f1,f2,d1',q1,n2,q2]);repeat' first|(with_reducible apply A0<;>first|(simp only [eras,era,A1];first|with_reducible assumption)|(simp -implicitDefEqProofs [h,h',e3,e5,e6,e7,e8,b1n,b2n,hn,hrn,f1,f2,d1',q1,n2,q2])))
     all_goals exact⟨by omega,by omega,k+1,_,_,_,⟨by omega,hg⟩,by omega,hok 2 0,rfl,rfl,rfl,by push_cast;rfl⟩
 ·have:k=ins.length:=by omega
  subst this
  have hm:D7 c0=(sz,true):=by
   unfold D7
   rw [hci,hr,if_neg (by intro h1;simp [h1] at h0)]
  rw [hm] at hR
  subst hR
  (try simp -implicitDefEqProofs [vO])
def nB (z:Int):Bool:=decide (z<0)
def pE (z:Int):List (List T):=lE .u32 (A9 b9 z.natAbs)
theorem iV9 (z:Int):iV b9 .u32 z=.agg [.t (.bool (nB z)),.t (.sl (pE z))]:=rfl
def rC (n d:Int):List T:=[.bool (nB n),.sl (pE n),.bool (nB d),.sl (pE d)]
def rV (n d:Int):V:=.agg [.t (.bool (nB n)),.t (.sl (pE n)),.t (.bool (nB d)),.t (.sl (pE d))]
def Sm (z:Int):Prop:=z.natAbs<1000000000000000000000000000
theorem Sm.len {z:Int} (h:Sm z):(A9 b9 z.natAbs).length≤1000:=by
 have:=D3 (B:=b9) (n:=z.natAbs) (k:=3) C8 (by unfold Sm at h;unfold b9;omega)
 omega
theorem A3z {n:Int} {d:Nat} (hn:Sm n) (hd:0<d) (hdb:d<b9):A8 Tryz.prog 110 [rV n d] (rV (C5 n d) (C6 n d)):=by
 have hdn:((d:Int)).natAbs=d:=Int.natAbs_natCast d
 have hg:=A7g n d hn.len (by rw [hdn];exact hdb)
 rw [hdn] at hg
 have hg0:=J1 (a:=n) hd
 have hgd:Nat.gcd n.natAbs d≤d:=Nat.gcd_le_right _ hd
 have hs:=I7 (d:Int)
 have s1:sgn (d:Int)=1:=by unfold sgn;rw [if_neg (by omega),if_neg (by omega)]
 rw [s1] at hs
 have q1:=Mb n (Nat.gcd n.natAbs d:Nat) hn.len (by omega) (by rw [Int.natAbs_natCast];omega)
 have q2:=Mb d (Nat.gcd n.natAbs d:Nat) (Sm.len (by unfold Sm;unfold b9 at hdb;omega)) (by omega) (by rw [Int.natAbs_natCast];omega)
 have e2:(d:Int).tdiv (Nat.gcd n.natAbs d:Nat)=(C6 n d:Nat):=rfl
 have e1:n.tdiv (Nat.gcd n.natAbs d:Nat)=C5 n d:=rfl
 rw [e1] at q1
 rw [e2] at q2
 generalize C5 n d=a at *
 generalize C6 n d=b at *
 generalize Nat.gcd n.natAbs d=g at *
 generalize n.tmod (g:Nat)=m1 at *
 generalize (d:Int).tmod (g:Nat)=m2 at *
 simp only [iV9] at *
 unfold rV
 (refine A8.of_code mix Tryz.call110 k_110 (by simp) (fun hB=>?_);(try simp at hB);(try simp -implicitDefEqProofs))
 ((try simp at hg hs q1 q2);(try simp -implicitDefEqProofs);repeat' first|(with_reducible apply A0<;>first|(simp only [eras,era,A1];first|with_reducible assumption)|(simp -implicitDefEqProofs)))
theorem A7n {n:Int} {d:Nat} (hn:Sm n) (hd:0<d) (hdb:d<b9):A8 Tryz.prog 58 [iV b9 .u32 n,iV b9 .u32 d] (.tup [rV (C5 n d) (C6 n d),vI 0]):=by
 have hr:=A3z hn hd hdb
 have hs:=I7 (d:Int)
 have s1:sgn (d:Int)=1:=by unfold sgn;rw [if_neg (by omega),if_neg (by omega)]
 rw [s1] at hs
 generalize C5 n d=a at *
 generalize C6 n d=b at *
 simp only [iV9] at *
 unfold rV at *
 (refine A8.of_code mix Tryz.call58 k_58 (by simp) (fun hB=>?_);(try simp at hB);(try simp -implicitDefEqProofs))
 ((try simp at hr hs);(try simp -implicitDefEqProofs);repeat' first|(with_reducible apply A0<;>first|(simp only [eras,era,A1];first|with_reducible assumption)|(simp -implicitDefEqProofs)))
theorem Vl {n:Int} {d:Nat} (h1 : -9223372036854775808≤n) (h2:n≤9223372036854775807) (hd:0<d) (hdb:d<b9):A8 Tryz.prog 23 [vI n,vI d] (.tup [rV (C5 n d) (C6 n d),vI 0]):=by
 have hr:=A7n (n:=n) (by unfold Sm;omega) hd hdb
 have o1:=Zn h1 h2
 have o2:=Zn (n:=(d:Int)) (by omega) (by unfold b9 at hdb;omega)
 generalize C5 n d=a at *
 generalize C6 n d=b at *
 simp only [iV9] at *
 unfold rV at *
 (refine A8.of_code mix Tryz.call23 k_23 (by simp) (fun hB=>?_);(try simp at hB);(try simp -implicitDefEqProofs))
 ((try simp at o1 o2 hr);(try simp -implicitDefEqProofs);repeat' first|(with_reducible apply A0<;>first|(simp only [eras,era,A1];first|with_reducible assumption)|(simp -implicitDefEqProofs)))
theorem P7 (n:Int) {d:Nat} (hd:0<d):A8 Tryz.prog 179 [rV n d] (.tup [iV b9 .u32 n,iV b9 .u32 d]):=by
 have hs:=I7 (d:Int)
 have s1:sgn (d:Int)=1:=by unfold sgn;rw [if_neg (by omega),if_neg (by omega)]
 rw [s1] at hs
 simp only [iV9] at *
 unfold rV at *
 (refine A8.of_code mix Tryz.call179 k_179 (by simp) (fun hB=>?_);(try simp at hB);(try simp -implicitDefEqProofs))
 ((try simp at hs);(try simp -implicitDefEqProofs);repeat' first|(with_reducible apply A0<;>first|(simp only [eras,era,A1];first|with_reducible assumption)|(simp -implicitDefEqProofs)))
theorem A5j {a c:Int} {b d:Nat} (hac:Sm (a*c)) (ha:Sm a) (hc:Sm c) (hb:0<b) (hd:0<d) (hbd:b*d<b9):A8 Tryz.prog 153 [rV a b,rV c d] (rV (C5 (a*c) (b*d)) (C6 (a*c) (b*d))):=by
 have hbd0:0<b*d:=Nat.mul_pos hb hd
 have hb':b<b9:=Nat.lt_of_le_of_lt (Nat.le_mul_of_pos_right _ hd) hbd
 have hd':d<b9:=Nat.lt_of_le_of_lt (Nat.le_mul_of_pos_left _ hb) hbd
 have hr:=A3z hac hbd0 hbd
 have p1:=P7 a hb
 have p2:=P7 c hd
 have m1:=Vj a c ha.len hc.len
 have m2:=Vj b d (Sm.len (by unfold Sm;unfold b9 at hb';omega)) (Sm.len (by unfold Sm;unfold b9 at hd';omega))
 rw [←Int.natCast_mul] at m2
 generalize b*d=e at *
 generalize a*c=f at *
 generalize C5 f e=x at *
 generalize C6 f e=y at *
 simp only [iV9] at *
 unfold rV at *
 (refine A8.of_code mix Tryz.call153 k_153 (by simp) (fun hB=>?_);(try simp at hB);(try simp -implicitDefEqProofs))
 ((try simp at p1 p2 m1 m2 hr);(try simp -implicitDefEqProofs);repeat' first|(with_reducible apply A0<;>first|(simp only [eras,era,A1];first|with_reducible assumption)|(simp -implicitDefEqProofs)))
theorem A2q {a:Int} {b:Nat} (ha':a.natAbs≤1000000000000000000) (hb:0<b) (hbb:2*b<b9):A8 Tryz.prog 152 [rV a b] (iV b9 .u32 (rnd a b)):=by
 have ha:Sm (2*a):=by unfold Sm;omega
 have p1:=P7 a hb
 have s1:=I7 a
 have ha1:Sm a:=by unfold Sm at *;omega
 have hb1:Sm (b:Int):=by unfold Sm;unfold b9 at hbb;omega
 have n1:=A7f (b:Int)
 have o2:=Zn (n:=2) (by omega) (by omega)
 have m1:=Vj 2 a (Sm.len (by unfold Sm;omega)) ha1.len
 have m2:=Vj 2 b (Sm.len (by unfold Sm;omega)) hb1.len
 have e2:(2:Int)*(b:Int)=((2*b:Nat):Int):=by omega
 rw [e2] at m2
 have key : ∀h:Int,h=(if a<0 then -(b:Int) else b)→A8 Tryz.prog 180 [iV b9 .u32 (2*a),iV b9 .u32 h] (iV b9 .u32 (2*a+h)):=fun h hh=>by
  refine A5g _ _ (Sm.len (by exact ha)) (Sm.len (by rw [hh];unfold Sm at *;split<;>omega)) ?_
  rw [hh];by_cases h:a<0
  ·rw [if_pos h];simp [h];constructor<;>intro<;>omega
  ·rw [if_neg h];simp [h];omega
 have sg:Sm (2*a+(if a<0 then -(b:Int) else b)):=by unfold Sm at *;unfold b9 at hbb;split<;>omega
 have q:=Mb (2*a+(if a<0 then -(b:Int) else b)) ((2*b:Nat):Int) sg.len (by omega) (by rw [Int.natAbs_natCast];exact hbb)
 have eq:(2*a+(if a<0 then -(b:Int) else b)).tdiv ((2*b:Nat):Int)=rnd a b:=by rw [←Zk,←e2]
 rw [eq] at q
 have k1:=key _ rfl
 generalize hhv:(if a<0 then -(b:Int) else b)=hv at *
 generalize rnd a b=R at *
 generalize (2*a+hv).tmod ((2*b:Nat):Int)=m at *
 generalize 2*a+hv=u at *
 generalize 2*a=w at *
 generalize ((2*b:Nat):Int)=v at *
 by_cases h:a<0
 ·have s2:sgn a<0:=by unfold sgn;rw [if_pos h];omega
  rw [if_pos h] at hhv
  rw [hhv] at n1
  simp only [iV9] at *
  unfold rV at *
  (refine A8.of_code mix Tryz.call152 k_152 (by simp) (fun hB=>?_);(try simp at hB);(try simp -implicitDefEqProofs))
  ((try simp at p1 s1 n1 o2 m1 k1 m2 q);(try simp -implicitDefEqProofs [s2]);repeat' first|(with_reducible apply A0<;>first|(simp only [eras,era,A1];first|with_reducible assumption)|(simp -implicitDefEqProofs [s2])))
  repeat' with_reducible apply And.intro
  all_goals (try simp -implicitDefEqProofs)
 ·have s2 : ¬sgn a<0:=by unfold sgn;rw [if_neg h];split<;>omega
  rw [if_neg h] at hhv
  subst hhv
  simp only [iV9] at *
  unfold rV at *
  (refine A8.of_code mix Tryz.call152 k_152 (by simp) (fun hB=>?_);(try simp at hB);(try simp -implicitDefEqProofs))
  ((try simp at p1 s1 n1 o2 m1 k1 m2 q);(try simp -implicitDefEqProofs [s2]);repeat' first|(with_reducible apply A0<;>first|(simp only [eras,era,A1];first|with_reducible assumption)|(simp -implicitDefEqProofs [s2])))
  repeat' with_reducible apply And.intro
  all_goals (try simp -implicitDefEqProofs)
def I8 (n p:Int) (q:Nat):Int×Int:=if Ah n=true then if Ah (rnd (n*p) q)=true then (rnd (n*p) q,0) else (0,2) else (0,1)
theorem Zx (n:Int):A8 Tryz.prog 150 [vI n] (vB (Ah n)):=by
 unfold Ah
 (refine A8.of_code mix Tryz.call150 k_150 (by simp) (fun hB=>?_);(try simp at hB);(try simp -implicitDefEqProofs))
 ((try simp -implicitDefEqProofs);repeat' first|((with_reducible first|apply Ac|apply Ad|apply A5)<;>(intro hc;have hc':=hc;(try simp at hc');simp -implicitDefEqProofs [hc,hc'])))
theorem A2r {n:Int} (h:Ah n=true):n.natAbs≤1000000000000:=by
 unfold Ah at h;simp at h;omega
theorem A2s (n p:Int) (q:Nat) (hp:p.natAbs≤100000) (hq:0<q) (hqb:q≤100000):A8 Tryz.prog 115 [vI n,rV p q] (.tup [vI (I8 n p q).1,vI (I8 n p q).2]):=by
 have a1:=Zx n
 unfold I8
 cases hn:Ah n
 ·rw [hn] at a1
  unfold rV
  (refine A8.of_code mix Tryz.call115 k_115 (by simp) (fun hB=>?_);(try simp at hB);(try simp -implicitDefEqProofs))
  ((try simp at a1);(try simp -implicitDefEqProofs);repeat' first|(with_reducible apply A0<;>first|(simp only [eras,era,A1];first|with_reducible assumption)|(simp -implicitDefEqProofs)))
 ·rw [hn] at a1
  have hnb:=A2r hn
  have hmul:(n*p).natAbs≤100000000000000000:=by
   rw [Int.natAbs_mul]
   exact Nat.le_trans (Nat.mul_le_mul hnb hp) (by decide)
  have o:=Vl (n:=n) (d:=1) (by omega) (by omega) (by decide) (by decide)
  have e1:C5 n 1=n:=by unfold C5;rw [Nat.gcd_one_right];simp
  have e2:C6 n 1=1:=by unfold C6;simp
  rw [e1,e2] at o
  have m:=A5j (a:=n) (c:=p) (b:=1) (d:=q) (by unfold Sm;omega) (by unfold Sm;omega) (by unfold Sm;omega) (by decide) hq (by unfold b9;omega)
  rw [Nat.one_mul] at m
  have hl1:=Vf (a:=n*p) hq
  have hl2:=Zj (a:=n*p) (q:=q)
  have hl3:=Ve (a:=n*p) hq
  have r:=A2q (a:=C5 (n*p) q) (b:=C6 (n*p) q) (by omega) hl3 (by unfold b9;omega)
  rw [A2a hq] at r
  have hrb:=A2b (a:=n*p) hq
  have sm:=A2l (rnd (n*p) q) (by omega) (by omega)
  have a2:=Zx (rnd (n*p) q)
  generalize C5 (n*p) q=x at *
  generalize C6 (n*p) q=y at *
  generalize rnd (n*p) q=z at *
  simp only [iV9] at *
  unfold rV at *
  cases hz:Ah z
  ·rw [hz] at a2
   (refine A8.of_code mix Tryz.call115 k_115 (by simp) (fun hB=>?_);(try simp at hB);(try simp -implicitDefEqProofs))
   ((try simp at a1 a2 o m r sm);(try simp -implicitDefEqProofs);repeat' first|(with_reducible apply A0<;>first|(simp only [eras,era,A1];first|with_reducible assumption)|(simp -implicitDefEqProofs)))
  ·rw [hz] at a2
   (refine A8.of_code mix Tryz.call115 k_115 (by simp) (fun hB=>?_);(try simp at hB);(try simp -implicitDefEqProofs))
   ((try simp at a1 a2 o m r sm);(try simp -implicitDefEqProofs);repeat' first|(with_reducible apply A0<;>first|(simp only [eras,era,A1];first|with_reducible assumption)|(simp -implicitDefEqProofs)))
end Go.Proofs.YtmlpmdccfmmpoaaGreatDoor
