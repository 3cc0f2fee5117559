/- Walks of chapter 34: the numbers of an instruction. -/
import Derived.Test.YtmlpmdccfmmpoaaGreatDoorOp
import Derived.Test.YtmlpmdccfmmpoaaGreatDoorCodeB
set_option linter.unusedSimpArgs false
set_option linter.unusedVariables false
set_option maxHeartbeats 1000000
set_option maxRecDepth 8000
namespace Go.Proofs.YtmlpmdccfmmpoaaGreatDoor
open E

def Jj (n:Int):Bool:=decide (1≤n)&&decide (n≤99999)
def D8 (x:Ins) (pair:Bool) (st:Int):Bool:=
 if x.op=1 then Aj x.a&&(x.b==0)
 else if x.op=2 then decide (0≤x.a)&&decide (x.a<st)&&(x.b==0)
 else if x.op=3∨x.op=4 then Jj x.a&&Jj x.b&&decide (x.a≤x.b)&&((x.op==3)||pair)
 else if x.op=9 then decide (1≤x.a)&&Aj x.a&&(x.b==0)
 else if x.op=23 then (x.a==st)&&(x.b==0)
 else if x.op=25∨x.op=26 then Jj x.a&&(x.b==0)
 else (x.a==0)&&(x.b==0)

theorem A3m (n:Int):A7 Tryz.prog 173 [vI n] (vB (Jj n)):=by
 unfold Jj
 (refine A7.of_code mix Tryz.call173 k_173 (by simp) (fun hB=>?_);(try simp at hB);(try simp -implicitDefEqProofs))
 ((try simp -implicitDefEqProofs);repeat' first|((with_reducible first|apply A5|apply A6|apply A3)<;>(intro hc;have hc':=hc;(try simp at hc');simp -implicitDefEqProofs [hc,hc'])))
theorem A77 (x:Ins) (c:Code) (st:Int):A7 Tryz.prog 141 [x.v,c.v,vI st] (vB (D8 x c.pair st)):=by
 obtain⟨op,a,b⟩:=x
 obtain⟨nm,pair,ins⟩:=c
 unfold D8
 (refine A7.of_code mix Tryz.call141 k_141 (by simp) (fun hB=>?_);(try simp at hB);(try simp -implicitDefEqProofs))
 ((try simp -implicitDefEqProofs);repeat' first|((with_reducible first|apply A5|apply A6|apply A3)<;>(intro hc;have hc':=hc;(try simp at hc');simp -implicitDefEqProofs [hc,hc']))|(with_reducible apply A0<;>first|(simp only [eras,era,A1];first|with_reducible exact (G4 _)|with_reducible exact (A3m _)|simpa using (G4 _)|simpa using (A3m _))|(simp -implicitDefEqProofs)))

def A29 (op:Int):List UInt8×Int×Int×Int:=Zd.getD op.toNat ([],0,0,0)
def tk (op:Int):Int:=(A29 op).2.1
def pt (op:Int):Int:=(A29 op).2.2.1
def us (op:Int):Int:=(A29 op).2.2.2
def nm (op:Int):List UInt8:=(A29 op).1

theorem tab_row {n:Nat} (h:n≤26):((Iu.map V.t).drop (n*4)).take 4=[vS (nm n),vI (tk n),vI (pt n),vI (us n)]:=by
 rcases (by omega:n=0∨n=1∨n=2∨n=3∨n=4∨n=5∨n=6∨n=7∨n=8∨n=9∨n=10∨n=11∨n=12∨n=13∨n=14∨n=15∨n=16∨n=17∨n=18∨n=19∨n=20∨n=21∨n=22∨n=23∨n=24∨n=25∨n=26) with rfl|rfl|rfl|rfl|rfl|rfl|rfl|rfl|rfl|rfl|rfl|rfl|rfl|rfl|rfl|rfl|rfl|rfl|rfl|rfl|rfl|rfl|rfl|rfl|rfl|rfl|rfl<;>rfl
theorem Uz:Iu.length=108:=by rfl

def Eg (len:Nat) (pair:Bool) (i:Nat) (x:Ins) (st:Int):Bool:=
 decide (x.op<1)||decide (26<x.op)||(decide (x.op=26) != decide (i+1=len)) || !D8 x pair st
def Cz (op dep:Int):Bool:=decide (dep<tk op)||(decide (pt op=0)&&decide (dep≠tk op))
def Cm (len:Nat) (pair:Bool) (i:Nat) (x:Ins) (s:Int×Int×Int):Option (Int×Int×Int):=
 if Eg len pair i x s.2.2=true then none else if Cz x.op s.2.1=true then none
 else some (max s.1 (s.2.1+(pt x.op-tk x.op)),s.2.1+(pt x.op-tk x.op),if x.op=23 then s.2.2+1 else s.2.2)
def Bu (c:Code):Nat→Option (Int×Int×Int)
 | 0=>some (0,0,0)
 | k+1=>match Bu c k,c.ins[k]? with
  | some s,some x=>Cm c.ins.length c.pair k x s
  | _,_=>none
def Bo (c:Code):Int×Bool:=if c.ins=[] then (0,false) else match Bu c c.ins.length with
 | some s=>(s.1,true)
 | none=>(0,false)

theorem Jk {c:Code} {k:Nat} (h:Bu c k=none) : ∀m,Bu c (k+m)=none
 | 0=>h
 | m+1=>by rw [←Nat.add_assoc];simp only [Bu,Jk h m]
theorem H6 {c:Code} {k:Nat} {s:Int×Int×Int} {x:Ins} (h:Bu c k=some s) (hx:c.ins[k]?=some x):Bu c (k+1)=Cm c.ins.length c.pair k x s:=by simp only [Bu,h,hx]
theorem M4 {c:Code} {k:Nat} {s:Int×Int×Int} {x:Ins} (h:Bu c k=some s) (hx:c.ins[k]?=some x) (hf:Cm c.ins.length c.pair k x s=none):Bo c=(0,false):=by
 have hk:=Ab hx
 have h1:=Jk ((H6 h hx).trans hf) (c.ins.length-(k+1))
 rw [show k+1+(c.ins.length-(k+1))=c.ins.length from by omega] at h1
 unfold Bo
 rw [h1]
 split<;>rfl

theorem M5 {n:Nat} (h:n≤26):0≤pt n∧pt n≤1∧0≤tk n∧tk n≤2:=by
 rcases (by omega:n=0∨n=1∨n=2∨n=3∨n=4∨n=5∨n=6∨n=7∨n=8∨n=9∨n=10∨n=11∨n=12∨n=13∨n=14∨n=15∨n=16∨n=17∨n=18∨n=19∨n=20∨n=21∨n=22∨n=23∨n=24∨n=25∨n=26) with rfl|rfl|rfl|rfl|rfl|rfl|rfl|rfl|rfl|rfl|rfl|rfl|rfl|rfl|rfl|rfl|rfl|rfl|rfl|rfl|rfl|rfl|rfl|rfl|rfl|rfl|rfl<;>decide

theorem Oo {len:Nat} {pair:Bool} {i:Nat} {x:Ins} {s s':Int×Int×Int} (h:Cm len pair i x s=some s'):1≤x.op∧x.op≤26∧tk x.op≤s.2.1∧s'=(max s.1 (s.2.1+(pt x.op-tk x.op)),s.2.1+(pt x.op-tk x.op),if x.op=23 then s.2.2+1 else s.2.2):=by
 unfold Cm at h
 split at h
 ·cases h
 split at h
 ·cases h
 rename_i h1 h2
 simp only [Eg,Cz,Bool.or_eq_true,decide_eq_true_eq,not_or,Int.not_lt] at h1 h2
 exact⟨by omega,by omega,h2.1,(Option.some.inj h).symm⟩

theorem Oq {c:Code} : ∀{k:Nat} {s:Int×Int×Int},Bu c k=some s→0≤s.1∧s.1≤k∧0≤s.2.1∧s.2.1≤k∧0≤s.2.2∧s.2.2≤k
 | 0,s,h=>by cases h;simp
 | k+1,s,h=>by
  simp only [Bu] at h
  split at h
  ·rename_i s0 x h1 h2
   have ih:=Oq h1
   obtain⟨h3,h4,h5,rfl⟩:=Oo h
   obtain⟨n,hn⟩ : ∃n:Nat,x.op=n:=⟨x.op.toNat,by omega⟩
   rw [hn] at h5 ⊢
   have h6:=M5 (n:=n) (by omega)
   simp only []
   refine⟨by omega,by push_cast;omega,by omega,by push_cast;omega,?_,?_⟩<;>split<;>push_cast<;>omega
  ·cases h

theorem A3n (c:Code) (hlen:c.ins.length≤1000000):A7 Tryz.prog 102 [c.v] (vO (Bo c)):=by
 obtain⟨cn,pair,ins⟩:=c
 simp only [] at hlen
 have htab:=A3l
 have hrow : ∀n:Nat,n≤26→((Iu.map V.t).drop (n*4)).take 4=[vS (nm n),vI (tk n),vI (pt n),vI (us n)]:=fun n h=>tab_row h
 have htl:(Iu.map V.t).length=108:=by rw [List.length_map];exact Uz
 have htt : ∀x∈Iu.map V.t,∃y,x=V.t y:=fun x hx=>by obtain⟨y,_,rfl⟩:=List.mem_map.1 hx;exact⟨y,rfl⟩
 have hok : ∀n m,okNs n m (Iu.map V.t)=true:=fun n m=>Dq n m _
 generalize hM:(⟨cn,pair,ins⟩:Code)=c0
 have hci:c0.ins=ins:=by rw [←hM]
 have hcp:c0.pair=pair:=by rw [←hM]
 rcases Nat.eq_zero_or_pos ins.length with h0|h0
 ·have h1:ins=[]:=List.eq_nil_of_length_eq_zero h0
  have h2:Bo c0=(0,false):=by unfold Bo;rw [hci,h1];rfl
  rw [h2,←hM,h1]
  (refine A7.of_code mix Tryz.call102 k_102 (by simp) (fun hB=>?_);(try simp at hB);(try simp -implicitDefEqProofs [vO]))
  (try simp -implicitDefEqProofs [vO])
 have h0b:((ins.length:Int)==0)=false:=by simp;exact fun h=>by simp [h] at h0
 generalize hR:vO (Bo c0)=R
 rw [←hM]
 (refine A7.of_code mix Tryz.call102 k_102 (by simp) (fun hB=>?_);(try simp at hB);(try simp -implicitDefEqProofs))
 generalize Iu.map V.t=TB at *
 ((try simp at htab);(try simp -implicitDefEqProofs [h0b]);repeat' first|(with_reducible apply A0<;>first|(simp only [eras,era,A1];first|with_reducible assumption)|(simp -implicitDefEqProofs [h0b])))
 refine⟨⟨htl,fun x hx=>by obtain⟨y,rfl⟩:=htt x hx;rfl⟩,?_⟩
 refine Ac (X:=Nat×Int×Int×Int) (fun X=>X.1≤ins.length∧Bu c0 X.1=some X.2)
  (fun X=>[(1,.ptr 0 0),(4,vI X.2.1),(5,vI X.2.2.1),(6,vI X.2.2.2),(7,.ptr 1 0),(17,Ins.l ins),(18,vI ins.length),(19,vI X.1)])
  (fun _=>⟨[.cells [vS cn,vB pair,Ins.l ins],.cells TB],[]⟩) (fun X=>ins.length-X.1) (0,0,0,0) ⟨by simp,rfl⟩ ?hs ?_
 case hs=>simp [htl];exact hok 2 0
 rintro ⟨k,sz,d,st⟩ ⟨hk,hr⟩ hbd
 simp only [] at hk hr
 have hbds:=Oq hr
 simp only [] at hbds
 rcases Nat.lt_or_ge k ins.length with h|h
 ·have hx:ins[k]?=some ins[k]:=by simp [h]
  have h' : ¬ins.length≤k:=by omega
  have e3:IntKind.i64.wrap ((k:Int)+1)=(k:Int)+1:=wrap64 (by omega) (by omega)
  have e5:IntKind.i64.wrap ((ins.length:Int)-1)=(ins.length:Int)-1:=wrap64 (by omega) (by omega)
  have hnum:=A77 ins[k] ⟨cn,pair,ins⟩ st
  have hfail:Eg ins.length pair k ins[k] st=true→R=vO (0,false):=fun hb=>by
   rw [←hR,M4 hr (by rw [hci];exact hx) (by unfold Cm;rw [hci,hcp,if_pos hb])]
  rcases (by omega:ins[k].op<1∨1≤ins[k].op) with b1|b1
  ·rw [hfail (by simp [Eg,b1])]
   ((try simp at hnum);(try simp -implicitDefEqProofs [vO,h,h',e5,b1]);repeat' first|(with_reducible apply A0<;>first|(simp only [eras,era,A1];first|with_reducible assumption)|(simp -implicitDefEqProofs [vO,h,h',e5,b1])))
  have b1' : ¬ins[k].op<1:=by omega
  rcases (by omega:26<ins[k].op∨ins[k].op≤26) with b2|b2
  ·rw [hfail (by simp [Eg,b2])]
   ((try simp at hnum);(try simp -implicitDefEqProofs [vO,h,h',e5,b1',b2]);repeat' first|(with_reducible apply A0<;>first|(simp only [eras,era,A1];first|with_reducible assumption)|(simp -implicitDefEqProofs [vO,h,h',e5,b1',b2])))
  have b2' : ¬26<ins[k].op:=by omega
  obtain⟨n,hn⟩ : ∃n:Nat,ins[k].op=n:=⟨ins[k].op.toNat,by omega⟩
  have b1n : ¬(n:Int)<1:=by omega
  have b2n : ¬(26:Int)<n:=by omega
  have agree : ∀u v:Bool,decide (ins[k].op=26)=u→decide (k+1=ins.length)=v→((ins[k].op==26)=u∧((k:Int)==(ins.length:Int)-1)=v):=by
   rintro u v rfl rfl
   refine⟨by rw [←Bool.beq_eq_decide_eq],?_⟩
   rw [Bool.eq_iff_iff]
   simp
   omega
  have hrn:=hrow n (by omega)
  have hpk:=M5 (n:=n) (by omega)
  have hfail2:Cz n d=true→R=vO (0,false):=fun hb=>by
   rw [←hR,M4 hr (by rw [hci];exact hx) (by unfold Cm;rw [hn,if_pos hb];split<;>rfl)]
  have hgo:Eg ins.length pair k ins[k] st=false→Cz n d=false→Bu c0 (k+1)=some (max sz (d+(pt n-tk n)),d+(pt n-tk n),if (n:Int)=23 then st+1 else st):=fun g1 g2=>by
   rw [H6 hr (by rw [hci];exact hx)]
   unfold Cm
   rw [hci,hcp,hn,if_neg (by simp [g1]),if_neg (by simp [g2])]
  have e6:IntKind.i64.wrap (pt n-tk n)=pt n-tk n:=wrap64 (by omega) (by omega)
  have e7:IntKind.i64.wrap (d+(pt n-tk n))=d+(pt n-tk n):=wrap64 (by omega) (by omega)
  have e8:IntKind.i64.wrap (st+1)=st+1:=wrap64 (by omega) (by omega)
  cases hu:decide (ins[k].op=26)<;>cases hv:decide (k+1=ins.length)<;>obtain⟨f1,f2⟩:=agree _ _ hu hv
  ·cases hnv:D8 ins[k] pair st
   ·rw [hfail (by simp only [Eg,hu,hv,hnv];simp)]
    simp only [hnv] at hnum
    ((try simp at hnum);(try simp -implicitDefEqProofs [vO,h,h',e5,b1',b2',f1,f2]);repeat' first|(with_reducible apply A0<;>first|(simp only [eras,era,A1];first|with_reducible assumption)|(simp -implicitDefEqProofs [vO,h,h',e5,b1',b2',f1,f2])))
   simp only [hnv] at hnum
   have hb:Eg ins.length pair k ins[k] st=false:=by simp only [Eg,hu,hv,hnv];simp;omega
   simp [hn] at hnum
   rw [hn] at f1
   rcases (by omega:d<tk n∨tk n≤d) with d1|d1
   ·rw [hfail2 (by simp [Cz,d1])]
    ((try simp at hnum);(try simp -implicitDefEqProofs [vO,h,h',e5,b1n,b2n,hn,hrn,f1,f2,d1]);repeat' first|(with_reducible apply A0<;>first|(simp only [eras,era,A1];first|with_reducible assumption)|(simp -implicitDefEqProofs [vO,h,h',e5,b1n,b2n,hn,hrn,f1,f2,d1])))
    all_goals exact⟨by omega,by omega⟩
   have d1' : ¬d<tk n:=by omega
   have q1:((pt n==0)=true∧(d != tk n)=true)∨(pt n==0)=false∨((pt n==0)=true∧(d != tk n)=false):=by
    cases (pt n==0)<;>cases (d != tk n)<;>simp
   rcases q1 with ⟨q1,q2⟩|q1|⟨q1,q2⟩
   ·rw [hfail2 (by simp at q1 q2;simp [Cz,q1,q2])]
    ((try simp at hnum);(try simp -implicitDefEqProofs [vO,h,h',e5,b1n,b2n,hn,hrn,f1,f2,d1',q1,q2]);repeat' first|(with_reducible apply A0<;>first|(simp only [eras,era,A1];first|with_reducible assumption)|(simp -implicitDefEqProofs [vO,h,h',e5,b1n,b2n,hn,hrn,f1,f2,d1',q1,q2])))
    all_goals exact⟨by omega,by omega⟩
   ·have hg:=hgo hb (by first|(simp at q1 q2;simp [Cz,d1,q1,q2];done)|(simp at q1;simp [Cz,d1,q1]))
    rcases Int.decEq n 23 with n1|n1
    ·have n2:((n:Int)==23)=false:=by simpa using n1
     rw [if_neg n1] at hg
     ((try simp at hnum);(try simp -implicitDefEqProofs [h,h',e3,e5,e6,e7,b1n,b2n,hn,hrn,f1,f2,d1',q1,n2]);repeat' first|(with_reducible apply A0<;>first|(simp only [eras,era,A1];first|with_reducible assumption)|(simp -implicitDefEqProofs [h,h',e3,e5,e6,e7,b1n,b2n,hn,hrn,f1,f2,d1',q1,n2])))
     all_goals exact⟨by omega,by omega,k+1,_,_,_,⟨by omega,hg⟩,by omega,hok 2 0,rfl,rfl,rfl,by push_cast;rfl⟩
    ·have n2:((n:Int)==23)=true:=by simpa using n1
     rw [if_pos n1] at hg
     ((try simp at hnum);(try simp -implicitDefEqProofs [h,h',e3,e5,e6,e7,e8,b1n,b2n,hn,hrn,f1,f2,d1',q1,n2]);repeat' first|(with_reducible apply A0<;>first|(simp only [eras,era,A1];first|with_reducible assumption)|(simp -implicitDefEqProofs [h,h',e3,e5,e6,e7,e8,b1n,b2n,hn,hrn,f1,f2,d1',q1,n2])))
     all_goals exact⟨by omega,by omega,k+1,_,_,_,⟨by omega,hg⟩,by omega,hok 2 0,rfl,rfl,rfl,by push_cast;rfl⟩
   ·have hg:=hgo hb (by first|(simp at q1 q2;simp [Cz,d1,q1,q2];done)|(simp at q1;simp [Cz,d1,q1]))
    rcases Int.decEq n 23 with n1|n1
    ·have n2:((n:Int)==23)=false:=by simpa using n1
     rw [if_neg n1] at hg
     ((try simp at hnum);(try simp -implicitDefEqProofs [h,h',e3,e5,e6,e7,b1n,b2n,hn,hrn,f1,f2,d1',q1,n2,q2]);repeat' first|(with_reducible apply A0<;>first|(simp only [eras,era,A1];first|with_reducible assumption)|(simp -implicitDefEqProofs [h,h',e3,e5,e6,e7,b1n,b2n,hn,hrn,f1,f2,d1',q1,n2,q2])))
     all_goals exact⟨by omega,by omega,k+1,_,_,_,⟨by omega,hg⟩,by omega,hok 2 0,rfl,rfl,rfl,by push_cast;rfl⟩
    ·have n2:((n:Int)==23)=true:=by simpa using n1
     rw [if_pos n1] at hg
     ((try simp at hnum);(try simp -implicitDefEqProofs [h,h',e3,e5,e6,e7,e8,b1n,b2n,hn,hrn,f1,f2,d1',q1,n2,q2]);repeat' first|(with_reducible apply A0<;>first|(simp only [eras,era,A1];first|with_reducible assumption)|(simp -implicitDefEqProofs [h,h',e3,e5,e6,e7,e8,b1n,b2n,hn,hrn,f1,f2,d1',q1,n2,q2])))
     all_goals exact⟨by omega,by omega,k+1,_,_,_,⟨by omega,hg⟩,by omega,hok 2 0,rfl,rfl,rfl,by push_cast;rfl⟩
  ·rw [hfail (by simp only [Eg,hu,hv];simp)]
   ((try simp at hnum);(try simp -implicitDefEqProofs [vO,h,h',e5,b1',b2',f1,f2]);repeat' first|(with_reducible apply A0<;>first|(simp only [eras,era,A1];first|with_reducible assumption)|(simp -implicitDefEqProofs [vO,h,h',e5,b1',b2',f1,f2])))
  ·rw [hfail (by simp only [Eg,hu,hv];simp)]
   ((try simp at hnum);(try simp -implicitDefEqProofs [vO,h,h',e5,b1',b2',f1,f2]);repeat' first|(with_reducible apply A0<;>first|(simp only [eras,era,A1];first|with_reducible assumption)|(simp -implicitDefEqProofs [vO,h,h',e5,b1',b2',f1,f2])))
  ·cases hnv:D8 ins[k] pair st
   ·rw [hfail (by simp only [Eg,hu,hv,hnv];simp)]
    simp only [hnv] at hnum
    ((try simp at hnum);(try simp -implicitDefEqProofs [vO,h,h',e5,b1',b2',f1,f2]);repeat' first|(with_reducible apply A0<;>first|(simp only [eras,era,A1];first|with_reducible assumption)|(simp -implicitDefEqProofs [vO,h,h',e5,b1',b2',f1,f2])))
   simp only [hnv] at hnum
   have hb:Eg ins.length pair k ins[k] st=false:=by simp only [Eg,hu,hv,hnv];simp;omega
   simp [hn] at hnum
   rw [hn] at f1
   rcases (by omega:d<tk n∨tk n≤d) with d1|d1
   ·rw [hfail2 (by simp [Cz,d1])]
    ((try simp at hnum);(try simp -implicitDefEqProofs [vO,h,h',e5,b1n,b2n,hn,hrn,f1,f2,d1]);repeat' first|(with_reducible apply A0<;>first|(simp only [eras,era,A1];first|with_reducible assumption)|(simp -implicitDefEqProofs [vO,h,h',e5,b1n,b2n,hn,hrn,f1,f2,d1])))
    all_goals exact⟨by omega,by omega⟩
   have d1' : ¬d<tk n:=by omega
   have q1:((pt n==0)=true∧(d != tk n)=true)∨(pt n==0)=false∨((pt n==0)=true∧(d != tk n)=false):=by
    cases (pt n==0)<;>cases (d != tk n)<;>simp
   rcases q1 with ⟨q1,q2⟩|q1|⟨q1,q2⟩
   ·rw [hfail2 (by simp at q1 q2;simp [Cz,q1,q2])]
    ((try simp at hnum);(try simp -implicitDefEqProofs [vO,h,h',e5,b1n,b2n,hn,hrn,f1,f2,d1',q1,q2]);repeat' first|(with_reducible apply A0<;>first|(simp only [eras,era,A1];first|with_reducible assumption)|(simp -implicitDefEqProofs [vO,h,h',e5,b1n,b2n,hn,hrn,f1,f2,d1',q1,q2])))
    all_goals exact⟨by omega,by omega⟩
   ·have hg:=hgo hb (by first|(simp at q1 q2;simp [Cz,d1,q1,q2];done)|(simp at q1;simp [Cz,d1,q1]))
    rcases Int.decEq n 23 with n1|n1
    ·have n2:((n:Int)==23)=false:=by simpa using n1
     rw [if_neg n1] at hg
     ((try simp at hnum);(try simp -implicitDefEqProofs [h,h',e3,e5,e6,e7,b1n,b2n,hn,hrn,f1,f2,d1',q1,n2]);repeat' first|(with_reducible apply A0<;>first|(simp only [eras,era,A1];first|with_reducible assumption)|(simp -implicitDefEqProofs [h,h',e3,e5,e6,e7,b1n,b2n,hn,hrn,f1,f2,d1',q1,n2])))
     all_goals exact⟨by omega,by omega,k+1,_,_,_,⟨by omega,hg⟩,by omega,hok 2 0,rfl,rfl,rfl,by push_cast;rfl⟩
    ·have n2:((n:Int)==23)=true:=by simpa using n1
     rw [if_pos n1] at hg
     ((try simp at hnum);(try simp -implicitDefEqProofs [h,h',e3,e5,e6,e7,e8,b1n,b2n,hn,hrn,f1,f2,d1',q1,n2]);repeat' first|(with_reducible apply A0<;>first|(simp only [eras,era,A1];first|with_reducible assumption)|(simp -implicitDefEqProofs [h,h',e3,e5,e6,e7,e8,b1n,b2n,hn,hrn,f1,f2,d1',q1,n2])))
     all_goals exact⟨by omega,by omega,k+1,_,_,_,⟨by omega,hg⟩,by omega,hok 2 0,rfl,rfl,rfl,by push_cast;rfl⟩
   ·have hg:=hgo hb (by first|(simp at q1 q2;simp [Cz,d1,q1,q2];done)|(simp at q1;simp [Cz,d1,q1]))
    rcases Int.decEq n 23 with n1|n1
    ·have n2:((n:Int)==23)=false:=by simpa using n1
     rw [if_neg n1] at hg
     ((try simp at hnum);(try simp -implicitDefEqProofs [h,h',e3,e5,e6,e7,b1n,b2n,hn,hrn,f1,f2,d1',q1,n2,q2]);repeat' first|(with_reducible apply A0<;>first|(simp only [eras,era,A1];first|with_reducible assumption)|(simp -implicitDefEqProofs [h,h',e3,e5,e6,e7,b1n,b2n,hn,hrn,f1,f2,d1',q1,n2,q2])))
     all_goals exact⟨by omega,by omega,k+1,_,_,_,⟨by omega,hg⟩,by omega,hok 2 0,rfl,rfl,rfl,by push_cast;rfl⟩
    ·have n2:((n:Int)==23)=true:=by simpa using n1
     rw [if_pos n1] at hg
     ((try simp at hnum);(try simp -implicitDefEqProofs [h,h',e3,e5,e6,e7,e8,b1n,b2n,hn,hrn,f1,f2,d1',q1,n2,q2]);repeat' first|(with_reducible apply A0<;>first|(simp only [eras,era,A1];first|with_reducible assumption)|(simp -implicitDefEqProofs [h,h',e3,e5,e6,e7,e8,b1n,b2n,hn,hrn,f1,f2,d1',q1,n2,q2])))
     all_goals exact⟨by omega,by omega,k+1,_,_,_,⟨by omega,hg⟩,by omega,hok 2 0,rfl,rfl,rfl,by push_cast;rfl⟩
 ·have:k=ins.length:=by omega
  subst this
  have hm:Bo c0=(sz,true):=by
   unfold Bo
   rw [hci,hr,if_neg (by intro h1;simp [h1] at h0)]
  rw [hm] at hR
  subst hR
  (try simp -implicitDefEqProofs [vO])
end Go.Proofs.YtmlpmdccfmmpoaaGreatDoor
