/- Walks of chapter 34: the numbers of an instruction. -/
import Derived.Test.YtmlpmdccfmmpoaaGreatOp
import Derived.Test.YtmlpmdccfmmpoaaGreatCodeB
set_option linter.unusedSimpArgs false
set_option linter.unusedVariables false
set_option maxHeartbeats 1000000
set_option maxRecDepth 8000
namespace Go.Proofs.YtmlpmdccfmmpoaaGreat
open E

def O6 (n:Int):Bool:=decide (1≤n)&&decide (n≤99999)
def Ir (x:Ins) (pair:Bool) (st:Int):Bool:=
 if x.op=1 then Ah x.a&&(x.b==0)
 else if x.op=2 then decide (0≤x.a)&&decide (x.a<st)&&(x.b==0)
 else if x.op=3∨x.op=4 then O6 x.a&&O6 x.b&&decide (x.a≤x.b)&&((x.op==3)||pair)
 else if x.op=9 then decide (1≤x.a)&&Ah x.a&&(x.b==0)
 else if x.op=23 then (x.a==st)&&(x.b==0)
 else if x.op=25∨x.op=26 then O6 x.a&&(x.b==0)
 else (x.a==0)&&(x.b==0)

theorem Vs (n:Int):A7 Tryz.prog 88 [vI n] (vB (O6 n)):=by
 unfold O6
 (refine A7.of_code mix Tryz.call88 k_88 (by simp) (fun hB=>?_);(try simp at hB);(try simp -implicitDefEqProofs))
 ((try simp -implicitDefEqProofs);repeat' first|((with_reducible first|apply Af|apply Ag|apply A8)<;>(intro hc;have hc':=hc;(try simp at hc');simp -implicitDefEqProofs [hc,hc'])))
theorem Yj (x:Ins) (c:Code) (st:Int):A7 Tryz.prog 66 [x.v,c.v,vI st] (vB (Ir x c.pair st)):=by
 obtain⟨op,a,b⟩:=x
 obtain⟨nm,pair,ins⟩:=c
 unfold Ir
 (refine A7.of_code mix Tryz.call66 k_66 (by simp) (fun hB=>?_);(try simp at hB);(try simp -implicitDefEqProofs))
 ((try simp -implicitDefEqProofs);repeat' first|((with_reducible first|apply Af|apply Ag|apply A8)<;>(intro hc;have hc':=hc;(try simp at hc');simp -implicitDefEqProofs [hc,hc']))|(with_reducible apply A0<;>first|(simp only [eras,era,A1];first|with_reducible exact (Eb _)|with_reducible exact (Vs _)|simpa using (Eb _)|simpa using (Vs _))|(simp -implicitDefEqProofs)))

def Up (op:Int):List UInt8×Int×Int×Int:=Sk.getD op.toNat ([],0,0,0)
def tk (op:Int):Int:=(Up op).2.1
def pt (op:Int):Int:=(Up op).2.2.1
def us (op:Int):Int:=(Up op).2.2.2
def nm (op:Int):List UInt8:=(Up op).1

theorem tab_row {n:Nat} (h:n≤26):((Ks.map V.t).drop (n*4)).take 4=[vS (nm n),vI (tk n),vI (pt n),vI (us n)]:=by
 rcases (by omega:n=0∨n=1∨n=2∨n=3∨n=4∨n=5∨n=6∨n=7∨n=8∨n=9∨n=10∨n=11∨n=12∨n=13∨n=14∨n=15∨n=16∨n=17∨n=18∨n=19∨n=20∨n=21∨n=22∨n=23∨n=24∨n=25∨n=26) with rfl|rfl|rfl|rfl|rfl|rfl|rfl|rfl|rfl|rfl|rfl|rfl|rfl|rfl|rfl|rfl|rfl|rfl|rfl|rfl|rfl|rfl|rfl|rfl|rfl|rfl|rfl<;>rfl
theorem Uq:Ks.length=108:=by rfl

def Fa (len:Nat) (pair:Bool) (i:Nat) (x:Ins) (st:Int):Bool:=
 decide (x.op<1)||decide (26<x.op)||(decide (x.op=26) != decide (i+1=len)) || !Ir x pair st
def Dm (op dep:Int):Bool:=decide (dep<tk op)||(decide (pt op=0)&&decide (dep≠tk op))
def El (len:Nat) (pair:Bool) (i:Nat) (x:Ins) (s:Int×Int×Int):Option (Int×Int×Int):=
 if Fa len pair i x s.2.2=true then none else if Dm x.op s.2.1=true then none
 else some (max s.1 (s.2.1+(pt x.op-tk x.op)),s.2.1+(pt x.op-tk x.op),if x.op=23 then s.2.2+1 else s.2.2)
def Cb (c:Code):Nat→Option (Int×Int×Int)
 | 0=>some (0,0,0)
 | k+1=>match Cb c k,c.ins[k]? with
  | some s,some x=>El c.ins.length c.pair k x s
  | _,_=>none
def Cc (c:Code):Int×Bool:=if c.ins=[] then (0,false) else match Cb c c.ins.length with
 | some s=>(s.1,true)
 | none=>(0,false)

theorem Jw {c:Code} {k:Nat} (h:Cb c k=none) : ∀m,Cb c (k+m)=none
 | 0=>h
 | m+1=>by rw [←Nat.add_assoc];simp only [Cb,Jw h m]
theorem Gs {c:Code} {k:Nat} {s:Int×Int×Int} {x:Ins} (h:Cb c k=some s) (hx:c.ins[k]?=some x):Cb c (k+1)=El c.ins.length c.pair k x s:=by simp only [Cb,h,hx]
theorem Is {c:Code} {k:Nat} {s:Int×Int×Int} {x:Ins} (h:Cb c k=some s) (hx:c.ins[k]?=some x) (hf:El c.ins.length c.pair k x s=none):Cc c=(0,false):=by
 have hk:=A5 hx
 have h1:=Jw ((Gs h hx).trans hf) (c.ins.length-(k+1))
 rw [show k+1+(c.ins.length-(k+1))=c.ins.length from by omega] at h1
 unfold Cc
 rw [h1]
 split<;>rfl

theorem Vt {n:Nat} (h:n≤26):0≤pt n∧pt n≤1∧0≤tk n∧tk n≤2:=by
 rcases (by omega:n=0∨n=1∨n=2∨n=3∨n=4∨n=5∨n=6∨n=7∨n=8∨n=9∨n=10∨n=11∨n=12∨n=13∨n=14∨n=15∨n=16∨n=17∨n=18∨n=19∨n=20∨n=21∨n=22∨n=23∨n=24∨n=25∨n=26) with rfl|rfl|rfl|rfl|rfl|rfl|rfl|rfl|rfl|rfl|rfl|rfl|rfl|rfl|rfl|rfl|rfl|rfl|rfl|rfl|rfl|rfl|rfl|rfl|rfl|rfl|rfl<;>decide

theorem P4 {len:Nat} {pair:Bool} {i:Nat} {x:Ins} {s s':Int×Int×Int} (h:El len pair i x s=some s'):1≤x.op∧x.op≤26∧tk x.op≤s.2.1∧s'=(max s.1 (s.2.1+(pt x.op-tk x.op)),s.2.1+(pt x.op-tk x.op),if x.op=23 then s.2.2+1 else s.2.2):=by
 unfold El at h
 split at h
 ·cases h
 split at h
 ·cases h
 rename_i h1 h2
 simp only [Fa,Dm,Bool.or_eq_true,decide_eq_true_eq,not_or,Int.not_lt] at h1 h2
 exact⟨by omega,by omega,h2.1,(Option.some.inj h).symm⟩

theorem Kt {c:Code} : ∀{k:Nat} {s:Int×Int×Int},Cb c k=some s→0≤s.1∧s.1≤k∧0≤s.2.1∧s.2.1≤k∧0≤s.2.2∧s.2.2≤k
 | 0,s,h=>by cases h;simp
 | k+1,s,h=>by
  simp only [Cb] at h
  split at h
  ·rename_i s0 x h1 h2
   have ih:=Kt h1
   obtain⟨h3,h4,h5,rfl⟩:=P4 h
   obtain⟨n,hn⟩ : ∃n:Nat,x.op=n:=⟨x.op.toNat,by omega⟩
   rw [hn] at h5 ⊢
   have h6:=Vt (n:=n) (by omega)
   simp only []
   refine⟨by omega,by push_cast;omega,by omega,by push_cast;omega,?_,?_⟩<;>split<;>push_cast<;>omega
  ·cases h

theorem Yk (c:Code) (hlen:c.ins.length≤1000000):A7 Tryz.prog 44 [c.v] (vO (Cc c)):=by
 obtain⟨cn,pair,ins⟩:=c
 simp only [] at hlen
 have htab:=Yg
 have hrow : ∀n:Nat,n≤26→((Ks.map V.t).drop (n*4)).take 4=[vS (nm n),vI (tk n),vI (pt n),vI (us n)]:=fun n h=>tab_row h
 have htl:(Ks.map V.t).length=108:=by rw [List.length_map];exact Uq
 have htt : ∀x∈Ks.map V.t,∃y,x=V.t y:=fun x hx=>by obtain⟨y,_,rfl⟩:=List.mem_map.1 hx;exact⟨y,rfl⟩
 have hok : ∀n m,okNs n m (Ks.map V.t)=true:=fun n m=>Ds n m _
 generalize hM:(⟨cn,pair,ins⟩:Code)=c0
 have hci:c0.ins=ins:=by rw [←hM]
 have hcp:c0.pair=pair:=by rw [←hM]
 rcases Nat.eq_zero_or_pos ins.length with h0|h0
 ·have h1:ins=[]:=List.eq_nil_of_length_eq_zero h0
  have h2:Cc c0=(0,false):=by unfold Cc;rw [hci,h1];rfl
  rw [h2,←hM,h1]
  (refine A7.of_code mix Tryz.call44 k_44 (by simp) (fun hB=>?_);(try simp at hB);(try simp -implicitDefEqProofs [vO]))
  (try simp -implicitDefEqProofs [vO])
 have h0b:((ins.length:Int)==0)=false:=by simp;exact fun h=>by simp [h] at h0
 generalize hR:vO (Cc c0)=R
 rw [←hM]
 (refine A7.of_code mix Tryz.call44 k_44 (by simp) (fun hB=>?_);(try simp at hB);(try simp -implicitDefEqProofs))
 generalize Ks.map V.t=TB at *
 ((try simp at htab);(try simp -implicitDefEqProofs [h0b]);repeat' first|(with_reducible apply A0<;>first|(simp only [eras,era,A1];first|with_reducible assumption)|(simp -implicitDefEqProofs [h0b])))
 refine⟨⟨htl,fun x hx=>by obtain⟨y,rfl⟩:=htt x hx;rfl⟩,?_⟩
 refine Ac (X:=Nat×Int×Int×Int) (fun X=>X.1≤ins.length∧Cb c0 X.1=some X.2)
  (fun X=>[(1,.ptr 0 0),(4,vI X.2.1),(5,vI X.2.2.1),(6,vI X.2.2.2),(7,.ptr 1 0),(17,Ins.l ins),(18,vI ins.length),(19,vI X.1)])
  (fun _=>⟨[.cells [vS cn,vB pair,Ins.l ins],.cells TB],[]⟩) (fun X=>ins.length-X.1) (0,0,0,0) ⟨by simp,rfl⟩ ?hs ?_
 case hs=>simp [htl];exact hok 2 0
 rintro ⟨k,sz,d,st⟩ ⟨hk,hr⟩ hbd
 simp only [] at hk hr
 have hbds:=Kt hr
 simp only [] at hbds
 rcases Nat.lt_or_ge k ins.length with h|h
 ·have hx:ins[k]?=some ins[k]:=by simp [h]
  have h' : ¬ins.length≤k:=by omega
  have e3:IntKind.i64.wrap ((k:Int)+1)=(k:Int)+1:=wrap64 (by omega) (by omega)
  have e5:IntKind.i64.wrap ((ins.length:Int)-1)=(ins.length:Int)-1:=wrap64 (by omega) (by omega)
  have hnum:=Yj ins[k] ⟨cn,pair,ins⟩ st
  have hfail:Fa ins.length pair k ins[k] st=true→R=vO (0,false):=fun hb=>by
   rw [←hR,Is hr (by rw [hci];exact hx) (by unfold El;rw [hci,hcp,if_pos hb])]
  rcases (by omega:ins[k].op<1∨1≤ins[k].op) with b1|b1
  ·rw [hfail (by simp [Fa,b1])]
   ((try simp at hnum);(try simp -implicitDefEqProofs [vO,h,h',e5,b1]);repeat' first|(with_reducible apply A0<;>first|(simp only [eras,era,A1];first|with_reducible assumption)|(simp -implicitDefEqProofs [vO,h,h',e5,b1])))
  have b1' : ¬ins[k].op<1:=by omega
  rcases (by omega:26<ins[k].op∨ins[k].op≤26) with b2|b2
  ·rw [hfail (by simp [Fa,b2])]
   ((try simp at hnum);(try simp -implicitDefEqProofs [vO,h,h',e5,b1',b2]);repeat' first|(with_reducible apply A0<;>first|(simp only [eras,era,A1];first|with_reducible assumption)|(simp -implicitDefEqProofs [vO,h,h',e5,b1',b2])))
  have b2' : ¬26<ins[k].op:=by omega
  obtain⟨n,hn⟩ : ∃n:Nat,ins[k].op=n:=⟨ins[k].op.toNat,by omega⟩
  have b1n : ¬(n:Int)<1:=by omega
  have b2n : ¬(26:Int)<n:=by omega
  have agree : ∀u v:Bool,decide (ins[k].op=26)=u→decide (k+1=ins.length)=v→((ins[k].op==26)=u∧((k:Int)==(ins.length:Int)-1)=v):=by
   rintro u v rfl rfl
   refine⟨by rw [←Bool.beq_eq_decide_eq],?_⟩
   rw [Bool.eq_iff_iff]
   simp
   omega
  have hrn:=hrow n (by omega)
  have hpk:=Vt (n:=n) (by omega)
  have hfail2:Dm n d=true→R=vO (0,false):=fun hb=>by
   rw [←hR,Is hr (by rw [hci];exact hx) (by unfold El;rw [hn,if_pos hb];split<;>rfl)]
  have hgo:Fa ins.length pair k ins[k] st=false→Dm n d=false→Cb c0 (k+1)=some (max sz (d+(pt n-tk n)),d+(pt n-tk n),if (n:Int)=23 then st+1 else st):=fun g1 g2=>by
   rw [Gs hr (by rw [hci];exact hx)]
   unfold El
   rw [hci,hcp,hn,if_neg (by simp [g1]),if_neg (by simp [g2])]
  have e6:IntKind.i64.wrap (pt n-tk n)=pt n-tk n:=wrap64 (by omega) (by omega)
  have e7:IntKind.i64.wrap (d+(pt n-tk n))=d+(pt n-tk n):=wrap64 (by omega) (by omega)
  have e8:IntKind.i64.wrap (st+1)=st+1:=wrap64 (by omega) (by omega)
  cases hu:decide (ins[k].op=26)<;>cases hv:decide (k+1=ins.length)<;>obtain⟨f1,f2⟩:=agree _ _ hu hv
  ·cases hnv:Ir ins[k] pair st
   ·rw [hfail (by simp only [Fa,hu,hv,hnv];simp)]
    simp only [hnv] at hnum
    ((try simp at hnum);(try simp -implicitDefEqProofs [vO,h,h',e5,b1',b2',f1,f2]);repeat' first|(with_reducible apply A0<;>first|(simp only [eras,era,A1];first|with_reducible assumption)|(simp -implicitDefEqProofs [vO,h,h',e5,b1',b2',f1,f2])))
   simp only [hnv] at hnum
   have hb:Fa ins.length pair k ins[k] st=false:=by simp only [Fa,hu,hv,hnv];simp;omega
   simp [hn] at hnum
   rw [hn] at f1
   rcases (by omega:d<tk n∨tk n≤d) with d1|d1
   ·rw [hfail2 (by simp [Dm,d1])]
    ((try simp at hnum);(try simp -implicitDefEqProofs [vO,h,h',e5,b1n,b2n,hn,hrn,f1,f2,d1]);repeat' first|(with_reducible apply A0<;>first|(simp only [eras,era,A1];first|with_reducible assumption)|(simp -implicitDefEqProofs [vO,h,h',e5,b1n,b2n,hn,hrn,f1,f2,d1])))
    all_goals exact⟨by omega,by omega⟩
   have d1' : ¬d<tk n:=by omega
   have q1:((pt n==0)=true∧(d != tk n)=true)∨(pt n==0)=false∨((pt n==0)=true∧(d != tk n)=false):=by
    cases (pt n==0)<;>cases (d != tk n)<;>simp
   rcases q1 with ⟨q1,q2⟩|q1|⟨q1,q2⟩
   ·rw [hfail2 (by simp at q1 q2;simp [Dm,q1,q2])]
    ((try simp at hnum);(try simp -implicitDefEqProofs [vO,h,h',e5,b1n,b2n,hn,hrn,f1,f2,d1',q1,q2]);repeat' first|(with_reducible apply A0<;>first|(simp only [eras,era,A1];first|with_reducible assumption)|(simp -implicitDefEqProofs [vO,h,h',e5,b1n,b2n,hn,hrn,f1,f2,d1',q1,q2])))
    all_goals exact⟨by omega,by omega⟩
   ·have hg:=hgo hb (by first|(simp at q1 q2;simp [Dm,d1,q1,q2];done)|(simp at q1;simp [Dm,d1,q1]))
    rcases Int.decEq n 23 with n1|n1
    ·have n2:((n:Int)==23)=false:=by simpa using n1
     rw [if_neg n1] at hg
     ((try simp at hnum);(try simp -implicitDefEqProofs [h,h',e3,e5,e6,e7,b1n,b2n,hn,hrn,f1,f2,d1',q1,n2]);repeat' first|(with_reducible apply A0<;>first|(simp only [eras,era,A1];first|with_reducible assumption)|(simp -implicitDefEqProofs [h,h',e3,e5,e6,e7,b1n,b2n,hn,hrn,f1,f2,d1',q1,n2])))
     all_goals exact⟨by omega,by omega,k+1,_,_,_,⟨by omega,hg⟩,by omega,hok 2 0,rfl,rfl,rfl,by push_cast;rfl⟩
    ·have n2:((n:Int)==23)=true:=by simpa using n1
     rw [if_pos n1] at hg
     ((try simp at hnum);(try simp -implicitDefEqProofs [h,h',e3,e5,e6,e7,e8,b1n,b2n,hn,hrn,f1,f2,d1',q1,n2]);repeat' first|(with_reducible apply A0<;>first|(simp only [eras,era,A1];first|with_reducible assumption)|(simp -implicitDefEqProofs [h,h',e3,e5,e6,e7,e8,b1n,b2n,hn,hrn,f1,f2,d1',q1,n2])))
     all_goals exact⟨by omega,by omega,k+1,_,_,_,⟨by omega,hg⟩,by omega,hok 2 0,rfl,rfl,rfl,by push_cast;rfl⟩
   ·have hg:=hgo hb (by first|(simp at q1 q2;simp [Dm,d1,q1,q2];done)|(simp at q1;simp [Dm,d1,q1]))
    rcases Int.decEq n 23 with n1|n1
    ·have n2:((n:Int)==23)=false:=by simpa using n1
     rw [if_neg n1] at hg
     ((try simp at hnum);(try simp -implicitDefEqProofs [h,h',e3,e5,e6,e7,b1n,b2n,hn,hrn,f1,f2,d1',q1,n2,q2]);repeat' first|(with_reducible apply A0<;>first|(simp only [eras,era,A1];first|with_reducible assumption)|(simp -implicitDefEqProofs [h,h',e3,e5,e6,e7,b1n,b2n,hn,hrn,f1,f2,d1',q1,n2,q2])))
     all_goals exact⟨by omega,by omega,k+1,_,_,_,⟨by omega,hg⟩,by omega,hok 2 0,rfl,rfl,rfl,by push_cast;rfl⟩
    ·have n2:((n:Int)==23)=true:=by simpa using n1
     rw [if_pos n1] at hg
     ((try simp at hnum);(try simp -implicitDefEqProofs [h,h',e3,e5,e6,e7,e8,b1n,b2n,hn,hrn,f1,f2,d1',q1,n2,q2]);repeat' first|(with_reducible apply A0<;>first|(simp only [eras,era,A1];first|with_reducible assumption)|(simp -implicitDefEqProofs [h,h',e3,e5,e6,e7,e8,b1n,b2n,hn,hrn,f1,f2,d1',q1,n2,q2])))
     all_goals exact⟨by omega,by omega,k+1,_,_,_,⟨by omega,hg⟩,by omega,hok 2 0,rfl,rfl,rfl,by push_cast;rfl⟩
  ·rw [hfail (by simp only [Fa,hu,hv];simp)]
   ((try simp at hnum);(try simp -implicitDefEqProofs [vO,h,h',e5,b1',b2',f1,f2]);repeat' first|(with_reducible apply A0<;>first|(simp only [eras,era,A1];first|with_reducible assumption)|(simp -implicitDefEqProofs [vO,h,h',e5,b1',b2',f1,f2])))
  ·rw [hfail (by simp only [Fa,hu,hv];simp)]
   ((try simp at hnum);(try simp -implicitDefEqProofs [vO,h,h',e5,b1',b2',f1,f2]);repeat' first|(with_reducible apply A0<;>first|(simp only [eras,era,A1];first|with_reducible assumption)|(simp -implicitDefEqProofs [vO,h,h',e5,b1',b2',f1,f2])))
  ·cases hnv:Ir ins[k] pair st
   ·rw [hfail (by simp only [Fa,hu,hv,hnv];simp)]
    simp only [hnv] at hnum
    ((try simp at hnum);(try simp -implicitDefEqProofs [vO,h,h',e5,b1',b2',f1,f2]);repeat' first|(with_reducible apply A0<;>first|(simp only [eras,era,A1];first|with_reducible assumption)|(simp -implicitDefEqProofs [vO,h,h',e5,b1',b2',f1,f2])))
   simp only [hnv] at hnum
   have hb:Fa ins.length pair k ins[k] st=false:=by simp only [Fa,hu,hv,hnv];simp;omega
   simp [hn] at hnum
   rw [hn] at f1
   rcases (by omega:d<tk n∨tk n≤d) with d1|d1
   ·rw [hfail2 (by simp [Dm,d1])]
    ((try simp at hnum);(try simp -implicitDefEqProofs [vO,h,h',e5,b1n,b2n,hn,hrn,f1,f2,d1]);repeat' first|(with_reducible apply A0<;>first|(simp only [eras,era,A1];first|with_reducible assumption)|(simp -implicitDefEqProofs [vO,h,h',e5,b1n,b2n,hn,hrn,f1,f2,d1])))
    all_goals exact⟨by omega,by omega⟩
   have d1' : ¬d<tk n:=by omega
   have q1:((pt n==0)=true∧(d != tk n)=true)∨(pt n==0)=false∨((pt n==0)=true∧(d != tk n)=false):=by
    cases (pt n==0)<;>cases (d != tk n)<;>simp
   rcases q1 with ⟨q1,q2⟩|q1|⟨q1,q2⟩
   ·rw [hfail2 (by simp at q1 q2;simp [Dm,q1,q2])]
    ((try simp at hnum);(try simp -implicitDefEqProofs [vO,h,h',e5,b1n,b2n,hn,hrn,f1,f2,d1',q1,q2]);repeat' first|(with_reducible apply A0<;>first|(simp only [eras,era,A1];first|with_reducible assumption)|(simp -implicitDefEqProofs [vO,h,h',e5,b1n,b2n,hn,hrn,f1,f2,d1',q1,q2])))
    all_goals exact⟨by omega,by omega⟩
   ·have hg:=hgo hb (by first|(simp at q1 q2;simp [Dm,d1,q1,q2];done)|(simp at q1;simp [Dm,d1,q1]))
    rcases Int.decEq n 23 with n1|n1
    ·have n2:((n:Int)==23)=false:=by simpa using n1
     rw [if_neg n1] at hg
     ((try simp at hnum);(try simp -implicitDefEqProofs [h,h',e3,e5,e6,e7,b1n,b2n,hn,hrn,f1,f2,d1',q1,n2]);repeat' first|(with_reducible apply A0<;>first|(simp only [eras,era,A1];first|with_reducible assumption)|(simp -implicitDefEqProofs [h,h',e3,e5,e6,e7,b1n,b2n,hn,hrn,f1,f2,d1',q1,n2])))
     all_goals exact⟨by omega,by omega,k+1,_,_,_,⟨by omega,hg⟩,by omega,hok 2 0,rfl,rfl,rfl,by push_cast;rfl⟩
    ·have n2:((n:Int)==23)=true:=by simpa using n1
     rw [if_pos n1] at hg
     ((try simp at hnum);(try simp -implicitDefEqProofs [h,h',e3,e5,e6,e7,e8,b1n,b2n,hn,hrn,f1,f2,d1',q1,n2]);repeat' first|(with_reducible apply A0<;>first|(simp only [eras,era,A1];first|with_reducible assumption)|(simp -implicitDefEqProofs [h,h',e3,e5,e6,e7,e8,b1n,b2n,hn,hrn,f1,f2,d1',q1,n2])))
     all_goals exact⟨by omega,by omega,k+1,_,_,_,⟨by omega,hg⟩,by omega,hok 2 0,rfl,rfl,rfl,by push_cast;rfl⟩
   ·have hg:=hgo hb (by first|(simp at q1 q2;simp [Dm,d1,q1,q2];done)|(simp at q1;simp [Dm,d1,q1]))
    rcases Int.decEq n 23 with n1|n1
    ·have n2:((n:Int)==23)=false:=by simpa using n1
     rw [if_neg n1] at hg
     ((try simp at hnum);(try simp -implicitDefEqProofs [h,h',e3,e5,e6,e7,b1n,b2n,hn,hrn,f1,f2,d1',q1,n2,q2]);repeat' first|(with_reducible apply A0<;>first|(simp only [eras,era,A1];first|with_reducible assumption)|(simp -implicitDefEqProofs [h,h',e3,e5,e6,e7,b1n,b2n,hn,hrn,f1,f2,d1',q1,n2,q2])))
     all_goals exact⟨by omega,by omega,k+1,_,_,_,⟨by omega,hg⟩,by omega,hok 2 0,rfl,rfl,rfl,by push_cast;rfl⟩
    ·have n2:((n:Int)==23)=true:=by simpa using n1
     rw [if_pos n1] at hg
     ((try simp at hnum);(try simp -implicitDefEqProofs [h,h',e3,e5,e6,e7,e8,b1n,b2n,hn,hrn,f1,f2,d1',q1,n2,q2]);repeat' first|(with_reducible apply A0<;>first|(simp only [eras,era,A1];first|with_reducible assumption)|(simp -implicitDefEqProofs [h,h',e3,e5,e6,e7,e8,b1n,b2n,hn,hrn,f1,f2,d1',q1,n2,q2])))
     all_goals exact⟨by omega,by omega,k+1,_,_,_,⟨by omega,hg⟩,by omega,hok 2 0,rfl,rfl,rfl,by push_cast;rfl⟩
 ·have:k=ins.length:=by omega
  subst this
  have hm:Cc c0=(sz,true):=by
   unfold Cc
   rw [hci,hr,if_neg (by intro h1;simp [h1] at h0)]
  rw [hm] at hR
  subst hR
  (try simp -implicitDefEqProofs [vO])
end Go.Proofs.YtmlpmdccfmmpoaaGreat
