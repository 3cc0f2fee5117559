/- Walks of chapter 34's reference: run. -/
import Derived.Test.YtmlpmdccfmmpoaaGreatDoorRfa
set_option linter.unusedSimpArgs false
set_option linter.unusedVariables false
set_option maxHeartbeats 2000000
set_option maxRecDepth 8000
namespace Go.Proofs.YtmlpmdccfmmpoaaGreatDoor
open E

theorem Vh {n:Nat} (h:n≤26):(Gj n).1=tk n∧(Gj n).2=pt n∧A05 n=us n:=by
 rcases (by omega:n=0∨n=1∨n=2∨n=3∨n=4∨n=5∨n=6∨n=7∨n=8∨n=9∨n=10∨n=11∨n=12∨n=13∨n=14∨n=15∨n=16∨n=17∨n=18∨n=19∨n=20∨n=21∨n=22∨n=23∨n=24∨n=25∨n=26) with rfl|rfl|rfl|rfl|rfl|rfl|rfl|rfl|rfl|rfl|rfl|rfl|rfl|rfl|rfl|rfl|rfl|rfl|rfl|rfl|rfl|rfl|rfl|rfl|rfl|rfl|rfl<;>decide
theorem A2q {n:Nat} (h:n≤26) (h1:1≤n):pt n=0↔(23:Int)≤n:=by
 rcases (by omega:n=1∨n=2∨n=3∨n=4∨n=5∨n=6∨n=7∨n=8∨n=9∨n=10∨n=11∨n=12∨n=13∨n=14∨n=15∨n=16∨n=17∨n=18∨n=19∨n=20∨n=21∨n=22∨n=23∨n=24∨n=25∨n=26) with rfl|rfl|rfl|rfl|rfl|rfl|rfl|rfl|rfl|rfl|rfl|rfl|rfl|rfl|rfl|rfl|rfl|rfl|rfl|rfl|rfl|rfl|rfl|rfl|rfl|rfl<;>decide
theorem A06 (x:Ins) (st:Int) (pair:Bool) (h1:1≤x.op) (h2:x.op≤26):Cv x pair st=(!(decide (A05 x.op<2)&&(x.b != 0))&&Nw x st pair):=by
 obtain⟨op,a,b⟩:=x
 simp only [] at h1 h2
 obtain⟨n,rfl⟩ : ∃n:Nat,op=n:=⟨op.toNat,by omega⟩
 have hab:Ah a=(decide (-1000000000000≤a)&&decide (a≤1000000000000)):=by unfold Ah;rfl
 rcases (by omega:n=1∨n=2∨n=3∨n=4∨n=5∨n=6∨n=7∨n=8∨n=9∨n=10∨n=11∨n=12∨n=13∨n=14∨n=15∨n=16∨n=17∨n=18∨n=19∨n=20∨n=21∨n=22∨n=23∨n=24∨n=25∨n=26) with rfl|rfl|rfl|rfl|rfl|rfl|rfl|rfl|rfl|rfl|rfl|rfl|rfl|rfl|rfl|rfl|rfl|rfl|rfl|rfl|rfl|rfl|rfl|rfl|rfl|rfl
 all_goals (simp [Cv,Nw,A05,hab];try (first|(rw [Bool.and_comm];done)|(rw [Bool.eq_iff_iff];simp;omega)|(cases Fp a<;>simp [bne];done)|(cases pair<;>simp)))

theorem A5w (c:Code) (hlen:c.ins.length≤1000000):A4 Tryz.prog 132 [c.v] (vO (C4 c)):=by
 obtain⟨cn,pair,ins⟩:=c
 simp only [] at hlen
 generalize hM:(⟨cn,pair,ins⟩:Code)=c0
 have hci:c0.ins=ins:=by rw [←hM]
 have hcp:c0.pair=pair:=by rw [←hM]
 generalize hR:vO (C4 c0)=R
 rw [←hM]
 (refine A4.of_code mix Tryz.call132 k_132 (by simp) (fun hB=>?_);(try simp at hB);(try simp -implicitDefEqProofs))
 refine A9 (X:=Nat×Int×Int×Int) (fun X=>X.1≤ins.length∧Bw c0 X.1=some X.2)
  (fun X=>[(1,.ptr 0 0),(5,vI X.2.1),(4,vI X.2.2.1),(6,vI X.2.2.2),(7,vI X.1)])
  (fun _=>⟨[.cells [vS cn,vB pair,Ins.l ins]],[]⟩) (fun X=>ins.length-X.1) (0,0,0,0) ⟨by simp,rfl⟩ (by simp) ?_
 rintro ⟨k,sz,d,st⟩ ⟨hk,hr⟩ hbd
 simp only [] at hk hr
 have hbds:=Ja hr
 simp only [] at hbds
 rcases Nat.lt_or_ge k ins.length with h|h
 ·have hx:ins[k]?=some ins[k]:=by simp [h]
  have e3:IntKind.i64.wrap ((k:Int)+1)=(k:Int)+1:=wrap64 (by omega) (by omega)
  have e5:IntKind.i64.wrap ((ins.length:Int)-1)=(ins.length:Int)-1:=wrap64 (by omega) (by omega)
  have hfail:Cg ins.length pair k ins[k] st=true→R=vO (0,false):=fun hb=>by
   rw [←hR,Es hr (by rw [hci];exact hx) (by unfold Bu;rw [hci,hcp,if_pos hb])]
  rcases (by omega:ins[k].op<1∨1≤ins[k].op) with b1|b1
  ·rw [hfail (by simp [Cg,b1])]
   ((try simp -implicitDefEqProofs [vO,h,e5,b1]);repeat' first|(with_reducible apply A0<;>first|(simp only [eras,era,A1];first|with_reducible exact (Gb _)|with_reducible exact (Mi _)|with_reducible exact (Ji _ _ _)|simpa using (Gb _)|simpa using (Mi _)|simpa using (Ji _ _ _))|(simp -implicitDefEqProofs [vO,h,e5,b1])))
  have b1' : ¬ins[k].op<1:=by omega
  rcases (by omega:26<ins[k].op∨ins[k].op≤26) with b2|b2
  ·rw [hfail (by simp [Cg,b2])]
   ((try simp -implicitDefEqProofs [vO,h,e5,b1',b2]);repeat' first|(with_reducible apply A0<;>first|(simp only [eras,era,A1];first|with_reducible exact (Gb _)|with_reducible exact (Mi _)|with_reducible exact (Ji _ _ _)|simpa using (Gb _)|simpa using (Mi _)|simpa using (Ji _ _ _))|(simp -implicitDefEqProofs [vO,h,e5,b1',b2])))
  have b2' : ¬26<ins[k].op:=by omega
  have hnf:=A06 ins[k] st pair b1 b2
  obtain⟨n,hn⟩ : ∃n:Nat,ins[k].op=n:=⟨ins[k].op.toNat,by omega⟩
  have hn26:n≤26:=by omega
  have hn1:1≤n:=by omega
  obtain⟨q1,q2,q3⟩:=Vh hn26
  have hpk:=Va hn26
  have hpz:=A2q hn26 hn1
  have htak:A4 Tryz.prog 78 [vI n] (.tup [vI (tk n),vI (pt n)]):=by rw [←q1,←q2];exact Gb n
  have huse:A4 Tryz.prog 165 [vI n] (vI (us n)):=by rw [←q3];exact Mi n
  have hfin:=Ji ins[k] st pair
  have b1n : ¬(n:Int)<1:=by omega
  have b2n : ¬(26:Int)<n:=by omega
  rw [hn,q3] at hnf
  cases hu:decide (us n<2)&&(ins[k].b != 0)
  rotate_left
  ·rw [hfail (by simp only [Cg,hnf,hu];simp)]
   simp only [Bool.and_eq_true,decide_eq_true_eq] at hu
   obtain⟨u1,u2⟩:=hu
   ((try simp at htak huse hfin);(try simp -implicitDefEqProofs [vO,h,e5,hn,b1n,b2n,u1,u2]);repeat' first|(with_reducible apply A0<;>first|(simp only [eras,era,A1];first|with_reducible assumption)|(simp -implicitDefEqProofs [vO,h,e5,hn,b1n,b2n,u1,u2])))
  have hu0:=hu
  rcases Bool.eq_false_or_eq_true (decide (us n<2)) with u1|u1
  ·simp only [u1,Bool.true_and] at hu
   simp only [decide_eq_true_eq] at u1
   cases hf:Nw ins[k] st pair
   ·rw [hfail (by simp only [Cg,hnf,hf];simp)]
    simp only [hf] at hfin
    simp [hn] at hfin
    ((try simp at htak huse hfin);(try simp -implicitDefEqProofs [vO,h,e5,hn,b1n,b2n,u1,hu]);repeat' first|(with_reducible apply A0<;>first|(simp only [eras,era,A1];first|with_reducible assumption)|(simp -implicitDefEqProofs [vO,h,e5,hn,b1n,b2n,u1,hu])))
   simp only [hf] at hfin
   simp [hn] at hfin
   have hnb:Cv ins[k] pair st=true:=by rw [hnf,hf,hu0];rfl
   have hfail2:C8 n d=true→R=vO (0,false):=fun hb=>by
    rw [←hR,Es hr (by rw [hci];exact hx) (by unfold Bu;rw [hn,if_pos hb];split<;>rfl)]
   rcases (by omega:d<tk n∨tk n≤d) with d1|d1
   ·rw [hfail2 (by simp [C8,d1])]
    ((try simp at htak huse hfin);(try simp -implicitDefEqProofs [vO,h,e5,hn,b1n,b2n,u1,hu,d1]);repeat' first|(with_reducible apply A0<;>first|(simp only [eras,era,A1];first|with_reducible assumption)|(simp -implicitDefEqProofs [vO,h,e5,hn,b1n,b2n,u1,hu,d1])))
   have d1' : ¬d<tk n:=by omega
   have agree : ∀u v:Bool,decide (ins[k].op=26)=u→decide (k+1=ins.length)=v→(((n:Int)==26)=u∧((k:Int)==(ins.length:Int)-1)=v):=by
    rintro u v rfl rfl
    refine⟨by rw [←hn,←Bool.beq_eq_decide_eq],?_⟩
    rw [Bool.eq_iff_iff]
    simp
    omega
   have e6:IntKind.i64.wrap (d-tk n)=d-tk n:=wrap64 (by omega) (by omega)
   have e7:IntKind.i64.wrap (d-tk n+pt n)=d+(pt n-tk n):=by rw [wrap64 (by omega) (by omega)];omega
   have e8:IntKind.i64.wrap (st+1)=st+1:=wrap64 (by omega) (by omega)
   cases hw:decide (ins[k].op=26)<;>cases hv:decide (k+1=ins.length)<;>obtain⟨f1,f2⟩:=agree _ _ hw hv
   rotate_left
   ·rw [hfail (by simp only [Cg,hw,hv];simp)]
    ((try simp at htak huse hfin);(try simp -implicitDefEqProofs [vO,h,e5,hn,b1n,b2n,u1,hu,d1',f1,f2]);repeat' first|(with_reducible apply A0<;>first|(simp only [eras,era,A1];first|with_reducible assumption)|(simp -implicitDefEqProofs [vO,h,e5,hn,b1n,b2n,u1,hu,d1',f1,f2])))
   ·rw [hfail (by simp only [Cg,hw,hv];simp)]
    ((try simp at htak huse hfin);(try simp -implicitDefEqProofs [vO,h,e5,hn,b1n,b2n,u1,hu,d1',f1,f2]);repeat' first|(with_reducible apply A0<;>first|(simp only [eras,era,A1];first|with_reducible assumption)|(simp -implicitDefEqProofs [vO,h,e5,hn,b1n,b2n,u1,hu,d1',f1,f2])))
   rotate_left
   all_goals
    have hb:Cg ins.length pair k ins[k] st=false:=by simp only [Cg,hw,hv,hnb];simp;omega
    have hgo:C8 n d=false→Bw c0 (k+1)=some (max sz (d+(pt n-tk n)),d+(pt n-tk n),if (n:Int)=23 then st+1 else st):=fun g2=>by
     rw [El hr (by rw [hci];exact hx)]
     unfold Bu
     rw [hci,hcp,hn,if_neg (by simp [hb]),if_neg (by simp [g2])]
    rcases (by omega:(23:Int)≤n∧d≠tk n∨((23:Int)≤n∧d=tk n)∨¬(23:Int)≤n) with ⟨g1,g2⟩|⟨g1,g2⟩|g1
    ·have z0:=hpz.2 g1
     rw [hfail2 (by simp [C8,z0,g2])]
     have g2':(d != tk n)=true:=by simpa using g2
     ((try simp at htak huse hfin);(try simp -implicitDefEqProofs [vO,h,e5,hn,b1n,b2n,u1,hu,d1',f1,f2,g1,g2']);repeat' first|(with_reducible apply A0<;>first|(simp only [eras,era,A1];first|with_reducible assumption)|(simp -implicitDefEqProofs [vO,h,e5,hn,b1n,b2n,u1,hu,d1',f1,f2,g1,g2'])))
    ·have hg:=hgo (by simp [C8,d1',g2])
     have g2':(d != tk n)=false:=by simpa using g2
     rcases Int.decEq n 23 with n1|n1
     ·have n2:((n:Int)==23)=false:=by simpa using n1
      rw [if_neg n1] at hg
      ((try simp at htak huse hfin);(try simp -implicitDefEqProofs [h,e3,e5,e6,e7,hn,b1n,b2n,u1,hu,d1',f1,f2,g1,g2',n2]);repeat' first|(with_reducible apply A0<;>first|(simp only [eras,era,A1];first|with_reducible assumption)|(simp -implicitDefEqProofs [h,e3,e5,e6,e7,hn,b1n,b2n,u1,hu,d1',f1,f2,g1,g2',n2])))
      exact⟨k+1,_,_,_,⟨by omega,hg⟩,by omega,rfl,rfl,rfl,by push_cast;rfl⟩
     ·have n2:((n:Int)==23)=true:=by simpa using n1
      rw [if_pos n1] at hg
      ((try simp at htak huse hfin);(try simp -implicitDefEqProofs [h,e3,e5,e6,e7,e8,hn,b1n,b2n,u1,hu,d1',f1,f2,g1,g2',n2]);repeat' first|(with_reducible apply A0<;>first|(simp only [eras,era,A1];first|with_reducible assumption)|(simp -implicitDefEqProofs [h,e3,e5,e6,e7,e8,hn,b1n,b2n,u1,hu,d1',f1,f2,g1,g2',n2])))
      exact⟨k+1,_,_,_,⟨by omega,hg⟩,by omega,rfl,rfl,rfl,by push_cast;rfl⟩
    ·have z0 : ¬pt n=0:=fun e=>g1 (hpz.1 e)
     have hg:=hgo (by simp [C8,d1',z0])
     have n1 : ¬(n:Int)=23:=by omega
     have n2:((n:Int)==23)=false:=by simpa using n1
     rw [if_neg n1] at hg
     ((try simp at htak huse hfin);(try simp -implicitDefEqProofs [h,e3,e5,e6,e7,hn,b1n,b2n,u1,hu,d1',f1,f2,g1,n2]);repeat' first|(with_reducible apply A0<;>first|(simp only [eras,era,A1];first|with_reducible assumption)|(simp -implicitDefEqProofs [h,e3,e5,e6,e7,hn,b1n,b2n,u1,hu,d1',f1,f2,g1,n2])))
     exact⟨k+1,_,_,_,⟨by omega,hg⟩,by omega,rfl,rfl,rfl,by push_cast;rfl⟩
  ·simp only [decide_eq_false_iff_not] at u1
   cases hf:Nw ins[k] st pair
   ·rw [hfail (by simp only [Cg,hnf,hf];simp)]
    simp only [hf] at hfin
    simp [hn] at hfin
    ((try simp at htak huse hfin);(try simp -implicitDefEqProofs [vO,h,e5,hn,b1n,b2n,u1]);repeat' first|(with_reducible apply A0<;>first|(simp only [eras,era,A1];first|with_reducible assumption)|(simp -implicitDefEqProofs [vO,h,e5,hn,b1n,b2n,u1])))
   simp only [hf] at hfin
   simp [hn] at hfin
   have hnb:Cv ins[k] pair st=true:=by rw [hnf,hf,hu0];rfl
   have hfail2:C8 n d=true→R=vO (0,false):=fun hb=>by
    rw [←hR,Es hr (by rw [hci];exact hx) (by unfold Bu;rw [hn,if_pos hb];split<;>rfl)]
   rcases (by omega:d<tk n∨tk n≤d) with d1|d1
   ·rw [hfail2 (by simp [C8,d1])]
    ((try simp at htak huse hfin);(try simp -implicitDefEqProofs [vO,h,e5,hn,b1n,b2n,u1,d1]);repeat' first|(with_reducible apply A0<;>first|(simp only [eras,era,A1];first|with_reducible assumption)|(simp -implicitDefEqProofs [vO,h,e5,hn,b1n,b2n,u1,d1])))
   have d1' : ¬d<tk n:=by omega
   have agree : ∀u v:Bool,decide (ins[k].op=26)=u→decide (k+1=ins.length)=v→(((n:Int)==26)=u∧((k:Int)==(ins.length:Int)-1)=v):=by
    rintro u v rfl rfl
    refine⟨by rw [←hn,←Bool.beq_eq_decide_eq],?_⟩
    rw [Bool.eq_iff_iff]
    simp
    omega
   have e6:IntKind.i64.wrap (d-tk n)=d-tk n:=wrap64 (by omega) (by omega)
   have e7:IntKind.i64.wrap (d-tk n+pt n)=d+(pt n-tk n):=by rw [wrap64 (by omega) (by omega)];omega
   have e8:IntKind.i64.wrap (st+1)=st+1:=wrap64 (by omega) (by omega)
   cases hw:decide (ins[k].op=26)<;>cases hv:decide (k+1=ins.length)<;>obtain⟨f1,f2⟩:=agree _ _ hw hv
   rotate_left
   ·rw [hfail (by simp only [Cg,hw,hv];simp)]
    ((try simp at htak huse hfin);(try simp -implicitDefEqProofs [vO,h,e5,hn,b1n,b2n,u1,d1',f1,f2]);repeat' first|(with_reducible apply A0<;>first|(simp only [eras,era,A1];first|with_reducible assumption)|(simp -implicitDefEqProofs [vO,h,e5,hn,b1n,b2n,u1,d1',f1,f2])))
   ·rw [hfail (by simp only [Cg,hw,hv];simp)]
    ((try simp at htak huse hfin);(try simp -implicitDefEqProofs [vO,h,e5,hn,b1n,b2n,u1,d1',f1,f2]);repeat' first|(with_reducible apply A0<;>first|(simp only [eras,era,A1];first|with_reducible assumption)|(simp -implicitDefEqProofs [vO,h,e5,hn,b1n,b2n,u1,d1',f1,f2])))
   rotate_left
   all_goals
    have hb:Cg ins.length pair k ins[k] st=false:=by simp only [Cg,hw,hv,hnb];simp;omega
    have hgo:C8 n d=false→Bw c0 (k+1)=some (max sz (d+(pt n-tk n)),d+(pt n-tk n),if (n:Int)=23 then st+1 else st):=fun g2=>by
     rw [El hr (by rw [hci];exact hx)]
     unfold Bu
     rw [hci,hcp,hn,if_neg (by simp [hb]),if_neg (by simp [g2])]
    rcases (by omega:(23:Int)≤n∧d≠tk n∨((23:Int)≤n∧d=tk n)∨¬(23:Int)≤n) with ⟨g1,g2⟩|⟨g1,g2⟩|g1
    ·have z0:=hpz.2 g1
     rw [hfail2 (by simp [C8,z0,g2])]
     have g2':(d != tk n)=true:=by simpa using g2
     ((try simp at htak huse hfin);(try simp -implicitDefEqProofs [vO,h,e5,hn,b1n,b2n,u1,d1',f1,f2,g1,g2']);repeat' first|(with_reducible apply A0<;>first|(simp only [eras,era,A1];first|with_reducible assumption)|(simp -implicitDefEqProofs [vO,h,e5,hn,b1n,b2n,u1,d1',f1,f2,g1,g2'])))
    ·have hg:=hgo (by simp [C8,d1',g2])
     have g2':(d != tk n)=false:=by simpa using g2
     rcases Int.decEq n 23 with n1|n1
     ·have n2:((n:Int)==23)=false:=by simpa using n1
      rw [if_neg n1] at hg
      ((try simp at htak huse hfin);(try simp -implicitDefEqProofs [h,e3,e5,e6,e7,hn,b1n,b2n,u1,d1',f1,f2,g1,g2',n2]);repeat' first|(with_reducible apply A0<;>first|(simp only [eras,era,A1];first|with_reducible assumption)|(simp -implicitDefEqProofs [h,e3,e5,e6,e7,hn,b1n,b2n,u1,d1',f1,f2,g1,g2',n2])))
      exact⟨k+1,_,_,_,⟨by omega,hg⟩,by omega,rfl,rfl,rfl,by push_cast;rfl⟩
     ·have n2:((n:Int)==23)=true:=by simpa using n1
      rw [if_pos n1] at hg
      ((try simp at htak huse hfin);(try simp -implicitDefEqProofs [h,e3,e5,e6,e7,e8,hn,b1n,b2n,u1,d1',f1,f2,g1,g2',n2]);repeat' first|(with_reducible apply A0<;>first|(simp only [eras,era,A1];first|with_reducible assumption)|(simp -implicitDefEqProofs [h,e3,e5,e6,e7,e8,hn,b1n,b2n,u1,d1',f1,f2,g1,g2',n2])))
      exact⟨k+1,_,_,_,⟨by omega,hg⟩,by omega,rfl,rfl,rfl,by push_cast;rfl⟩
    ·have z0 : ¬pt n=0:=fun e=>g1 (hpz.1 e)
     have hg:=hgo (by simp [C8,d1',z0])
     have n1 : ¬(n:Int)=23:=by omega
     have n2:((n:Int)==23)=false:=by simpa using n1
     rw [if_neg n1] at hg
     ((try simp at htak huse hfin);(try simp -implicitDefEqProofs [h,e3,e5,e6,e7,hn,b1n,b2n,u1,d1',f1,f2,g1,n2]);repeat' first|(with_reducible apply A0<;>first|(simp only [eras,era,A1];first|with_reducible assumption)|(simp -implicitDefEqProofs [h,e3,e5,e6,e7,hn,b1n,b2n,u1,d1',f1,f2,g1,n2])))
     exact⟨k+1,_,_,_,⟨by omega,hg⟩,by omega,rfl,rfl,rfl,by push_cast;rfl⟩
 ·have:k=ins.length:=by omega
  subst this
  rcases Nat.eq_zero_or_pos ins.length with h0|h0
  ·have h1:ins=[]:=List.eq_nil_of_length_eq_zero h0
   have h2:C4 c0=(0,false):=by unfold C4;rw [hci,h1];rfl
   have hz:sz=0:=by
    rw [h1] at hr
    simp only [List.length_nil,Bw,Option.some.injEq,Prod.mk.injEq] at hr
    exact hr.1.symm
   rw [h2] at hR
   subst hR
   subst h1
   subst hz
   (try simp -implicitDefEqProofs [vO])
  ·have h1 : ¬ins=[]:=fun e=>by simp [e] at h0
   have hm:C4 c0=(sz,true):=by
    unfold C4
    rw [hci,hr,if_neg h1]
   rw [hm] at hR
   subst hR
   have h2:(0:Int)<ins.length:=by omega
   (try simp -implicitDefEqProofs [vO,h0,h2])
end Go.Proofs.YtmlpmdccfmmpoaaGreatDoor
