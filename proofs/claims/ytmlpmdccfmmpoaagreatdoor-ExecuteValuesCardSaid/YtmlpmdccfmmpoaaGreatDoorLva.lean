/- Chapter 35: the law ExecuteValues. -/
import Derived.Test.YtmlpmdccfmmpoaaGreatDoorVaX
import Derived.Test.YtmlpmdccfmmpoaaGreatDoorSyg
import Derived.Test.YtmlpmdccfmmpoaaGreatDoorRcm
import Derived.Test.YtmlpmdccfmmpoaaGreatDoorLit
set_option linter.unusedSimpArgs false
set_option linter.unusedVariables false
set_option maxHeartbeats 4000000
set_option maxRecDepth 8000
namespace Go.Proofs.YtmlpmdccfmmpoaaGreatDoor
open E
theorem Xt (M:List (List UInt8)) : ∀(x:Xp),x.prop=true→∀i∈x.codeX M,1≤i.op∧i.op≤22:=by
 refine Xp.ind fun k v f t n xs ih hp i hi=>?_
 simp only [Xp.prop,Bool.and_eq_true] at hp
 obtain⟨k1,k2,_⟩:=Xc hp.1
 rw [Xp.codeX,List.mem_append,Xp.codesX_flat,List.mem_flatMap] at hi
 rcases hi with ⟨y,hy,hi⟩|hi
 ·exact ih y hy (Xp.props_mem hp.2 y hy) i hi
 ·simp only [List.mem_singleton] at hi
  rw [hi,Kk]
  exact (I2 k1 k2).2.2
theorem A00 {len:Nat} {pair:Bool} {l:List Ins} {s0 s' Sx:Int×Int×Int} {j:Nat} {x:Ins} (h:Ez len pair 0 l s0=some Sx) (hx:l[j]?=some x) (hj:Ez len pair 0 (l.take j) s0=some s') : ∃s'',Cz len pair j x s'=some s''∧Ez len pair 0 (l.take (j+1)) s0=some s'':=by
 have hjl:=A7 hx
 have htl:(l.take j).length=j:=by simp;omega
 have h1:=Cp (len:=len) (pair:=pair) (l.take (j+1)) (l.drop (j+1)) 0 s0
 rw [List.take_append_drop,h,Ah hx,Cp,hj,Option.bind_some,htl,Nat.zero_add] at h1
 simp only [Ez] at h1
 rw [Ah hx,Cp,hj,Option.bind_some,htl,Nat.zero_add]
 simp only [Ez]
 cases hs:Cz len pair j x s' with
 | none=>rw [hs] at h1;cases h1
 | some s''=>exact⟨s'',rfl,rfl⟩
theorem A01 {known pair wrong:Bool} {e k f t:Int} (h:(Du known pair wrong e k f t).2=0):(Du known pair wrong e k f t).1=Fp k:=by
 unfold Du at h ⊢
 by_cases c1:e≠0
 ·rw [if_pos c1] at h;exact absurd h c1
 rw [if_neg c1] at h ⊢
 by_cases c2:wrong=true
 ·rw [if_pos c2] at h;cases h
 rw [if_neg c2] at h ⊢
 by_cases c3:k=2∧known=false
 ·rw [if_pos c3] at h;cases h
 rw [if_neg c3] at h ⊢
 by_cases c4:(k=21∨k=22)∧t<f
 ·rw [if_pos c4] at h;cases h
 rw [if_neg c4] at h ⊢
 by_cases c5:k=22∧pair=false
 ·rw [if_pos c5] at h;cases h
 rw [if_neg c5]
theorem A2t {x:Xp} {q:List UInt8→Bool} {pair:Bool} (h:(F6 x q pair).2=0):Ki x=true∧((F6 x q pair).1=1∨(F6 x q pair).1=2):=by
 unfold F6 at h ⊢
 by_cases ht:Ki x=true
 ·rw [if_pos ht] at h ⊢
  obtain⟨k,v,f,t,n,xs⟩:=x
  rw [Xp.inf] at h ⊢
  refine⟨ht,?_⟩
  rw [A01 h]
  unfold Fp
  split<;>simp
 ·rw [if_neg ht] at h;cases h
theorem A02 (o:Option Src) : ∃o1 o2 o3 o4 o5 o6 o7:T,Kl o=.tup [.agg [.t o1,.t o2,.t o3,.t o4,.t o5,.t o6,.t o7],vB o.isSome]:=by
 cases o with
 | none=>exact⟨_,_,_,_,_,_,_,rfl⟩
 | some s=>exact⟨_,_,_,_,_,_,_,rfl⟩
structure QW where
 j:Nat
 st:List Int
 sv:V
 kb:Nat
 B:List Bx
structure QW.Ok (len:Nat) (pair:Bool) (cd:List Ins) (s:Src) (oth:Int) (C3:List V) (X:QW):Prop where
 j:X.j≤cd.length
 mea : ∃sz,Ez len pair 0 (cd.take X.j) (0,0,0)=some (sz,(X.st.length:Int),0)
 run:G6 s oth [] (cd.take X.j) []=some X.st
 len:X.st.length≤X.j
 U:OkU X.B
 b3:X.B[3]?=some (.cells C3)
 b4:X.B[4]?=some (.cells (qC s oth X.sv .snil .snil))
 fs:SvQ X.B X.sv X.st X.kb
theorem QW.step {len:Nat} {pair:Bool} {cd:List Ins} {s:Src} {oth:Int} {C3:List V} {X:QW} (hX:X.Ok len pair cd s oth C3) (hl:len=cd.length+2) (hs:s.Ok) (ho:oth≠-2) {Sx:Int×Int×Int} (hm:Ez len pair 0 cd (0,0,0)=some Sx) (hops : ∀i∈cd,1≤i.op∧i.op≤22) (h900:cd.length≤900) {x:Ins} (hx:cd[X.j]?=some x) :
  (∃B',FnS Tryz.prog 35 [.ptr 4 0,x.v] ⟨X.B,[]⟩ (vB false) ⟨B',[]⟩∧G6 s oth [] cd []=none)∨
  (∃X':QW,FnS Tryz.prog 35 [.ptr 4 0,x.v] ⟨X.B,[]⟩ (vB true) ⟨X'.B,[]⟩∧X'.Ok len pair cd s oth C3∧X'.j=X.j+1):=by
 obtain⟨j,st,sv,kb,B⟩:=X
 obtain⟨hj,⟨sz,hmea⟩,hrun,hln,hU,hb3,hb4,hfs⟩:=hX
 simp only [] at hj hmea hrun hln hU hb3 hb4 hfs hx ⊢
 have hjl:=A7 hx
 obtain⟨s'',hst,hmea2⟩:=A00 hm hx hmea
 obtain⟨o1,o2⟩:=hops x (List.mem_of_getElem? hx)
 obtain⟨_,_,hdep,hs2⟩:=Mp hst
 have hnum:Di x pair (([]:List Int).length:Int)=true:=by
  unfold Cz at hst
  split at hst
  ·cases hst
  ·rename_i q1
   simp only [Eu,Bool.or_eq_true,not_or] at q1
   simpa using q1.2
 simp only [] at hdep
 obtain⟨B',hstep,hQL⟩:=Xn hU hs ho (loc:=[]) (lb:=0) hb4 hfs (by omega) (.inl ⟨rfl,rfl⟩) (by simp) (fun _ _ _=>rfl) x o1 o2 hdep (fun h2=>by
  simp only [Di,h2,if_true,show ¬(2:Int)=1 by decide,if_false,Bool.and_eq_true,decide_eq_true_eq] at hnum
  exact hnum.1)
 obtain⟨v1,v2⟩:=Up (s:=s) (oth:=oth) (st:=st) hnum (by simp) o1 o2
 have hrun2:G6 s oth [] (cd.take (j+1)) []=G6 s oth [] [x] st:=by rw [Ah hx,Fq,hrun];rfl
 have htk0:0≤tk x.op:=by have:=W8 (n:=x.op.toNat) (by omega);rw [Int.toNat_of_nonneg (by omega)] at this;omega
 have hptk:pt x.op=1:=by
  rcases (by omega:x.op=1∨x.op=2∨x.op=3∨x.op=4∨x.op=5∨x.op=6∨x.op=7∨x.op=8∨x.op=9∨x.op=10∨x.op=11∨x.op=12∨x.op=13∨x.op=14∨x.op=15∨x.op=16∨x.op=17∨x.op=18∨x.op=19∨x.op=20∨x.op=21∨x.op=22) with h|h|h|h|h|h|h|h|h|h|h|h|h|h|h|h|h|h|h|h|h|h<;>rw [h]<;>rfl
 have hk4 : ∀n,sv=.bw kb n→(3:Nat)≠kb:=fun n e h3=>by
  rcases hfs with ⟨h1,_⟩|⟨_,cs,h2,_⟩
  ·rw [h1] at e;cases e
  ·rw [←h3,hb3] at h2;cases h2
 cases hok:(B9 s oth x st []).2&&Ag (B9 s oth x st []).1
 ·left
  rw [hok] at hstep v1
  refine⟨B',hstep,?_⟩
  rw [←List.take_append_drop (j+1) cd,Fq,hrun2]
  simp only [G6]
  rw [if_neg (by rw [v1];decide)];rfl
 ·right
  rw [hok] at hstep v1
  refine⟨⟨j+1,(B9 s oth x st []).1::st.drop (tk x.op).toNat,.bw (B'.length-1) ((B9 s oth x st []).1::st.drop (tk x.op).toNat).length,B'.length-1,B'⟩,hstep,⟨hjl,⟨s''.1,?_⟩,?_,?_,hQL.U,?_,hQL.hb,.inr ⟨rfl,_,hQL.hk,by rw [List.take_of_length_le (by simp)]⟩⟩,rfl⟩
  ·rw [hmea2,hs2,if_neg (by omega),hptk]
   simp only [List.length_cons,List.length_drop]
   congr 3
   omega
  ·rw [hrun2]
   simp only [G6]
   rw [if_pos v1,v2 v1]
  ·simp only [List.length_cons,List.length_drop];omega
  ·rw [hQL.get 3 (A7 hb3) (by decide) hk4];exact hb3
theorem QW.pop {len:Nat} {pair:Bool} {cd:List Ins} {s:Src} {oth:Int} {C3:List V} {X:QW} (hX:X.Ok len pair cd s oth C3) (hj:X.j=cd.length) (h900:cd.length≤900) {W:Int×Bool} (hr:G6 s oth [] cd []=if W.2=true then some [W.1] else none) :
  W.2=true∧∃B',FnS Tryz.prog 36 [.ptr 4 0] ⟨X.B,[]⟩ (vI W.1) ⟨B',[]⟩:=by
 obtain⟨j,st,sv,kb,B⟩:=X
 obtain⟨_,_,hrun,hln,hU,hb3,hb4,hfs⟩:=hX
 simp only [] at hj hrun hln hU hb3 hb4 hfs ⊢
 rw [hj,List.take_length,hr] at hrun
 split at hrun
 ·rename_i hw
  have hst:[W.1]=st:=Option.some.inj hrun
  subst hst
  refine⟨hw,?_⟩
  rcases hfs with ⟨_,h⟩|⟨rfl,cs,hk,hct⟩
  ·cases h
  ·refine⟨_,Xh 4 kb 0 B (fun m=>hU _ m (Nat.le_refl _)) s oth .snil .snil cs W.1 hb4 hk ?_ (by omega) rfl rfl⟩
   have:=congrArg (fun l:List V=>l[0]?) hct
   simpa using this
 ·cases hrun
theorem Xu (x:Xp) (l:List Src) (ent oth:Int) (hc:x.cnt≤900) (hok:x.ok) (hl:l.length≤13) (hs : ∀s∈l,s.num.natAbs≤100000∧0<s.den∧s.den≤100000∧s.items.length≤1000) :
  A3 Tryz.prog 13 [x.v,Src.ql l,vI ent,vI oth] (.tup [vI (F0 x l ent oth).1,vI (F0 x l ent oth).2]):=by
 have hv:=R9 l (by omega) (fun s h=>by have:=hs s h;omega)
 have ht:=Zr x [] (oth != -1) (by omega) hok
 have hte:inS ([]:List (List UInt8))=F7 []:=by funext s;rfl
 rw [hte] at ht
 have htok:=Sd (x:=x) (q:=F7 []) (pair:=(oth != -1))
 have htb:(F6 x (F7 []) (oth != -1)).2=0→Ki x=true∧((F6 x (F7 []) (oth != -1)).1=1∨(F6 x (F7 []) (oth != -1)).1=2):=A2t
 have hlc:=C1 x
 have htc:=Bf x
 have hf1:=Se l ent (by omega)
 have hf2:=Se l oth (by omega)
 have hfr : ∀k,findS l k=F3 l k:=fun _=>rfl
 obtain⟨R,hR⟩ : ∃R,R=F0 x l ent oth:=⟨_,rfl⟩
 rw [←hR]
 unfold F0 at hR
 generalize F6 x (F7 []) (oth != -1)=ty at *
 obtain⟨t1,t2⟩:=ty
 simp only [] at ht htok hR htb
 have ht:A3 Tryz.prog 31 [.agg (x.c.map .t),.t (.sl []),vB (oth != -1)] (.tup [vI t1,vI t2]):=ht
 by_cases h1:t2=0
 case neg=>
  rw [if_neg (fun h=>h1 h.1)] at hR
  subst hR
  have h1':(t2 != 0)=true:=by simpa using h1
  unfold Src.ql at *
  (refine A3.of_code mix Tryz.call13 k_13 (by simp) (fun hB=>?_);(try simp at hB);(try simp -implicitDefEqProofs))
  ((try simp at ht);(try simp -implicitDefEqProofs [hlc,htc,h1,h1']);repeat' first|(with_reducible apply A0<;>first|(simp only [eras,era,A1];first|with_reducible assumption)|(simp -implicitDefEqProofs [hlc,htc,h1,h1'])))
 subst h1
 cases h2:Dh l
 ·rw [h2] at hv hR
  rw [if_neg (fun h=>by simp at h)] at hR
  subst hR
  unfold Src.ql at *
  (refine A3.of_code mix Tryz.call13 k_13 (by simp) (fun hB=>?_);(try simp at hB);(try simp -implicitDefEqProofs))
  ((try simp at ht hv);(try simp -implicitDefEqProofs [hlc,htc]);repeat' first|(with_reducible apply A0<;>first|(simp only [eras,era,A1];first|with_reducible assumption)|(simp -implicitDefEqProofs [hlc,htc])))
 rw [h2] at hv hR
 by_cases h3 : -1≤oth
 case neg=>
  rw [if_neg (fun h=>h3 h.2.2)] at hR
  subst hR
  have h3':oth < -1:=by omega
  unfold Src.ql at *
  (refine A3.of_code mix Tryz.call13 k_13 (by simp) (fun hB=>?_);(try simp at hB);(try simp -implicitDefEqProofs))
  ((try simp at ht hv);(try simp -implicitDefEqProofs [hlc,htc,h3,h3']);repeat' first|(with_reducible apply A0<;>first|(simp only [eras,era,A1];first|with_reducible assumption)|(simp -implicitDefEqProofs [hlc,htc,h3,h3'])))
 have h3' : ¬oth < -1:=by omega
 rw [if_pos ⟨rfl,rfl,h3⟩] at hR
 obtain⟨hp,hinf⟩:=htok rfl
 obtain⟨htb1,htb2⟩:=htb rfl
 unfold Pe at hR
 rw [hfr,hfr] at hR
 obtain⟨o1,o2,o3,o4,o5,o6,o7,ho⟩:=A02 (F3 l oth)
 rw [ho] at hf2
 cases he:F3 l ent with
 | none=>
  rw [he] at hf1 hR
  subst hR
  unfold Kl Xo at hf1
  unfold Src.ql at *
  (refine A3.of_code mix Tryz.call13 k_13 (by simp) (fun hB=>?_);(try simp at hB);(try simp -implicitDefEqProofs))
  ((try simp at ht hv hf1 hf2);(try simp -implicitDefEqProofs [hlc,htc,h3,h3']);repeat' first|(with_reducible apply A0<;>first|(simp only [eras,era,A1];first|with_reducible assumption)|(simp -implicitDefEqProofs [hlc,htc,h3,h3'])))
 | some s=>
 rw [he] at hf1 hR
 simp only [] at hR
 unfold Kl at hf1
 simp only [] at hf1
 by_cases hcond:oth≠-1∧((F3 l oth).isNone=true∨oth=ent)
 ·rw [if_pos hcond] at hR
  subst hR
  obtain⟨g1,g2⟩:=hcond
  have g1':(oth != -1)=true:=by simpa using g1
  rw [g1'] at ht
  cases hs2:(F3 l oth).isSome
  ·rw [hs2] at hf2
   unfold Src.ql Src.qv at *
   (refine A3.of_code mix Tryz.call13 k_13 (by simp) (fun hB=>?_);(try simp at hB);(try simp -implicitDefEqProofs))
   ((try simp at ht hv hf1 hf2);(try simp -implicitDefEqProofs [hlc,htc,h3,h3',g1,g1']);repeat' first|(with_reducible apply A0<;>first|(simp only [eras,era,A1];first|with_reducible assumption)|(simp -implicitDefEqProofs [hlc,htc,h3,h3',g1,g1'])))
  ·rw [hs2] at hf2
   have g3:oth=ent:=by
    rcases g2 with g2|g2
    ·rw [Option.isNone_iff_eq_none] at g2;rw [g2] at hs2;cases hs2
    ·exact g2
   have g3':(oth==ent)=true:=by simpa using g3
   unfold Src.ql Src.qv at *
   (refine A3.of_code mix Tryz.call13 k_13 (by simp) (fun hB=>?_);(try simp at hB);(try simp -implicitDefEqProofs))
   ((try simp at ht hv hf1 hf2);(try simp -implicitDefEqProofs [hlc,htc,h3,h3',g1,g1',g3']);repeat' first|(with_reducible apply A0<;>first|(simp only [eras,era,A1];first|with_reducible assumption)|(simp -implicitDefEqProofs [hlc,htc,h3,h3',g1,g1',g3'])))
 rw [if_neg hcond] at hR
 simp only [] at hR
 have hsm:s∈l:=List.mem_of_find?_eq_some he
 obtain⟨q1,q2,q3,q4⟩:=hs s hsm
 have hsok:s.Ok:=⟨q1,q2,q3,q4,(Eb h2 hsm).2.2⟩
 obtain⟨is,his⟩ : ∃is,is=(F3 l oth).isSome:=⟨_,rfl⟩
 rw [←his] at hf2
 have hob:oth = -1∨(is=true∧oth≠ent∧0≤oth):=by
  by_cases g1:oth = -1
  ·exact .inl g1
  ·right
   cases hg:F3 l oth with
   | none=>exact absurd ⟨g1,.inl (by rw [hg];rfl)⟩ hcond
   | some o=>
    refine⟨by rw [his,hg];rfl,fun e=>hcond ⟨g1,.inr e⟩,?_⟩
    have h5:=List.find?_some hg
    simp only [Bool.and_eq_true,beq_iff_eq] at h5
    have:=(Eb h2 (List.mem_of_find?_eq_some hg)).1
    omega
 have hoth2:oth≠-2:=by rcases hob with h|⟨_,_,h⟩<;>omega
 obtain⟨kd,ac,hka⟩ : ∃kd ac:Int,(t1=2∧kd=2∧ac=0)∨(t1=1∧kd=3∧ac=1):=by
  rcases htb2 with h|h
  ·exact⟨3,1,.inr ⟨h,rfl,rfl⟩⟩
  ·exact⟨2,0,.inl ⟨h,rfl,rfl⟩⟩
 obtain⟨r,hr⟩ : ∃r:Rul,r=⟨[97],(oth != -1),[⟨kd,ac,[],x⟩],2⟩:=⟨_,rfl⟩
 have hn97:Cf [97]=true:=by decide
 have hty:x.dep≤30:=by unfold Ki at htb1;simp only [Bool.and_eq_true,decide_eq_true_eq] at htb1;exact htb1.1
 have hrb:Ec r=true:=by
  rw [hr]
  rcases hka with ⟨_,rfl,rfl⟩|⟨_,rfl,rfl⟩<;>simp [Ec,hn97,acB,Dv,P7,hty,hp]
 have hrc:=Xs r hrb (by rw [hr];simp [Kt];omega)
 obtain⟨cd,hcd⟩ : ∃cd,cd=x.codeX []:=⟨_,rfl⟩
 have hcdl:cd.length=x.cnt:=by rw [hcd];exact Xp.codeX_len [] x
 obtain⟨li,hli⟩ : ∃li:Ins,li=Sb [] ⟨kd,ac,[],x⟩:=⟨_,rfl⟩
 have hins:(P9 r).ins=cd++[li,⟨26,2,0⟩]:=by rw [hr,hcd,hli];simp [P9,C6]
 have hcv:(P9 r).v=.agg [vS [97],vB (oth != -1),Ins.l (cd++[li,⟨26,2,0⟩])]:=by rw [←hins,hr];rfl
 rw [hcv] at hrc
 have hrv:r.v=.agg [vS [97],vB (oth != -1),.t (.sl [.int .i64 kd::.int .i64 ac::.str []::x.c]),vI 2]:=by rw [hr];rfl
 rw [hrv] at hrc
 obtain⟨IN,hIN⟩ : ∃IN,IN=cd++[li,(⟨26,2,0⟩:Ins)]:=⟨_,rfl⟩
 rw [←hIN] at hrc
 have hINl:IN.length=cd.length+2:=by rw [hIN];simp
 have hINg : ∀j,j<cd.length→IN[j]?=cd[j]?:=fun j hj=>by rw [hIN,List.getElem?_append_left hj]
 obtain⟨W,hW⟩ : ∃W,W=x.valE s oth (fun _=>0):=⟨_,rfl⟩
 rw [←hW] at hR
 have hrv2:=Xp.run_val (s:=s) (oth:=oth) (q:=fun _=>0) (M:=[]) (loc:=[]) (pair:=(oth != -1)) (fun n hn=>by cases hn) x hp hinf []
 rw [←hcd,←hW] at hrv2
 obtain⟨mz,hmz⟩:=Xp.run_x (len:=cd.length+2) (pair:=(oth != -1)) (M:=[]) x hp hinf 0 0 0 (by rw [←hcd];omega) (by omega)
 rw [←hcd] at hmz
 have hops:=Xt [] x hp
 rw [←hcd] at hops
 obtain⟨r1,r2⟩:=R
 unfold Src.ql Src.qv at *
 obtain⟨pb,hpb⟩ : ∃pb,pb=(oth != -1):=⟨_,rfl⟩
 rw [←hpb] at ht hrc hmz
 obtain⟨ob1,ob2,ob3⟩:pb=(oth != -1)∧(pb=true→is=true)∧(pb=true→(oth==ent)=false):=by
  refine⟨hpb,fun h=>?_,fun h=>?_⟩
  all_goals rcases hob with rfl|⟨h5,h6,h7⟩
  ·rw [hpb] at h;cases h
  ·exact h5
  ·rw [hpb] at h;cases h
  ·simpa using h6
 have ob1:=ob1.symm
 have C3U : ∀n m,E.leB n m (.cells [vS [97],vB pb,Ins.l IN]) (.cells [vS [97],vB pb,Ins.l IN]):=fun n m=>⟨A4 _,rfl⟩
 have hstart : ∀b0 b1 b2:List T,QW.Ok (cd.length+2) pb cd s oth [vS [97],vB pb,Ins.l IN] ⟨0,[],.snil,0,[.cells (b0.map .t),.cells (b1.map .t),.cells (b2.map .t),.cells [vS [97],vB pb,Ins.l IN],.cells (qC s oth .snil .snil .snil)]⟩:=fun b0 b1 b2=>
  ⟨by simp,⟨0,rfl⟩,rfl,by simp,fun n m hn=>⟨⟨A4 _,Cr _ _ _⟩,⟨A4 _,Cr _ _ _⟩,⟨A4 _,Cr _ _ _⟩,C3U _ _,Pf rfl rfl rfl,trivial⟩,rfl,rfl,.inl ⟨rfl,rfl⟩⟩
 cases pb
 all_goals rcases hka with ⟨rfl,rfl,rfl⟩|⟨rfl,rfl,rfl⟩
 all_goals (try (have ob2:=ob2 rfl;have ob3:=ob3 rfl;rw [ob2] at hf2))
 all_goals (refine A3.of_code mix Tryz.call13 k_13 (by simp) (fun hB=>?_);(try simp at hB);(try simp -implicitDefEqProofs))
 all_goals ((try simp at ht hv hf1 hf2 hrc);(try simp -implicitDefEqProofs [hlc,htc,h3,h3',ob1,ob3]);repeat' first|(with_reducible apply A0<;>first|(simp only [eras,era,A1];first|with_reducible assumption)|(simp -implicitDefEqProofs [hlc,htc,h3,h3',ob1,ob3])))
 all_goals
  refine A6 (X:=QW) (fun X=>X.Ok (cd.length+2) _ cd s oth _) (fun X=>[(18,.ptr 3 0),(19,.ptr 4 0),(20,vI X.j)]) (fun X=>⟨X.B,[]⟩) (fun X=>cd.length-X.j) _ (hstart x.c s.q [o1,o2,o3,o4,o5,o6,o7]) ?hs ?_
  case hs=>
   have hU:=(hstart x.c s.q [o1,o2,o3,o4,o5,o6,o7]).U 5 0 (Nat.le_refl _)
   unfold qC Src.q at hU
   unfold qC Src.q
   simp [hU]
   exact⟨A4 _,rfl⟩
  rintro ⟨j,st,sv,kb,B⟩ hX hbd
  clear hbd
  have hj:=hX.j
  have hb3:=hX.b3
  simp only [] at hj hb3
  have e3:IntKind.i64.wrap ((j:Int)+1)=(j:Int)+1:=wrap64 (by omega) (by omega)
  have e4:IntKind.i64.wrap ((IN.length:Int)-2)=(cd.length:Int):=by
   have:(IN.length:Int)-2=(cd.length:Int):=by omega
   rw [this];exact wrap64 (by omega) (by omega)
  rcases Nat.lt_or_ge j cd.length with h|h
  ·obtain⟨y,hy⟩:=Ab h
   have hyI:=hINg j h
   rw [hy] at hyI
   have hxc:(IN.map Ins.c)[j]?=some y.c:=by simp [hyI]
   have hxc' : ∀h,(IN.map Ins.c)[j]'h=y.c:=fun h=>by rw [List.getElem?_eq_getElem h] at hxc;exact Option.some.inj hxc
   have hjI:j<IN.length:=by omega
   have hstp:=QW.step hX rfl hsok hoth2 hmz hops (by omega) hy
   obtain⟨yo,ya,yb⟩:=y
   rcases hstp with ⟨B',hstp,hno⟩|⟨X',hstp,hX',hj'⟩
   ·rw [hno] at hrv2
    have hw:W.2=false:=by
     cases hw:W.2
     ·rfl
     ·rw [hw,if_pos rfl] at hrv2;cases hrv2
    rw [hw,if_neg (by decide)] at hR
    cases hR
    (try simp -implicitDefEqProofs [hb3,Ins.l,e4,h,hjI,hxc,hxc',Ins.c])
    refine A9 hstp ?_
    (try simp -implicitDefEqProofs)
   ·simp only [] at hj'
    have hUX:=hX'.U _ 0 (Nat.le_refl _)
    have h4l:=A7 hX'.b4
    (try simp -implicitDefEqProofs [hb3,Ins.l,e4,h,hjI,hxc,hxc',Ins.c])
    refine A9 hstp ?_
    (try simp -implicitDefEqProofs [e3])
    exact⟨X',hX',by omega,hUX,by omega,h4l,by rw [hj'];push_cast;rfl⟩
  ·have hjj:j=cd.length:=by omega
   obtain⟨hw,B',hpp⟩:=QW.pop hX hjj (by omega) hrv2
   rw [hw,if_pos rfl] at hR
   cases hR
   subst hjj
   (try simp -implicitDefEqProofs [hb3,Ins.l,e4])
   refine A9 hpp ?_
   (try simp -implicitDefEqProofs)
theorem Xv (x:Xp) (hok:x.ok) (l:List Sou) (hw : ∀y∈l,y.wf) (rule ent oth:Int):A3 Tryz.prog 3 [x.v,Sou.l l,.agg [vI rule,vI ent,vI oth]] (vB true):=by
 have ha:=Uc
 have hf:=A4d [⟨[],false,[⟨0,0,[],x⟩],0⟩]
 have hf2:=Zf l []
 have hlc:=C1 x
 have htc:=Bf x
 simp only [Rul.l,Rul.c,Stm.c,List.map_cons,List.map_nil] at hf
 cases h1:Xq [⟨[],false,[⟨0,0,[],x⟩],0⟩]
 ·rw [h1] at hf
  (refine A3.of_code mix Tryz.call3 k_3 (by simp) (fun hB=>?_);(try simp at hB);(try simp -implicitDefEqProofs))
  ((try simp at ha hf);(try simp -implicitDefEqProofs [hlc,htc]);repeat' first|(with_reducible apply A0<;>first|(simp only [eras,era,A1];first|with_reducible assumption)|(simp -implicitDefEqProofs [hlc,htc])))
 rw [h1] at hf
 have hcnt:x.cnt≤200:=by
  simp [Xq,Ku,Ph] at h1
  exact h1
 cases h2:R4 l []
 ·rw [h2] at hf2
  (refine A3.of_code mix Tryz.call3 k_3 (by simp) (fun hB=>?_);(try simp at hB);(try simp -implicitDefEqProofs))
  ((try simp at ha hf hf2);(try simp -implicitDefEqProofs [hlc,htc]);repeat' first|(with_reducible apply A0<;>first|(simp only [eras,era,A1];first|with_reducible assumption)|(simp -implicitDefEqProofs [hlc,htc])))
 rw [h2] at hf2
 obtain⟨f1,f2,f3,f4⟩:=Pg h2
 have hs:=Ub l (by omega) hw
 have hrm:=Xm h2 hw
 have hv1:=Xf x (l.map Sou.src) ent oth (by omega) (by simp;omega) hrm
 have hv2:=Xu x (l.map Sou.src) ent oth (by omega) hok (by simp;omega) hrm
 have hown:=Yl x (by omega)
 unfold Src.l Src.ql at *
 generalize (l.map Sou.src).map Src.c=A at *
 generalize (l.map Sou.src).map Src.q=A2 at *
 generalize F0 x (l.map Sou.src) ent oth=R at *
 obtain⟨r1,r2⟩:=R
 (refine A3.of_code mix Tryz.call3 k_3 (by simp) (fun hB=>?_);(try simp at hB);(try simp -implicitDefEqProofs))
 ((try simp at ha hf hf2 hs hown hv1 hv2);(try simp -implicitDefEqProofs [hlc,htc]);repeat' first|(with_reducible apply A0<;>first|(simp only [eras,era,A1];first|with_reducible assumption)|(simp -implicitDefEqProofs [hlc,htc])))
 all_goals (repeat' with_reducible apply And.intro)
 all_goals ((try simp at ha hf hf2 hs hown hv1 hv2);(try simp -implicitDefEqProofs [hlc,htc]);repeat' first|(with_reducible apply A0<;>first|(simp only [eras,era,A1];first|with_reducible assumption)|(simp -implicitDefEqProofs [hlc,htc])))
end Go.Proofs.YtmlpmdccfmmpoaaGreatDoor
