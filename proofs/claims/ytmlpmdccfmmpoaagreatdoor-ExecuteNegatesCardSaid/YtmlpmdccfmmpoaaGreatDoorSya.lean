/- Chapter 32: small functions of both sides. -/
import Derived.Test.YtmlpmdccfmmpoaaGreatDoorIdx
import Derived.Test.YtmlpmdccfmmpoaaGreatDoorCodeB
import Derived.Test.YtmlpmdccfmmpoaaGreatDoorFds
set_option linter.unusedSimpArgs false
set_option linter.unusedVariables false
set_option maxHeartbeats 2000000
set_option maxRecDepth 8000
namespace Go.Proofs.YtmlpmdccfmmpoaaGreatDoor
open E
def Hq:Nat→List UInt8→Nat→List Tok→List Tok×Nat×Int
 | 0,_,_,_=>([],0,0)
 | f+1,s,p,acc=>
  let p1:=p+skR (s.drop p) false
  if p1=s.length then (acc,0,0) else
  let kn:=Dt (s.drop p1)
  if kn.1=0 then ([],p1,3) else
  let tx:=(s.take (p1+kn.2)).drop p1
  if (kn.1=1∧16<kn.2)∨(kn.1=2∧(Ty kn.1 tx).2=false) then ([],p1,6) else
  Hq f s (p1+kn.2) (acc++[⟨kn.1,tx,p1⟩])
def Ct (s:List UInt8):List Tok×Nat×Int:=if 8000<s.length then ([],8000,6) else Hq (s.length+1) s 0 []
theorem Z7 (s:List UInt8):A8 Tryz.prog 134 [vS s] (.tup [Tok.l (Ct s).1,vI (Ct s).2.1,vI (Ct s).2.2]):=by
 have hR:=rfl (a:=Ct s)
 conv at hR=>lhs;unfold Ct
 generalize Ct s=R at *
 by_cases hl:8000<s.length
 ·rw [if_pos hl] at hR
  subst hR
  have hl1:decide ((8000:Int)<s.length)=true:=by simp;omega
  (refine A8.of_code mix Tryz.call134 k_134 (by simp) (fun hB=>?_);(try simp at hB);(try simp -implicitDefEqProofs))
  (try simp -implicitDefEqProofs [hl1])
 rw [if_neg hl] at hR
 have hl1:decide ((8000:Int)<s.length)=false:=by simp;omega
 (refine A8.of_code mix Tryz.call134 k_134 (by simp) (fun hB=>?_);(try simp at hB);(try simp -implicitDefEqProofs))
 (try simp -implicitDefEqProofs [hl1])
 refine Bm [(.slot 2,243,3)] (X:=Nat×Nat×List Tok) (fun X=>X.2.1≤s.length∧s.length-X.2.1<X.1∧Hq X.1 s X.2.1 X.2.2=R∧X.2.2.length≤X.2.1) (fun X=>[(0,vS s),(2,.own 0 243 3 (X.2.2.map Tok.c)),(3,vI X.2.1)]) (fun X=>⟨[],[X.2.2.length]⟩) (fun X=>X.1) (s.length+1,0,[]) ⟨by simp,by simp,hR,by simp⟩ (by simp) ?_
 rintro ⟨f,p,acc⟩ ⟨hp,hf,ht,ha⟩ hbd
 simp only [] at hp hf ht ha
 clear hbd
 obtain _|f:=f
 ·omega
 rw [Hq] at ht
 have hb:=A1v (s.drop p) (by simp;omega)
 have hsk:=Jj (s.drop p) false
 rw [List.length_drop] at hsk
 generalize hq:skR (s.drop p) false=q at *
 by_cases hend:p+q=s.length
 ·rw [if_pos hend] at ht
  subst ht
  have hend':((p:Int)+q==s.length)=true:=by simp;omega
  have e1:IntKind.i64.wrap ((p:Int)+q)=p+q:=wrap64 (by omega) (by omega)
  ((try simp at hb);(try simp -implicitDefEqProofs [hp,hend',e1]);repeat' first|(with_reducible apply A0<;>first|(simp only [eras,era,A1];first|with_reducible assumption)|(simp -implicitDefEqProofs [hp,hend',e1])))
 rw [if_neg hend] at ht
 have hq1:p+q<s.length:=by omega
 have hnx:=A4y (s.drop (p+q)) (by simp;omega) (by simp;omega)
 have hle:=M4 (s.drop (p+q)) (by simp;omega)
 have hpos:=Jk (s.drop (p+q)) (by simp;omega)
 rw [List.length_drop] at hle
 generalize hkn:Dt (s.drop (p+q))=kn at *
 obtain⟨k,n⟩:=kn
 simp only [] at ht hnx hle hpos
 have hval:=A1y k ((s.take (p+q+n)).drop (p+q)) ((p:Int)+q) (by simp;omega)
 generalize htx:(s.take (p+q+n)).drop (p+q)=tx at *
 generalize hvr:Ty k tx=vv at *
 obtain⟨vn,ok⟩:=vv
 simp only [] at ht hval
 have hend':((p:Int)+q==s.length)=false:=by simp;omega
 have e1:IntKind.i64.wrap ((p:Int)+q)=p+q:=wrap64 (by omega) (by omega)
 have e2:IntKind.i64.wrap ((p:Int)+q+n)=p+q+n:=wrap64 (by omega) (by omega)
 have t1:((p:Int)+(q:Int)).toNat=p+q:=by omega
 have t2:((p:Int)+(q:Int)+(n:Int)).toNat=p+q+n:=by omega
 have g1:(0:Int)≤(p:Int)+q:=by omega
 have g2:(p:Int)+q≤s.length:=by omega
 have g3:(p:Int)+q+n≤s.length:=by omega
 have g4:(p:Int)+q≤(p:Int)+q+n:=by omega
 by_cases hk0:k=0
 ·rw [if_pos hk0] at ht
  subst ht
  subst hk0
  ((try simp at hb hnx hval);(try simp -implicitDefEqProofs [hp,hend',e1,e2,t1,t2,htx,g1,g2,g3,g4]);repeat' first|(with_reducible apply A0<;>first|(simp only [eras,era,A1];first|with_reducible assumption)|(simp -implicitDefEqProofs [hp,hend',e1,e2,t1,t2,htx,g1,g2,g3,g4])))
 rw [if_neg hk0] at ht
 have hk0':(k==0)=false:=by simpa using hk0
 by_cases hbad:(k=1∧16<n)∨(k=2∧ok=false)
 ·rw [if_pos hbad] at ht
  subst ht
  rcases hbad with ⟨rfl,h16⟩|⟨rfl,rfl⟩
  ·have h16':decide ((16:Int)<n)=true:=by simp;omega
   ((try simp at hb hnx hval);(try simp -implicitDefEqProofs [hp,hend',e1,e2,t1,t2,htx,g1,g2,g3,g4,h16']);repeat' first|(with_reducible apply A0<;>first|(simp only [eras,era,A1];first|with_reducible assumption)|(simp -implicitDefEqProofs [hp,hend',e1,e2,t1,t2,htx,g1,g2,g3,g4,h16'])))
  ·((try simp at hb hnx hval);(try simp -implicitDefEqProofs [hp,hend',e1,e2,t1,t2,htx,g1,g2,g3,g4]);repeat' first|(with_reducible apply A0<;>first|(simp only [eras,era,A1];first|with_reducible assumption)|(simp -implicitDefEqProofs [hp,hend',e1,e2,t1,t2,htx,g1,g2,g3,g4])))
 rw [if_neg hbad] at ht
 have hfin:=ht
 by_cases hk1:k=1
 ·have h16:decide ((16:Int)<n)=false:=by simp;omega
  subst hk1
  ((try simp at hb hnx hval);(try simp -implicitDefEqProofs [hp,hend',e1,e2,t1,t2,htx,g1,g2,g3,g4,h16]);repeat' first|(with_reducible apply A0<;>first|(simp only [eras,era,A1];first|with_reducible assumption)|(simp -implicitDefEqProofs [hp,hend',e1,e2,t1,t2,htx,g1,g2,g3,g4,h16])))
  exact⟨⟨by simp [maxLen];omega,by omega⟩,f,p+q+n,acc++[⟨1,tx,(p+q:Nat)⟩],⟨by omega,by omega,hfin,by simp;omega⟩,by omega,by simp,by simp [Tok.c,leA],by push_cast;rfl⟩
 have hk1':(k==1)=false:=by simpa using hk1
 by_cases hk2:k=2
 ·have:ok=true:=by simp_all
  subst this
  subst hk2
  ((try simp at hb hnx hval);(try simp -implicitDefEqProofs [hp,hend',e1,e2,t1,t2,htx,g1,g2,g3,g4]);repeat' first|(with_reducible apply A0<;>first|(simp only [eras,era,A1];first|with_reducible assumption)|(simp -implicitDefEqProofs [hp,hend',e1,e2,t1,t2,htx,g1,g2,g3,g4])))
  exact⟨⟨by simp [maxLen];omega,by omega⟩,f,p+q+n,acc++[⟨2,tx,(p+q:Nat)⟩],⟨by omega,by omega,hfin,by simp;omega⟩,by omega,by simp,by simp [Tok.c,leA],by push_cast;rfl⟩
 have hk2':(k==2)=false:=by simpa using hk2
 ((try simp at hb hnx hval);(try simp -implicitDefEqProofs [hp,hend',e1,e2,t1,t2,htx,g1,g2,g3,g4,hk0',hk1',hk2']);repeat' first|(with_reducible apply A0<;>first|(simp only [eras,era,A1];first|with_reducible assumption)|(simp -implicitDefEqProofs [hp,hend',e1,e2,t1,t2,htx,g1,g2,g3,g4,hk0',hk1',hk2'])))
 exact⟨⟨by simp [maxLen];omega,by omega⟩,f,p+q+n,acc++[⟨k,tx,(p+q:Nat)⟩],⟨by omega,by omega,hfin,by simp;omega⟩,by omega,by simp,by simp [Tok.c,leA],by push_cast;rfl⟩
def nfB (s:List UInt8):Bool:=decide (1≤s.length)&&decide (s.length≤16)&&M3 (Ds s)&&decide (Eh N8 s=s.length)
def Iz (s:List UInt8):Bool:=nfB s && !kwB s

theorem Nw : ∀(f:Nat) (s:List UInt8) (p:Nat) (acc:List Tok),(Hq f s p acc).2.2=0→s.length-p<f→p≤s.length→∃l,(Hq f s p acc).1=acc++l
 | 0,s,p,acc,h,hf,hp=>by omega
 | f+1,s,p,acc,h,hf,hp=>by
  have hsk:=Jj (s.drop p) false
  rw [List.length_drop] at hsk
  rw [Hq] at h ⊢
  generalize hq:skR (s.drop p) false=q at *
  by_cases h1:p+q=s.length
  ·rw [if_pos h1];exact⟨[],by simp⟩
  rw [if_neg h1] at h ⊢
  have hle:=M4 (s.drop (p+q)) (by simp;omega)
  have hpos:=Jk (s.drop (p+q)) (by simp;omega)
  rw [List.length_drop] at hle
  generalize hkn:Dt (s.drop (p+q))=kn at *
  simp only [] at h ⊢
  by_cases h2:kn.1=0
  ·rw [if_pos h2] at h;simp at h
  rw [if_neg h2] at h ⊢
  split at h
  ·simp at h
  ·rename_i h3
   rw [if_neg h3]
   obtain⟨l,hl⟩:=Nw f s (p+q+kn.2) _ h (by have:=hpos h2;omega) (by omega)
   exact⟨_::l,by rw [hl,List.append_assoc];rfl⟩

theorem M5 {s:List UInt8} {p n:Nat} (h:(s.take (p+n)).drop p=s) (hs:s≠[]):p=0∧n≥s.length:=by
 have hl:=congrArg List.length h
 simp at hl
 have:0<s.length:=by rcases s with _|⟨c,s⟩;exact absurd rfl hs;simp
 omega
theorem Tz {s:List UInt8} (h:(Dt s).1=1):M3 (Ds s)=true∧(Dt s).2=Eh N8 s:=by
 unfold Dt at *
 split at h
 ·rename_i h1;rw [if_pos h1];exact⟨h1,rfl⟩
 rename_i h1
 split at h
 ·simp at h
 split at h
 ·simp at h
 split at h<;>simp at h
theorem A4z {s:List UInt8} (h:M3 (Ds s)=true):skR s false=0:=by
 rcases s with _|⟨c,s⟩
 ·rfl
 have h':97≤c.toNat:=by
  have h1:97≤(c.toNat:Int):=by
   unfold M3 at h
   rw [Bool.and_eq_true] at h
   exact of_decide_eq_true h.1
  omega
 clear h
 rw [skR,if_neg (by omega),if_neg (by rintro (h|h|h|h)<;>first|(cases h;done)|omega),if_neg (by omega)]

theorem Z8 (s:List UInt8):((Ct s).2.2=0∧∃t,(Ct s).1=[t]∧t.kind=1∧t.text=s)↔nfB s=true:=by
 unfold nfB
 simp only [Bool.and_eq_true,decide_eq_true_eq]
 constructor
 ·rintro ⟨h,t,ht,hk,hx⟩
  unfold Ct at h ht
  split at h
  ·simp at h
  rename_i h8
  rw [if_neg h8] at ht
  have hsk:=Jj s false
  rw [Hq] at h ht
  simp only [List.drop_zero,Nat.zero_add] at h ht
  generalize hq:skR s false=q at *
  by_cases h1:q=s.length
  ·rw [if_pos h1] at ht;simp at ht
  rw [if_neg h1] at h ht
  have hle:=M4 (s.drop q) (by simp;omega)
  have hpos:=Jk (s.drop q) (by simp;omega)
  rw [List.length_drop] at hle
  have hname:=Tz (s:=s.drop q)
  generalize hkn:Dt (s.drop q)=kn at *
  (try simp only [] at h ht)
  by_cases h2:kn.1=0
  ·rw [if_pos h2] at h;simp at h
  rw [if_neg h2] at h ht
  split at h
  ·simp at h
  ·rename_i h3
   rw [if_neg h3] at ht
   obtain⟨l,hl⟩:=Nw s.length s (q+kn.2) _ h (by have:=hpos h2;omega) (by omega)
   rw [hl] at ht
   simp only [List.nil_append,List.cons_append,List.cons.injEq] at ht
   obtain⟨rfl,_⟩:=ht
   simp only [] at hk hx
   have hs:s≠[]:=by
    rintro rfl
    simp only [List.length_nil] at h1 hsk
    omega
   obtain⟨rfl,hn⟩:=M5 hx hs
   simp only [List.drop_zero] at hname
   obtain⟨n1,n2⟩:=hname hk
   have hr:=L5 N8 s
   have:=hpos h2
   refine⟨⟨⟨by omega,?_⟩,n1⟩,by omega⟩
   ·rcases Nat.lt_or_ge 16 kn.2 with hb|hb
    ·exact absurd (.inl ⟨hk,hb⟩) h3
    ·omega
 ·rintro ⟨⟨⟨h1,h2⟩,h3⟩,h4⟩
  have hsk:=A4z h3
  have hnx:Dt s=(1,s.length):=by unfold Dt;rw [if_pos h3,h4]
  have hR:Ct s=([⟨1,s,0⟩],0,0):=by
   unfold Ct
   rw [if_neg (by omega),Hq]
   simp only [List.drop_zero,hsk,Nat.add_zero,hnx]
   rw [if_neg (by omega),if_neg (by simp),if_neg (by rintro (⟨_,h⟩|⟨h,_⟩)<;>first|omega|simp at h)]
   simp only [Nat.zero_add,List.take_length,List.nil_append]
   obtain⟨m,hm⟩ : ∃m,s.length=m+1:=⟨s.length-1,by omega⟩
   rw [hm,Hq,←hm]
   simp [skR]
  rw [hR]
  exact⟨rfl,_,rfl,rfl,rfl⟩
theorem Oy (s:List UInt8):A8 Tryz.prog 93 [vS s] (vB (Iz s)):=by
 have ht:=Z7 s
 have hk:=A8c s
 have key:=Z8 s
 unfold Iz
 generalize kwB s=kw at *
 generalize hR:Ct s=R at *
 obtain⟨L,pl,e⟩:=R
 simp only [] at ht key
 by_cases he:e=0
 ·subst he
  rcases L with _|⟨t,_|⟨t2,L⟩⟩
  ·have hf:nfB s=false:=by
    cases hn:nfB s
    ·rfl
    ·obtain⟨_,t,h1,_⟩:=key.2 hn;cases h1
   rw [hf]
   (refine A8.of_code mix Tryz.call93 k_93 (by simp) (fun hB=>?_);(try simp at hB);(try simp -implicitDefEqProofs))
   ((try simp at ht hk);(try simp -implicitDefEqProofs);repeat' first|(with_reducible apply A0<;>first|(simp only [eras,era,A1];first|with_reducible assumption)|(simp -implicitDefEqProofs)))
  ·obtain⟨tk,tx,tf⟩:=t
   by_cases h1:tk=1
   ·by_cases h2:tx=s
    ·have hf:nfB s=true:=key.1 ⟨rfl,_,rfl,h1,h2⟩
     rw [hf]
     subst h1 h2
     (refine A8.of_code mix Tryz.call93 k_93 (by simp) (fun hB=>?_);(try simp at hB);(try simp -implicitDefEqProofs))
     ((try simp at ht hk);(try simp -implicitDefEqProofs);repeat' first|(with_reducible apply A0<;>first|(simp only [eras,era,A1];first|with_reducible assumption)|(simp -implicitDefEqProofs)))
    ·have hf:nfB s=false:=by
      cases hn:nfB s
      ·rfl
      ·obtain⟨_,t,e1,_,e2⟩:=key.2 hn
       simp at e1;subst e1;exact absurd e2 h2
     rw [hf]
     have h2':(tx==s)=false:=by simpa using h2
     subst h1
     (refine A8.of_code mix Tryz.call93 k_93 (by simp) (fun hB=>?_);(try simp at hB);(try simp -implicitDefEqProofs))
     ((try simp at ht hk);(try simp -implicitDefEqProofs [h2']);repeat' first|(with_reducible apply A0<;>first|(simp only [eras,era,A1];first|with_reducible assumption)|(simp -implicitDefEqProofs [h2'])))
   ·have hf:nfB s=false:=by
     cases hn:nfB s
     ·rfl
     ·obtain⟨_,t,e1,e2,_⟩:=key.2 hn
      simp at e1;subst e1;exact absurd e2 h1
    rw [hf]
    have h1':(tk==1)=false:=by simpa using h1
    (refine A8.of_code mix Tryz.call93 k_93 (by simp) (fun hB=>?_);(try simp at hB);(try simp -implicitDefEqProofs))
    ((try simp at ht hk);(try simp -implicitDefEqProofs [h1']);repeat' first|(with_reducible apply A0<;>first|(simp only [eras,era,A1];first|with_reducible assumption)|(simp -implicitDefEqProofs [h1'])))
  ·have hf:nfB s=false:=by
    cases hn:nfB s
    ·rfl
    ·obtain⟨_,t,h1,_⟩:=key.2 hn;cases h1
   rw [hf]
   have hl:((L.length:Int)+1+1==1)=false:=by simp;omega
   (refine A8.of_code mix Tryz.call93 k_93 (by simp) (fun hB=>?_);(try simp at hB);(try simp -implicitDefEqProofs))
   ((try simp at ht hk);(try simp -implicitDefEqProofs [hl]);repeat' first|(with_reducible apply A0<;>first|(simp only [eras,era,A1];first|with_reducible assumption)|(simp -implicitDefEqProofs [hl])))
 ·have hf:nfB s=false:=by
   cases hn:nfB s
   ·rfl
   ·exact absurd (key.2 hn).1 he
  rw [hf]
  have he':(e==0)=false:=by simpa using he
  (refine A8.of_code mix Tryz.call93 k_93 (by simp) (fun hB=>?_);(try simp at hB);(try simp -implicitDefEqProofs))
  ((try simp at ht hk);(try simp -implicitDefEqProofs [he']);repeat' first|(with_reducible apply A0<;>first|(simp only [eras,era,A1];first|with_reducible assumption)|(simp -implicitDefEqProofs [he'])))
inductive Xp where
 | mk (kind val frm to:Int) (name:List UInt8) (args:List Xp)
namespace Xp
def kind:Xp→Int | .mk k _ _ _ _ _=>k
def val:Xp→Int | .mk _ v _ _ _ _=>v
def frm:Xp→Int | .mk _ _ f _ _ _=>f
def to:Xp→Int | .mk _ _ _ t _ _=>t
def name:Xp→List UInt8 | .mk _ _ _ _ n _=>n
def args:Xp→List Xp | .mk _ _ _ _ _ a=>a
mutual
def c:Xp→List T
 | .mk k v f t n xs=>[.int .i64 k,.int .i64 v,.int .i64 f,.int .i64 t,.str n,.sl (cs xs)]
def cs:List Xp→List (List T)
 | []=>[]
 | x::ys=>c x::cs ys
end
theorem A50 (l:List Xp):cs l=l.map c:=by
 induction l with
 | nil=>rfl
 | cons x l ih=>rw [cs,ih];rfl
theorem c_mk (k v f t:Int) (n:List UInt8) (xs:List Xp):(mk k v f t n xs).c=[.int .i64 k,.int .i64 v,.int .i64 f,.int .i64 t,.str n,.sl (xs.map c)]:=by rw [c,A50]
abbrev v (x:Xp):V:=.agg (x.c.map .t)
abbrev l (ys:List Xp):V:=.t (.sl (ys.map c))
theorem ind {P:Xp→Prop} (h : ∀k v f t n xs,(∀a∈xs,P a)→P (.mk k v f t n xs)) : ∀x,P x:=by
 intro x
 refine Xp.rec (motive_1:=P) (motive_2:=fun xs=>∀a∈xs,P a) (fun k v f t n xs ih=>h k v f t n xs ih) (by simp) (fun x ys h1 h2 a ha=>?_) x
 rcases List.mem_cons.1 ha with rfl|ha
 ·exact h1
 ·exact h2 a ha
mutual
def cnt:Xp→Nat
 | .mk _ _ _ _ _ xs=>1+cnts xs
def cnts:List Xp→Nat
 | []=>0
 | x::ys=>cnt x+cnts ys
end
theorem A1z (x:Xp):1≤cnt x:=by cases x;rw [cnt];omega
theorem cnts_append (a b:List Xp):cnts (a++b)=cnts a+cnts b:=by
 induction a with
 | nil=>simp [cnts]
 | cons x a ih=>simp only [List.cons_append,cnts,ih];omega
theorem cnts_len (l:List Xp):l.length≤cnts l:=by
 induction l with
 | nil=>simp [cnts]
 | cons x l ih=>have:=A1z x;simp only [List.length_cons,cnts];omega
theorem cnts_mem {l:List Xp} {x:Xp} (h:x∈l):cnt x≤cnts l:=by
 induction l with
 | nil=>cases h
 | cons y l ih=>
  simp only [cnts]
  rcases List.mem_cons.1 h with rfl|h
  ·omega
  ·have:=ih h;omega
end Xp

theorem Du (x:Xp):x.c.length=6:=by cases x;rw [Xp.c];rfl

theorem Cw (x:Xp):List.take 6 (x.c.map V.t)=x.c.map V.t:=List.take_of_length_le (by simp [Du])
theorem A20 : ∀(x:Xp),x.cnt≤100000→A8 Tryz.prog 12 [x.v] x.v:=by
 refine Xp.ind fun kd vl fr to nm xs ih hcnt=>?_
 rw [Xp.cnt] at hcnt
 have hal:=Xp.cnts_len xs
 rw [Xp.v,Xp.c_mk]
 (refine A8.of_code mix Tryz.call12 k_12 (by simp) (fun hB=>?_);(try simp at hB);(try simp -implicitDefEqProofs))
 refine Bm [(.cell 2 5,47,6)] (X:=Nat) (fun k=>k≤xs.length) (fun k=>[(1,.ptr 0 0),(2,.ptr 1 0),(3,.ptr 2 0),(4,vI k)])
  (fun k=>⟨[.cells [vI kd,vI vl,vI fr,vI to,vS nm,Xp.l xs],.cells [vI 0,vI 0,vI 0,vI 0,vS [],.snil],.cells [vI kd,vI vl,vI fr,vI to,vS nm,.own 0 47 6 ((xs.take k).map Xp.c)]],[k]⟩) (fun k=>xs.length-k) 0 (by omega) (by simp) ?_
 rintro k hk hbd
 rcases Nat.lt_or_ge k xs.length with h|h
 ·have hx:xs[k]?=some xs[k]:=by simp [h]
  have hrec:=ih xs[k] (List.getElem_mem h) (by have:=Xp.cnts_mem (List.getElem_mem h);omega)
  have e3:IntKind.i64.wrap ((k:Int)+1)=(k:Int)+1:=wrap64 (by omega) (by omega)
  have hrv:(xs.map Xp.c).take (k+1)=(xs.map Xp.c).take k++[xs[k].c]:=by rw [Ag (x:=xs[k].c) (by simp [h])]
  have hmin:min k xs.length=k:=by omega
  have hlc:=Du xs[k]
  have htc:=Cw xs[k]
  ((try simp at hrec);(try simp -implicitDefEqProofs [h,e3,maxLen,hmin,hlc,htc]);repeat' first|((with_reducible first|apply Ac|apply Ad|apply A5)<;>(intro hc;have hc':=hc;(try simp at hc');simp -implicitDefEqProofs [hc,hc',h,e3,maxLen,hmin,hlc,htc]))|(with_reducible apply A0<;>first|(simp only [eras,era,A1];first|with_reducible assumption)|(simp -implicitDefEqProofs [h,e3,maxLen,hmin,hlc,htc])))
  exact⟨⟨by omega,by omega⟩,k+1,by omega,by omega,⟨by rw [hrv];exact .inl rfl,rfl⟩,by push_cast;rfl⟩
 ·have:k=xs.length:=by omega
  subst this
  have ht:(xs.map Xp.c).take xs.length=xs.map Xp.c:=List.take_of_length_le (by simp)
  ((try simp -implicitDefEqProofs [ht]);repeat' first|((with_reducible first|apply Ac|apply Ad|apply A5)<;>(intro hc;have hc':=hc;(try simp at hc');simp -implicitDefEqProofs [hc,hc',ht])))
end Go.Proofs.YtmlpmdccfmmpoaaGreatDoor
section
section
set_option linter.unusedSimpArgs false
set_option linter.unusedVariables false
set_option maxHeartbeats 2000000
set_option maxRecDepth 8000
namespace Go.Proofs.YtmlpmdccfmmpoaaGreatDoor
open E

end Go.Proofs.YtmlpmdccfmmpoaaGreatDoor
end

/- Chapter 32: accounts, numbers of operands, depth. -/
section
set_option linter.unusedSimpArgs false
set_option linter.unusedVariables false
set_option maxHeartbeats 2000000
set_option maxRecDepth 8000
namespace Go.Proofs.YtmlpmdccfmmpoaaGreatDoor
open E

def acB (n:Int):Bool:=decide (1≤n)&&decide (n≤99999)
theorem A21 (n:Int):A8 Tryz.prog 94 [vI n] (vB (acB n)):=by
 unfold acB
 (refine A8.of_code mix Tryz.call94 k_94 (by simp) (fun hB=>?_);(try simp at hB);(try simp -implicitDefEqProofs))
 ((try simp -implicitDefEqProofs);repeat' first|((with_reducible first|apply Ac|apply Ad|apply A5)<;>(intro hc;have hc':=hc;(try simp at hc');simp -implicitDefEqProofs [hc,hc'])))
def Cb (k:Int):Int:=if (3≤k∧k≤6)∨k=20 then 1 else if 7≤k∧k≤19 then 2 else 0
def kdB (k:Int):Bool:=decide (1≤k)&&decide (k≤22)
theorem A51 (k:Int):A8 Tryz.prog 170 [vI k] (vI (Cb k)):=by
 generalize hR:vI (Cb k)=R
 unfold Cb at hR
 (refine A8.of_code mix Tryz.call170 k_170 (by simp) (fun hB=>?_);(try simp at hB);(try simp -implicitDefEqProofs))
 ((try simp -implicitDefEqProofs);repeat' first|((with_reducible first|apply Ac|apply Ad|apply A5)<;>(intro hc;have hc':=hc;(try simp at hc');simp -implicitDefEqProofs [hc,hc'])))
 all_goals (subst hR;congr 2;split<;>(try split)<;>(try simp_all)<;>omega)
namespace Xp
mutual
def dep:Xp→Nat
 | .mk _ _ _ _ _ xs=>deps xs+1
def deps:List Xp→Nat
 | []=>0
 | x::ys=>max (dep x) (deps ys)
end
theorem dep_cnt : ∀x:Xp,dep x≤cnt x:=by
 refine ind fun k v f t n xs ih=>?_
 rw [dep,cnt]
 have : ∀l:List Xp,(∀a∈l,dep a≤cnt a)→deps l≤cnts l:=by
  intro l
  induction l with
  | nil=>intro _;simp [deps]
  | cons x l ih2=>
   intro h
   have h1:=h x (by simp)
   have h2:=ih2 fun a ha=>h a (by simp [ha])
   simp only [deps,cnts]
   omega
 have:=this xs ih
 omega
theorem deps_append (a b:List Xp):deps (a++b)=max (deps a) (deps b):=by
 induction a with
 | nil=>simp [deps]
 | cons x a ih=>simp only [List.cons_append,deps,ih];omega
end Xp
theorem A22 : ∀(x:Xp),x.cnt≤100000→A8 Tryz.prog 137 [x.v] (vI x.dep):=by
 refine Xp.ind fun kd vl fr to nm xs ih hcnt=>?_
 rw [Xp.cnt] at hcnt
 have hal:=Xp.cnts_len xs
 have hdc:Xp.deps xs≤100000:=by
  have:=Xp.dep_cnt (.mk kd vl fr to nm xs)
  rw [Xp.dep,Xp.cnt] at this
  omega
 rw [Xp.v,Xp.c_mk,Xp.dep]
 (refine A8.of_code mix Tryz.call137 k_137 (by simp) (fun hB=>?_);(try simp at hB);(try simp -implicitDefEqProofs))
 refine A7 (X:=Nat) (fun k=>k≤xs.length) (fun k=>[(3,vI (Xp.deps (xs.take k))),(7,Xp.l xs),(8,vI xs.length),(9,vI k)])
  (fun k=>⟨[],[]⟩) (fun k=>xs.length-k) 0 (by omega) (by simp [Xp.deps]) ?_
 rintro k hk hbd
 rcases Nat.lt_or_ge k xs.length with h|h
 ·have hx:xs[k]?=some xs[k]:=by simp [h]
  have hrec:=ih xs[k] (List.getElem_mem h) (by have:=Xp.cnts_mem (List.getElem_mem h);omega)
  have e3:IntKind.i64.wrap ((k:Int)+1)=(k:Int)+1:=wrap64 (by omega) (by omega)
  have hrv:Xp.deps (xs.take (k+1))=max (Xp.deps (xs.take k)) xs[k].dep:=by rw [Ag hx,Xp.deps_append];simp [Xp.deps]
  have hlc:=Du xs[k]
  have htc:=Cw xs[k]
  ((try simp at hrec);(try simp -implicitDefEqProofs [h,e3,hlc,htc]);repeat' first|(with_reducible apply A0<;>first|(simp only [eras,era,A1];first|with_reducible assumption)|(simp -implicitDefEqProofs [h,e3,hlc,htc])))
  exact⟨k+1,by omega,by omega,by rw [hrv];omega,by push_cast;rfl⟩
 ·have:k=xs.length:=by omega
  subst this
  have e3:IntKind.i64.wrap ((Xp.deps xs:Int)+1)=(Xp.deps xs:Int)+1:=wrap64 (by omega) (by omega)
  (try simp -implicitDefEqProofs [e3])
theorem A52 : ∀(x:Xp) (m:Nat),1≤m→m≤1000→A8 Tryz.prog 24 [x.v,vI m] (vI (min x.cnt m:Nat)):=by
 refine Xp.ind fun kd vl fr to nm xs ih m hm1 hm2=>?_
 have e1m:min 1 m=1:=by omega
 rw [Xp.v,Xp.c_mk,Xp.cnt]
 (refine A8.of_code mix Tryz.call24 k_24 (by simp) (fun hB=>?_);(try simp at hB);(try simp -implicitDefEqProofs))
 refine A7 (X:=Nat) (fun k=>k≤xs.length∧k≤m) (fun k=>[(1,vI m),(2,.ptr 0 0),(5,vI (min (1+Xp.cnts (xs.take k)) m:Nat)),(6,vI k)])
  (fun k=>⟨[.cells [vI kd,vI vl,vI fr,vI to,vS nm,Xp.l xs]],[]⟩) (fun k=>xs.length-k) 0 (by omega) (by simp [Xp.cnts,e1m]) ?_
 rintro k ⟨hk,hkm⟩ hbd
 have hlk:=Xp.cnts_len (xs.take k)
 rw [List.length_take] at hlk
 generalize hn:min (1+Xp.cnts (xs.take k)) m=n at *
 rcases Nat.lt_or_ge k xs.length with h|h
 ·have hx:xs[k]?=some xs[k]:=by simp [h]
  have hsum:Xp.cnts xs=Xp.cnts (xs.take k)+(xs[k].cnt+Xp.cnts (xs.drop (k+1))):=by
   conv=>lhs;rw [←List.take_append_drop k xs,Xp.cnts_append,List.drop_eq_getElem_cons h]
   rfl
  by_cases hnm:n<m
  ·have hrec:=ih xs[k] (List.getElem_mem h) (m-n) (by omega) (by omega)
   have e1:IntKind.i64.wrap ((m:Int)-n)=((m-n:Nat):Int):=by rw [wrap64 (by omega) (by omega)];omega
   have e2:IntKind.i64.wrap ((n:Int)+((min xs[k].cnt (m-n):Nat):Int))=(n:Int)+((min xs[k].cnt (m-n):Nat):Int):=wrap64 (by omega) (by omega)
   have e3:IntKind.i64.wrap ((k:Int)+1)=(k:Int)+1:=wrap64 (by omega) (by omega)
   have hrv:Xp.cnts (xs.take (k+1))=Xp.cnts (xs.take k)+xs[k].cnt:=by rw [Ag hx,Xp.cnts_append];simp [Xp.cnts]
   have hlc:=Du xs[k]
   have htc:=Cw xs[k]
   have hs:min (1+Xp.cnts (xs.take (k+1))) m=n+min xs[k].cnt (m-n):=by rw [hrv];omega
   generalize min xs[k].cnt (m-n)=z at *
   ((try simp at hrec);(try simp -implicitDefEqProofs [h,hnm,e1,e2,e3,hlc,htc]);repeat' first|(with_reducible apply A0<;>first|(simp only [eras,era,A1];first|with_reducible assumption)|(simp -implicitDefEqProofs [h,hnm,e1,e2,e3,hlc,htc])))
   exact⟨k+1,⟨by omega,by omega⟩,by omega,by rw [hs];push_cast;rfl,by push_cast;rfl⟩
  ·have hfin:min (1+Xp.cnts xs) m=n:=by omega
   rw [hfin]
   (try simp -implicitDefEqProofs [h,hnm])
 ·have:k=xs.length:=by omega
  subst this
  rw [List.take_length] at hn
  rw [hn]
  (try simp -implicitDefEqProofs [hn])
end Go.Proofs.YtmlpmdccfmmpoaaGreatDoor
end
end
