/- Integers of any length: sums and products of limbs. -/
import Derived.Test.YtmlpmdccfmmpoaaGreatIn2
set_option linter.unusedSimpArgs false
set_option linter.unusedVariables false
set_option maxHeartbeats 2000000
set_option maxRecDepth 8000
namespace Go.Proofs.YtmlpmdccfmmpoaaGreat
open E

def bE (k:IntKind) (l:List Nat):List V:=l.map fun (x:Nat)=>V.t (T.int k (x:Int))
@[simp] theorem Sa (k:IntKind) (l:List Nat):(bE k l).length=l.length:=by simp [bE]
theorem O4 : ∀{l:List V} {a b:Nat},(∀v∈l,∃x,v=.t x)→okNs a b l=true
 | [],_,_,_=>rfl
 | v::l,a,b,h=>by
  obtain⟨x,rfl⟩:=h v (by simp)
  simp only [okNs,okN,O4 (l:=l) (a:=a) (b:=b) fun w hw=>h w (by simp [hw]),Bool.and_self]
theorem Aw (k:IntKind) (l:List Nat) (a b:Nat):okNs a b (bE k l)=true:=O4 fun v hv=>by obtain⟨x,_,rfl⟩:=List.mem_map.1 hv;exact⟨_,rfl⟩
theorem Gr {k:IntKind} {l:List Nat} {i x:Nat} (h:l[i]?=some x):(bE k l)[i]?=some (.t (.int k (x:Int))):=by simp [bE,h]
theorem Ga {k:IntKind} {l:List Nat} {i x:Nat} (h:l[i]?=some x) : ∀hi,(bE k l)[i]'hi=.t (.int k (x:Int)):=fun hi=>by
 have:=Gr (k:=k) h;rw [List.getElem?_eq_getElem hi] at this;exact Option.some.inj this
theorem Cl {k:IntKind} {l:List Nat} {i:Nat} (v:Nat) (h:i<l.length):(bE k l).take i++V.t (T.int k (v:Int))::(bE k l).drop (i+1)=bE k (l.set i v):=by
 rw [List.set_eq_take_append_cons_drop,if_pos h];simp [bE,List.map_take,List.map_drop]
theorem M6 (k:IntKind) : ∀(l:List Nat),Bm (bE k l)=some (l.map fun (x:Nat)=>T.int k (x:Int))
 | []=>rfl
 | n::l=>by have:=M6 k l;unfold bE at this ⊢;simp [Bm,toT,this]
theorem Ug (k:IntKind) (l:List Nat):(Bm ((bE k l).take l.length)).bind (Fv 1 l.length)=some (lE k l):=by
 rw [List.take_of_length_le (by simp),M6,Option.bind_some]
 unfold Fv
 rw [if_pos (by simp)]
 congr 1
 apply List.ext_getElem?
 intro i
 simp only [lE,List.getElem?_map,List.getElem?_range]
 rcases Nat.lt_or_ge i l.length with h|h
 ·simp [h,List.take_one,List.head?_drop]
 ·simp [h]
theorem Uh (k:IntKind) (l:List Nat):(lE k l).flatten.map V.t=bE k l:=by
 induction l with
 | nil=>rfl
 | cons x l ih=>simp only [lE,bE,List.map_cons,List.flatten_cons] at ih ⊢;simp [ih]
theorem M7 (k:IntKind) (l:List Nat):((lE k l).map (List.map V.t)).flatten=bE k l:=by
 rw [←Uh,List.map_flatten]
theorem Sb (k:IntKind) (l:List Nat):((lE k l).map (List.length∘List.map V.t)).sum=l.length:=by
 induction l with
 | nil=>rfl
 | cons x l ih=>simp only [lE,List.map_cons,List.sum_cons] at ih ⊢;simp only [ih,List.length_cons];simp [Nat.add_comm]
theorem Ci (k:IntKind) (l:List Nat):(Bm (bE k l)).bind (Fv 1 l.length)=some (lE k l):=by
 have:=Ug k l;rwa [List.take_of_length_le (by simp)] at this
theorem Kr (k:IntKind) (n:Nat):(List.replicate n [V.t (T.int k 0)]).flatten=bE k (List.replicate n 0):=by
 induction n with
 | zero=>rfl
 | succ n ih=>rw [List.replicate_succ,List.flatten_cons,ih];rfl
theorem Sc (k:IntKind) (a b:List Nat):bE k (a++b)=bE k a++bE k b:=by simp [bE]
theorem M8 {l:List Nat} {i:Nat} (v:Nat) (h:i<l.length):(l.set i v).take (i+1)=l.take i++[v]:=by
 rw [List.set_eq_take_append_cons_drop,if_pos h,List.take_append,List.length_take,Nat.min_eq_left (by omega)]
 rw [List.take_of_length_le (by simp;omega),show i+1-i=1 by omega];rfl
theorem drop_set {l:List Nat} {i:Nat} (v:Nat):(l.set i v).drop (i+1)=l.drop (i+1):=by rw [List.drop_set,if_pos (by omega)]
theorem P2 {B x y c:Nat} {o:List Nat} (hB:2≤B) (ho:Lim B o) (hl:o.length=max (A4 B x).length (A4 B y).length) (hc:c≤1) (e:lvl B o+c*B ^ o.length=x+y):Je B x y=if c=0 then o else o++[c]:=by
 have hlt:=Gq ho
 have h0:=Nat.pow_pos (n:=o.length) (show 0<B by omega)
 unfold Je
 simp only []
 rw [←hl]
 by_cases h:c=0
 ·subst h
  rw [Nat.zero_mul,Nat.add_zero] at e
  rw [if_pos (by omega),if_pos rfl,←e]
  exact (Kn (by omega) ho rfl rfl).symm
 ·have hc1:c=1:=by omega
  subst hc1
  rw [if_neg (by omega),if_neg h]
  refine (Kn (by omega) (ho.app (Lim.one (by omega))) (by simp) ?_).symm
  rw [Bh,←e];simp [lvl]
theorem Wo (x y:Nat) (hxl:(A4 b9 x).length≤1000) (hyl:(A4 b9 y).length≤1000):A7 Tryz.prog 125 [.t (lT .u32 (A4 b9 x)),.t (lT .u32 (A4 b9 y))] (.t (lT .u32 (Je b9 x y))):=by
 have hx:=Ak Bj x
 have hy:=Ak Bj y
 have hlx:=Aj Bj x
 have hly:=Aj Bj y
 unfold lT
 (refine A7.of_codeB mix Tryz.call125 kb_125 (by simp) (fun hB=>?_);(try simp at hB);(try simp -implicitDefEqProofs))
 rcases Nat.lt_or_ge (A4 b9 x).length (A4 b9 y).length with hlt|hge
 ·have e9:IntKind.i64.wrap (((A4 b9 y).length:Int)+1)=((A4 b9 y).length:Int)+1:=wrap64 (by omega) (by omega)
  (try simp -implicitDefEqProofs [hlt,e9])
  refine⟨⟨by omega,by unfold maxLen;omega,by omega⟩,Hi _ _,?_⟩
  obtain⟨M,hM⟩ : ∃M,M=A4 b9 x:=⟨_,rfl⟩
  obtain⟨L,hL⟩ : ∃L,L=A4 b9 y:=⟨_,rfl⟩
  rw [←hM] at hx hlx hlt hxl
  rw [←hL] at hy hly hlt hyl
  have hsum:lvl b9 L+lvl b9 M=x+y:=by omega
  have hMl:=hx
  have hLl:=hy
  have hmx:max (A4 b9 x).length (A4 b9 y).length=L.length:=by rw [←hM,←hL];omega
  simp only [←hM,←hL]
  have hLM:M.length≤L.length:=by omega
  refine Ac (X:=Nat×List Nat×Nat) (fun X=>X.1≤L.length∧X.2.1.length=L.length∧Lim b9 X.2.1∧X.2.2≤1∧lvl b9 (X.2.1.take X.1)+X.2.2*b9 ^ X.1=lvl b9 (L.take X.1)+lvl b9 (M.take X.1)∧X.2.1.drop X.1=L.drop X.1)
   (fun X=>[(1,.t (.sl (lE .u32 M))),(5,.bw 0 L.length),(6,.t (.int .u32 X.2.2)),(26,vI L.length),(27,vI X.1)]) (fun X=>⟨[.buf 137 1 (bE .u32 X.2.1)],[]⟩) (fun X=>L.length-X.1) (0,L,0) ⟨by simp,rfl,hLl,by simp,by simp [lvl],rfl⟩ ?_ ?_
  ·simp [Aw,M7,Sb,A3]
  rintro ⟨i,o,c⟩ ⟨hi,ho,hoL,hc,hv,hd⟩ hbd
  simp only [] at hi ho hoL hc hv hd
  clear hbd
  have fin:(i=L.length∨(M.length≤i∧c=0))→Je b9 x y=if c=0 then o else o++[c]:=fun h=>by
   refine P2 Bj hoL (by rw [hmx,ho]) hc ?_
   rw [ho,←hsum]
   have hM:M.take i=M:=List.take_of_length_le (by omega)
   rw [hM] at hv
   rcases h with h|⟨h,h0⟩
   ·subst h
    rw [List.take_of_length_le (by omega),List.take_of_length_le (Nat.le_refl _)] at hv
    exact hv
   ·subst h0
    have e1:=Dt b9 o (k:=i) (by omega)
    have e2:=Dt b9 L (k:=i) (by omega)
    rw [hd] at e1
    omega
  have hrow:=Ci .u32 o
  rw [ho] at hrow
  have hbt:(bE .u32 o).take L.length=bE .u32 o:=List.take_of_length_le (by simp;omega)
  have hb1:bE .u32 o++[V.t (T.int .u32 1)]=bE .u32 (o++[1]):=by rw [Sc];rfl
  have hr2:=Ci .u32 (o++[1])
  have ho1:(o++[1]).length=L.length+1:=by simp;omega
  rw [ho1] at hr2
  have hb2:(bE .u32 (o++[1])).take (L.length+1)=bE .u32 (o++[1]):=List.take_of_length_le (by simp;omega)
  have hcc:c=0∨c=1:=by omega
  rcases Nat.lt_or_ge i L.length with h|h
  ·obtain⟨u,hu⟩:=Aa (show i<o.length by omega)
   have g1:=Gr (k:=.u32) hu
   have g2:=Ga (k:=.u32) hu
   have e3:IntKind.i64.wrap ((i:Int)+1)=(i:Int)+1:=wrap64 (by omega) (by omega)
   have hub:=hoL.at hu
   have huL:L[i]?=some u:=by
    have e1:(o.drop i)[0]?=some u:=by rw [List.getElem?_drop];exact hu
    rw [hd,List.getElem?_drop] at e1;exact e1
   unfold b9 at hub
   have w1:IntKind.u32.wrap ((u:Int)+(c:Int))=((c+u:Nat):Int):=by rw [Int.add_comm];exact E7 (x:=c+u) (by omega)
   have step : ∀m,(i<M.length→M[i]?=some m)→(M.length≤i→m=0)→∀n,n=c+u+m→
     (o.set i (n % b9)).length=L.length∧Lim b9 (o.set i (n % b9))∧n / b9≤1∧lvl b9 ((o.set i (n % b9)).take (i+1))+n / b9*b9 ^ (i+1)=lvl b9 (L.take (i+1))+lvl b9 (M.take (i+1))∧(o.set i (n % b9)).drop (i+1)=L.drop (i+1):=fun m hm1 hm2 n hn=>by
    have hmb:m<b9:=by
     rcases Nat.lt_or_ge i M.length with h|h
     ·exact hMl.at (hm1 h)
     ·rw [hm2 h];decide
    refine⟨by simp [ho],hoL.set (Nat.mod_lt _ (by decide)) _,?_,?_,?_⟩
    ·rw [hn];unfold b9 at hmb ⊢;omega
    ·rw [M8 _ (by omega),hn,M1 (by rw [List.length_take];omega) hv,B3 huL]
     have eM:lvl b9 (M.take (i+1))=lvl b9 (M.take i)+b9 ^ i*m:=by
      rcases Nat.lt_or_ge i M.length with h|h
      ·exact B3 (hm1 h)
      ·rw [hm2 h,List.take_of_length_le (by omega),List.take_of_length_le h];simp
     rw [eM,Nat.mul_add];omega
    ·rw [drop_set]
     have:=congrArg (List.drop 1) hd
     rw [List.drop_drop,List.drop_drop] at this
     exact this
   rcases Nat.lt_or_ge i M.length with h2|h2
   ·obtain⟨m,hm⟩:=Aa h2
    have g3:=Bi (k:=.u32) hm
    have g4:=B8 (k:=.u32) hm
    have hmb:=hMl.at hm
    unfold b9 at hmb
    obtain⟨n,hn⟩ : ∃n,n=c+u+m:=⟨_,rfl⟩
    have st:=step m (fun _=>hm) (fun h=>by omega) n hn
    have w2:IntKind.u32.wrap (((c+u:Nat):Int)+(m:Int))=(n:Int):=by rw [hn];exact E7 (x:=c+u+m) (by omega)
    obtain⟨q,hq⟩ : ∃q,q=n / b9:=⟨_,rfl⟩
    obtain⟨d,hdd⟩ : ∃d,d=n % b9:=⟨_,rfl⟩
    rw [←hq,←hdd] at st
    have q1:(n:Int).tdiv 1000000000=(q:Int):=by rw [hq];rfl
    have q2:IntKind.u32.wrap (q:Int)=(q:Int):=E7 (by omega)
    have r1:(n:Int).tmod 1000000000=(d:Int):=by rw [hdd];rfl
    have r2:IntKind.u32.wrap (d:Int)=(d:Int):=E7 (by rw [hdd];unfold b9;omega)
    have hp:=Cl (k:=.u32) d (show i<o.length by omega)
    have h3 : ¬M.length≤i:=by omega
    have w1':IntKind.u32.wrap ((u:Int)+(c:Int))=(c:Int)+(u:Int):=by rw [w1];push_cast;rfl
    have w2':IntKind.u32.wrap ((c:Int)+(u:Int)+(m:Int))=(n:Int):=by rw [←w2];push_cast;rfl
    (try simp -implicitDefEqProofs [h,h2,h3,g1,g2,g3,g4,w1',w2',q1,q2,r1,r2,hp,e3,ho])
    refine⟨by omega,i+1,o.set i d,q,⟨by omega,st⟩,by omega,?_⟩
    simp [Aw,A3]
   ·have h3 : ¬i<M.length:=by omega
    rcases hcc with rfl|rfl
    ·have f:=fin (.inr ⟨h2,rfl⟩)
     rw [if_pos rfl] at f
     rw [f]
     (try simp -implicitDefEqProofs [h,h2,h3,hbt,hrow,Bo,ho])
    ·obtain⟨n,hn⟩ : ∃n,n=1+u+0:=⟨_,rfl⟩
     have st:=step 0 (fun h=>by omega) (fun _=>rfl) n hn
     obtain⟨q,hq⟩ : ∃q,q=n / b9:=⟨_,rfl⟩
     obtain⟨d,hdd⟩ : ∃d,d=n % b9:=⟨_,rfl⟩
     rw [←hq,←hdd] at st
     have w1':IntKind.u32.wrap ((u:Int)+1)=(n:Int):=by rw [hn,Int.add_comm];exact E7 (x:=1+u+0) (by omega)
     have q1:(n:Int).tdiv 1000000000=(q:Int):=by rw [hq];rfl
     have q2:IntKind.u32.wrap (q:Int)=(q:Int):=E7 (by omega)
     have r1:(n:Int).tmod 1000000000=(d:Int):=by rw [hdd];rfl
     have r2:IntKind.u32.wrap (d:Int)=(d:Int):=E7 (by rw [hdd];unfold b9;omega)
     have hp:=Cl (k:=.u32) d (show i<o.length by omega)
     (try simp -implicitDefEqProofs [h,h2,h3,g1,g2,w1',q1,q2,r1,r2,hp,e3,ho])
     refine⟨by omega,i+1,o.set i d,q,⟨by omega,st⟩,by omega,?_⟩
     simp [Aw,A3]
  ·have hiL:i=L.length:=by omega
   subst hiL
   have f:=fin (.inl rfl)
   rw [f]
   rcases hcc with rfl|rfl
   ·(try simp -implicitDefEqProofs [hbt,hrow,Bo,ho])
   ·(try simp -implicitDefEqProofs [hbt,hb1,hb2,hr2,Bo,ho,maxLen,Aw,Sa])
    exact⟨by omega,by omega⟩
 ·have e9:IntKind.i64.wrap (((A4 b9 x).length:Int)+1)=((A4 b9 x).length:Int)+1:=wrap64 (by omega) (by omega)
  have hge' : ¬(A4 b9 x).length<(A4 b9 y).length:=by omega
  (try simp -implicitDefEqProofs [hge',e9])
  refine⟨⟨by omega,by unfold maxLen;omega,by omega⟩,Hi _ _,?_⟩
  obtain⟨L,hL⟩ : ∃L,L=A4 b9 x:=⟨_,rfl⟩
  obtain⟨M,hM⟩ : ∃M,M=A4 b9 y:=⟨_,rfl⟩
  rw [←hL] at hx hlx hge hxl
  rw [←hM] at hy hly hge hyl
  have hsum:lvl b9 L+lvl b9 M=x+y:=by omega
  have hMl:=hy
  have hLl:=hx
  have hmx:max (A4 b9 x).length (A4 b9 y).length=L.length:=by rw [←hM,←hL];omega
  simp only [←hM,←hL]
  have hLM:M.length≤L.length:=by omega
  refine Ac (X:=Nat×List Nat×Nat) (fun X=>X.1≤L.length∧X.2.1.length=L.length∧Lim b9 X.2.1∧X.2.2≤1∧lvl b9 (X.2.1.take X.1)+X.2.2*b9 ^ X.1=lvl b9 (L.take X.1)+lvl b9 (M.take X.1)∧X.2.1.drop X.1=L.drop X.1)
   (fun X=>[(1,.t (.sl (lE .u32 M))),(5,.bw 0 L.length),(6,.t (.int .u32 X.2.2)),(26,vI L.length),(27,vI X.1)]) (fun X=>⟨[.buf 137 1 (bE .u32 X.2.1)],[]⟩) (fun X=>L.length-X.1) (0,L,0) ⟨by simp,rfl,hLl,by simp,by simp [lvl],rfl⟩ ?_ ?_
  ·simp [Aw,M7,Sb,A3]
  rintro ⟨i,o,c⟩ ⟨hi,ho,hoL,hc,hv,hd⟩ hbd
  simp only [] at hi ho hoL hc hv hd
  clear hbd
  have fin:(i=L.length∨(M.length≤i∧c=0))→Je b9 x y=if c=0 then o else o++[c]:=fun h=>by
   refine P2 Bj hoL (by rw [hmx,ho]) hc ?_
   rw [ho,←hsum]
   have hM:M.take i=M:=List.take_of_length_le (by omega)
   rw [hM] at hv
   rcases h with h|⟨h,h0⟩
   ·subst h
    rw [List.take_of_length_le (by omega),List.take_of_length_le (Nat.le_refl _)] at hv
    exact hv
   ·subst h0
    have e1:=Dt b9 o (k:=i) (by omega)
    have e2:=Dt b9 L (k:=i) (by omega)
    rw [hd] at e1
    omega
  have hrow:=Ci .u32 o
  rw [ho] at hrow
  have hbt:(bE .u32 o).take L.length=bE .u32 o:=List.take_of_length_le (by simp;omega)
  have hb1:bE .u32 o++[V.t (T.int .u32 1)]=bE .u32 (o++[1]):=by rw [Sc];rfl
  have hr2:=Ci .u32 (o++[1])
  have ho1:(o++[1]).length=L.length+1:=by simp;omega
  rw [ho1] at hr2
  have hb2:(bE .u32 (o++[1])).take (L.length+1)=bE .u32 (o++[1]):=List.take_of_length_le (by simp;omega)
  have hcc:c=0∨c=1:=by omega
  rcases Nat.lt_or_ge i L.length with h|h
  ·obtain⟨u,hu⟩:=Aa (show i<o.length by omega)
   have g1:=Gr (k:=.u32) hu
   have g2:=Ga (k:=.u32) hu
   have e3:IntKind.i64.wrap ((i:Int)+1)=(i:Int)+1:=wrap64 (by omega) (by omega)
   have hub:=hoL.at hu
   have huL:L[i]?=some u:=by
    have e1:(o.drop i)[0]?=some u:=by rw [List.getElem?_drop];exact hu
    rw [hd,List.getElem?_drop] at e1;exact e1
   unfold b9 at hub
   have w1:IntKind.u32.wrap ((u:Int)+(c:Int))=((c+u:Nat):Int):=by rw [Int.add_comm];exact E7 (x:=c+u) (by omega)
   have step : ∀m,(i<M.length→M[i]?=some m)→(M.length≤i→m=0)→∀n,n=c+u+m→
     (o.set i (n % b9)).length=L.length∧Lim b9 (o.set i (n % b9))∧n / b9≤1∧lvl b9 ((o.set i (n % b9)).take (i+1))+n / b9*b9 ^ (i+1)=lvl b9 (L.take (i+1))+lvl b9 (M.take (i+1))∧(o.set i (n % b9)).drop (i+1)=L.drop (i+1):=fun m hm1 hm2 n hn=>by
    have hmb:m<b9:=by
     rcases Nat.lt_or_ge i M.length with h|h
     ·exact hMl.at (hm1 h)
     ·rw [hm2 h];decide
    refine⟨by simp [ho],hoL.set (Nat.mod_lt _ (by decide)) _,?_,?_,?_⟩
    ·rw [hn];unfold b9 at hmb ⊢;omega
    ·rw [M8 _ (by omega),hn,M1 (by rw [List.length_take];omega) hv,B3 huL]
     have eM:lvl b9 (M.take (i+1))=lvl b9 (M.take i)+b9 ^ i*m:=by
      rcases Nat.lt_or_ge i M.length with h|h
      ·exact B3 (hm1 h)
      ·rw [hm2 h,List.take_of_length_le (by omega),List.take_of_length_le h];simp
     rw [eM,Nat.mul_add];omega
    ·rw [drop_set]
     have:=congrArg (List.drop 1) hd
     rw [List.drop_drop,List.drop_drop] at this
     exact this
   rcases Nat.lt_or_ge i M.length with h2|h2
   ·obtain⟨m,hm⟩:=Aa h2
    have g3:=Bi (k:=.u32) hm
    have g4:=B8 (k:=.u32) hm
    have hmb:=hMl.at hm
    unfold b9 at hmb
    obtain⟨n,hn⟩ : ∃n,n=c+u+m:=⟨_,rfl⟩
    have st:=step m (fun _=>hm) (fun h=>by omega) n hn
    have w2:IntKind.u32.wrap (((c+u:Nat):Int)+(m:Int))=(n:Int):=by rw [hn];exact E7 (x:=c+u+m) (by omega)
    obtain⟨q,hq⟩ : ∃q,q=n / b9:=⟨_,rfl⟩
    obtain⟨d,hdd⟩ : ∃d,d=n % b9:=⟨_,rfl⟩
    rw [←hq,←hdd] at st
    have q1:(n:Int).tdiv 1000000000=(q:Int):=by rw [hq];rfl
    have q2:IntKind.u32.wrap (q:Int)=(q:Int):=E7 (by omega)
    have r1:(n:Int).tmod 1000000000=(d:Int):=by rw [hdd];rfl
    have r2:IntKind.u32.wrap (d:Int)=(d:Int):=E7 (by rw [hdd];unfold b9;omega)
    have hp:=Cl (k:=.u32) d (show i<o.length by omega)
    have h3 : ¬M.length≤i:=by omega
    have w1':IntKind.u32.wrap ((u:Int)+(c:Int))=(c:Int)+(u:Int):=by rw [w1];push_cast;rfl
    have w2':IntKind.u32.wrap ((c:Int)+(u:Int)+(m:Int))=(n:Int):=by rw [←w2];push_cast;rfl
    (try simp -implicitDefEqProofs [h,h2,h3,g1,g2,g3,g4,w1',w2',q1,q2,r1,r2,hp,e3,ho])
    refine⟨by omega,i+1,o.set i d,q,⟨by omega,st⟩,by omega,?_⟩
    simp [Aw,A3]
   ·have h3 : ¬i<M.length:=by omega
    rcases hcc with rfl|rfl
    ·have f:=fin (.inr ⟨h2,rfl⟩)
     rw [if_pos rfl] at f
     rw [f]
     (try simp -implicitDefEqProofs [h,h2,h3,hbt,hrow,Bo,ho])
    ·obtain⟨n,hn⟩ : ∃n,n=1+u+0:=⟨_,rfl⟩
     have st:=step 0 (fun h=>by omega) (fun _=>rfl) n hn
     obtain⟨q,hq⟩ : ∃q,q=n / b9:=⟨_,rfl⟩
     obtain⟨d,hdd⟩ : ∃d,d=n % b9:=⟨_,rfl⟩
     rw [←hq,←hdd] at st
     have w1':IntKind.u32.wrap ((u:Int)+1)=(n:Int):=by rw [hn,Int.add_comm];exact E7 (x:=1+u+0) (by omega)
     have q1:(n:Int).tdiv 1000000000=(q:Int):=by rw [hq];rfl
     have q2:IntKind.u32.wrap (q:Int)=(q:Int):=E7 (by omega)
     have r1:(n:Int).tmod 1000000000=(d:Int):=by rw [hdd];rfl
     have r2:IntKind.u32.wrap (d:Int)=(d:Int):=E7 (by rw [hdd];unfold b9;omega)
     have hp:=Cl (k:=.u32) d (show i<o.length by omega)
     (try simp -implicitDefEqProofs [h,h2,h3,g1,g2,w1',q1,q2,r1,r2,hp,e3,ho])
     refine⟨by omega,i+1,o.set i d,q,⟨by omega,st⟩,by omega,?_⟩
     simp [Aw,A3]
  ·have hiL:i=L.length:=by omega
   subst hiL
   have f:=fin (.inl rfl)
   rw [f]
   rcases hcc with rfl|rfl
   ·(try simp -implicitDefEqProofs [hbt,hrow,Bo,ho])
   ·(try simp -implicitDefEqProofs [hbt,hb1,hb2,hr2,Bo,ho,maxLen,Aw,Sa])
    exact⟨by omega,by omega⟩
end Go.Proofs.YtmlpmdccfmmpoaaGreat
