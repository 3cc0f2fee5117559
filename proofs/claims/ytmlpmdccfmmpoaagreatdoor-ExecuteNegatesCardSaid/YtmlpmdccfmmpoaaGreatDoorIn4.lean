/- Integers of any length: products of limbs. -/
import Derived.Test.YtmlpmdccfmmpoaaGreatDoorIn2
set_option linter.unusedSimpArgs false
set_option linter.unusedVariables false
set_option maxHeartbeats 2000000
set_option maxRecDepth 8000
namespace Go.Proofs.YtmlpmdccfmmpoaaGreatDoor
open E
def bE (k:IntKind) (l:List Nat):List V:=l.map fun (x:Nat)=>V.t (T.int k (x:Int))
@[simp] theorem Zp (k:IntKind) (l:List Nat):(bE k l).length=l.length:=by simp [bE]
theorem U5 : ∀{l:List V} {a b:Nat},(∀v∈l,∃x,v=.t x)→okNs a b l=true
 | [],_,_,_=>rfl
 | v::l,a,b,h=>by
  obtain⟨x,rfl⟩:=h v (by simp)
  simp only [okNs,okN,U5 (l:=l) (a:=a) (b:=b) fun w hw=>h w (by simp [hw]),Bool.and_self]
theorem B9 (k:IntKind) (l:List Nat) (a b:Nat):okNs a b (bE k l)=true:=U5 fun v hv=>by obtain⟨x,_,rfl⟩:=List.mem_map.1 hv;exact⟨_,rfl⟩
theorem Jn {k:IntKind} {l:List Nat} {i x:Nat} (h:l[i]?=some x):(bE k l)[i]?=some (.t (.int k (x:Int))):=by simp [bE,h]
theorem J2 {k:IntKind} {l:List Nat} {i x:Nat} (h:l[i]?=some x) : ∀hi,(bE k l)[i]'hi=.t (.int k (x:Int)):=fun hi=>by
 have:=Jn (k:=k) h;rw [List.getElem?_eq_getElem hi] at this;exact Option.some.inj this
theorem De {k:IntKind} {l:List Nat} {i:Nat} (v:Nat) (h:i<l.length):(bE k l).take i++V.t (T.int k (v:Int))::(bE k l).drop (i+1)=bE k (l.set i v):=by
 rw [List.set_eq_take_append_cons_drop,if_pos h];simp [bE,List.map_take,List.map_drop]
theorem R6 (k:IntKind) : ∀(l:List Nat),Bu (bE k l)=some (l.map fun (x:Nat)=>T.int k (x:Int))
 | []=>rfl
 | n::l=>by have:=R6 k l;unfold bE at this ⊢;simp [Bu,toT,this]
theorem A2f (k:IntKind) (l:List Nat):(Bu ((bE k l).take l.length)).bind (F0 1 l.length)=some (lE k l):=by
 rw [List.take_of_length_le (by simp),R6,Option.bind_some]
 unfold F0
 rw [if_pos (by simp)]
 congr 1
 apply List.ext_getElem?
 intro i
 simp only [lE,List.getElem?_map,List.getElem?_range]
 rcases Nat.lt_or_ge i l.length with h|h
 ·simp [h,List.take_one,List.head?_drop]
 ·simp [h]
theorem A2g (k:IntKind) (l:List Nat):(lE k l).flatten.map V.t=bE k l:=by
 induction l with
 | nil=>rfl
 | cons x l ih=>simp only [lE,bE,List.map_cons,List.flatten_cons] at ih ⊢;simp [ih]
theorem R7 (k:IntKind) (l:List Nat):((lE k l).map (List.map V.t)).flatten=bE k l:=by
 rw [←A2g,List.map_flatten]
theorem Zq (k:IntKind) (l:List Nat):((lE k l).map (List.length∘List.map V.t)).sum=l.length:=by
 induction l with
 | nil=>rfl
 | cons x l ih=>simp only [lE,List.map_cons,List.sum_cons] at ih ⊢;simp only [ih,List.length_cons];simp [Nat.add_comm]
theorem D6 (k:IntKind) (l:List Nat):(Bu (bE k l)).bind (F0 1 l.length)=some (lE k l):=by
 have:=A2f k l;rwa [List.take_of_length_le (by simp)] at this
theorem P4 (k:IntKind) (n:Nat):(List.replicate n [V.t (T.int k 0)]).flatten=bE k (List.replicate n 0):=by
 induction n with
 | zero=>rfl
 | succ n ih=>rw [List.replicate_succ,List.flatten_cons,ih];rfl
theorem Zr (k:IntKind) (a b:List Nat):bE k (a++b)=bE k a++bE k b:=by simp [bE]
theorem R8 {l:List Nat} {i:Nat} (v:Nat) (h:i<l.length):(l.set i v).take (i+1)=l.take i++[v]:=by
 rw [List.set_eq_take_append_cons_drop,if_pos h,List.take_append,List.length_take,Nat.min_eq_left (by omega)]
 rw [List.take_of_length_le (by simp;omega),show i+1-i=1 by omega];rfl
theorem drop_set {l:List Nat} {i:Nat} (v:Nat):(l.set i v).drop (i+1)=l.drop (i+1):=by rw [List.drop_set,if_pos (by omega)]
theorem Vi {B x y c:Nat} {o:List Nat} (hB:2≤B) (ho:Lim B o) (hl:o.length=max (A9 B x).length (A9 B y).length) (hc:c≤1) (e:lvl B o+c*B ^ o.length=x+y):Na B x y=if c=0 then o else o++[c]:=by
 have hlt:=Jm ho
 have h0:=Nat.pow_pos (n:=o.length) (show 0<B by omega)
 unfold Na
 simp only []
 rw [←hl]
 by_cases h:c=0
 ·subst h
  rw [Nat.zero_mul,Nat.add_zero] at e
  rw [if_pos (by omega),if_pos rfl,←e]
  exact (P0 (by omega) ho rfl rfl).symm
 ·have hc1:c=1:=by omega
  subst hc1
  rw [if_neg (by omega),if_neg h]
  refine (P0 (by omega) (ho.app (Lim.one (by omega))) (by simp) ?_).symm
  rw [C4,←e];simp [lvl]
theorem A5f (x y:Nat) (hxl:(A9 b9 x).length≤1000) (hyl:(A9 b9 y).length≤1000):A8 Tryz.prog 212 [.t (lT .u32 (A9 b9 x)),.t (lT .u32 (A9 b9 y))] (.t (lT .u32 (Na b9 x y))):=by
 have hx:=Ar C8 x
 have hy:=Ar C8 y
 have hlx:=An C8 x
 have hly:=An C8 y
 unfold lT
 (refine A8.of_codeB mix Tryz.call212 kb_212 (by simp) (fun hB=>?_);(try simp at hB);(try simp -implicitDefEqProofs))
 rcases Nat.lt_or_ge (A9 b9 x).length (A9 b9 y).length with hlt|hge
 ·have e9:IntKind.i64.wrap (((A9 b9 y).length:Int)+1)=((A9 b9 y).length:Int)+1:=wrap64 (by omega) (by omega)
  (try simp -implicitDefEqProofs [hlt,e9])
  refine⟨⟨by omega,by unfold maxLen;omega,by omega⟩,Kv _ _,?_⟩
  obtain⟨M,hM⟩ : ∃M,M=A9 b9 x:=⟨_,rfl⟩
  obtain⟨L,hL⟩ : ∃L,L=A9 b9 y:=⟨_,rfl⟩
  rw [←hM] at hx hlx hlt hxl
  rw [←hL] at hy hly hlt hyl
  have hsum:lvl b9 L+lvl b9 M=x+y:=by omega
  have hMl:=hx
  have hLl:=hy
  have hmx:max (A9 b9 x).length (A9 b9 y).length=L.length:=by rw [←hM,←hL];omega
  simp only [←hM,←hL]
  have hLM:M.length≤L.length:=by omega
  refine A7 (X:=Nat×List Nat×Nat) (fun X=>X.1≤L.length∧X.2.1.length=L.length∧Lim b9 X.2.1∧X.2.2≤1∧lvl b9 (X.2.1.take X.1)+X.2.2*b9 ^ X.1=lvl b9 (L.take X.1)+lvl b9 (M.take X.1)∧X.2.1.drop X.1=L.drop X.1)
   (fun X=>[(1,.t (.sl (lE .u32 M))),(5,.bw 0 L.length),(6,.t (.int .u32 X.2.2)),(26,vI L.length),(27,vI X.1)]) (fun X=>⟨[.buf 215 1 (bE .u32 X.2.1)],[]⟩) (fun X=>L.length-X.1) (0,L,0) ⟨by simp,rfl,hLl,by simp,by simp [lvl],rfl⟩ ?_ ?_
  ·simp [B9,R7,Zq,A3]
  rintro ⟨i,o,c⟩ ⟨hi,ho,hoL,hc,hv,hd⟩ hbd
  simp only [] at hi ho hoL hc hv hd
  clear hbd
  have fin:(i=L.length∨(M.length≤i∧c=0))→Na b9 x y=if c=0 then o else o++[c]:=fun h=>by
   refine Vi C8 hoL (by rw [hmx,ho]) hc ?_
   rw [ho,←hsum]
   have hM:M.take i=M:=List.take_of_length_le (by omega)
   rw [hM] at hv
   rcases h with h|⟨h,h0⟩
   ·subst h
    rw [List.take_of_length_le (by omega),List.take_of_length_le (Nat.le_refl _)] at hv
    exact hv
   ·subst h0
    have e1:=Fm b9 o (k:=i) (by omega)
    have e2:=Fm b9 L (k:=i) (by omega)
    rw [hd] at e1
    omega
  have hrow:=D6 .u32 o
  rw [ho] at hrow
  have hbt:(bE .u32 o).take L.length=bE .u32 o:=List.take_of_length_le (by simp;omega)
  have hb1:bE .u32 o++[V.t (T.int .u32 1)]=bE .u32 (o++[1]):=by rw [Zr];rfl
  have hr2:=D6 .u32 (o++[1])
  have ho1:(o++[1]).length=L.length+1:=by simp;omega
  rw [ho1] at hr2
  have hb2:(bE .u32 (o++[1])).take (L.length+1)=bE .u32 (o++[1]):=List.take_of_length_le (by simp;omega)
  have hcc:c=0∨c=1:=by omega
  rcases Nat.lt_or_ge i L.length with h|h
  ·obtain⟨u,hu⟩:=Aa (show i<o.length by omega)
   have g1:=Jn (k:=.u32) hu
   have g2:=J2 (k:=.u32) hu
   have e3:IntKind.i64.wrap ((i:Int)+1)=(i:Int)+1:=wrap64 (by omega) (by omega)
   have hub:=hoL.at hu
   have huL:L[i]?=some u:=by
    have e1:(o.drop i)[0]?=some u:=by rw [List.getElem?_drop];exact hu
    rw [hd,List.getElem?_drop] at e1;exact e1
   unfold b9 at hub
   have w1:IntKind.u32.wrap ((u:Int)+(c:Int))=((c+u:Nat):Int):=by rw [Int.add_comm];exact G1 (x:=c+u) (by omega)
   have step : ∀m,(i<M.length→M[i]?=some m)→(M.length≤i→m=0)→∀n,n=c+u+m→
     (o.set i (n % b9)).length=L.length∧Lim b9 (o.set i (n % b9))∧n / b9≤1∧lvl b9 ((o.set i (n % b9)).take (i+1))+n / b9*b9 ^ (i+1)=lvl b9 (L.take (i+1))+lvl b9 (M.take (i+1))∧(o.set i (n % b9)).drop (i+1)=L.drop (i+1):=fun m hm1 hm2 n hn=>by
    have hmb:m<b9:=by
     rcases Nat.lt_or_ge i M.length with h|h
     ·exact hMl.at (hm1 h)
     ·rw [hm2 h];decide
    refine⟨by simp [ho],hoL.set (Nat.mod_lt _ (by decide)) _,?_,?_,?_⟩
    ·rw [hn];unfold b9 at hmb ⊢;omega
    ·rw [R8 _ (by omega),hn,R1 (by rw [List.length_take];omega) hv,Bg huL]
     have eM:lvl b9 (M.take (i+1))=lvl b9 (M.take i)+b9 ^ i*m:=by
      rcases Nat.lt_or_ge i M.length with h|h
      ·exact Bg (hm1 h)
      ·rw [hm2 h,List.take_of_length_le (by omega),List.take_of_length_le h];simp
     rw [eM,Nat.mul_add];omega
    ·rw [drop_set]
     have:=congrArg (List.drop 1) hd
     rw [List.drop_drop,List.drop_drop] at this
     exact this
   rcases Nat.lt_or_ge i M.length with h2|h2
   ·obtain⟨m,hm⟩:=Aa h2
    have g3:=C7 (k:=.u32) hm
    have g4:=Bo (k:=.u32) hm
    have hmb:=hMl.at hm
    unfold b9 at hmb
    obtain⟨n,hn⟩ : ∃n,n=c+u+m:=⟨_,rfl⟩
    have st:=step m (fun _=>hm) (fun h=>by omega) n hn
    have w2:IntKind.u32.wrap (((c+u:Nat):Int)+(m:Int))=(n:Int):=by rw [hn];exact G1 (x:=c+u+m) (by omega)
    obtain⟨q,hq⟩ : ∃q,q=n / b9:=⟨_,rfl⟩
    obtain⟨d,hdd⟩ : ∃d,d=n % b9:=⟨_,rfl⟩
    rw [←hq,←hdd] at st
    have q1:(n:Int).tdiv 1000000000=(q:Int):=by rw [hq];rfl
    have q2:IntKind.u32.wrap (q:Int)=(q:Int):=G1 (by omega)
    have r1:(n:Int).tmod 1000000000=(d:Int):=by rw [hdd];rfl
    have r2:IntKind.u32.wrap (d:Int)=(d:Int):=G1 (by rw [hdd];unfold b9;omega)
    have hp:=De (k:=.u32) d (show i<o.length by omega)
    have h3 : ¬M.length≤i:=by omega
    have w1':IntKind.u32.wrap ((u:Int)+(c:Int))=(c:Int)+(u:Int):=by rw [w1];push_cast;rfl
    have w2':IntKind.u32.wrap ((c:Int)+(u:Int)+(m:Int))=(n:Int):=by rw [←w2];push_cast;rfl
    (try simp -implicitDefEqProofs [h,h2,h3,g1,g2,g3,g4,w1',w2',q1,q2,r1,r2,hp,e3,ho])
    refine⟨by omega,i+1,o.set i d,q,⟨by omega,st⟩,by omega,?_⟩
    simp [B9,A3]
   ·have h3 : ¬i<M.length:=by omega
    rcases hcc with rfl|rfl
    ·have f:=fin (.inr ⟨h2,rfl⟩)
     rw [if_pos rfl] at f
     rw [f]
     (try simp -implicitDefEqProofs [h,h2,h3,hbt,hrow,Bs,ho])
    ·obtain⟨n,hn⟩ : ∃n,n=1+u+0:=⟨_,rfl⟩
     have st:=step 0 (fun h=>by omega) (fun _=>rfl) n hn
     obtain⟨q,hq⟩ : ∃q,q=n / b9:=⟨_,rfl⟩
     obtain⟨d,hdd⟩ : ∃d,d=n % b9:=⟨_,rfl⟩
     rw [←hq,←hdd] at st
     have w1':IntKind.u32.wrap ((u:Int)+1)=(n:Int):=by rw [hn,Int.add_comm];exact G1 (x:=1+u+0) (by omega)
     have q1:(n:Int).tdiv 1000000000=(q:Int):=by rw [hq];rfl
     have q2:IntKind.u32.wrap (q:Int)=(q:Int):=G1 (by omega)
     have r1:(n:Int).tmod 1000000000=(d:Int):=by rw [hdd];rfl
     have r2:IntKind.u32.wrap (d:Int)=(d:Int):=G1 (by rw [hdd];unfold b9;omega)
     have hp:=De (k:=.u32) d (show i<o.length by omega)
     (try simp -implicitDefEqProofs [h,h2,h3,g1,g2,w1',q1,q2,r1,r2,hp,e3,ho])
     refine⟨by omega,i+1,o.set i d,q,⟨by omega,st⟩,by omega,?_⟩
     simp [B9,A3]
  ·have hiL:i=L.length:=by omega
   subst hiL
   have f:=fin (.inl rfl)
   rw [f]
   rcases hcc with rfl|rfl
   ·(try simp -implicitDefEqProofs [hbt,hrow,Bs,ho])
   ·(try simp -implicitDefEqProofs [hbt,hb1,hb2,hr2,Bs,ho,maxLen,B9,Zp])
    exact⟨by omega,by omega⟩
 ·have e9:IntKind.i64.wrap (((A9 b9 x).length:Int)+1)=((A9 b9 x).length:Int)+1:=wrap64 (by omega) (by omega)
  have hge' : ¬(A9 b9 x).length<(A9 b9 y).length:=by omega
  (try simp -implicitDefEqProofs [hge',e9])
  refine⟨⟨by omega,by unfold maxLen;omega,by omega⟩,Kv _ _,?_⟩
  obtain⟨L,hL⟩ : ∃L,L=A9 b9 x:=⟨_,rfl⟩
  obtain⟨M,hM⟩ : ∃M,M=A9 b9 y:=⟨_,rfl⟩
  rw [←hL] at hx hlx hge hxl
  rw [←hM] at hy hly hge hyl
  have hsum:lvl b9 L+lvl b9 M=x+y:=by omega
  have hMl:=hy
  have hLl:=hx
  have hmx:max (A9 b9 x).length (A9 b9 y).length=L.length:=by rw [←hM,←hL];omega
  simp only [←hM,←hL]
  have hLM:M.length≤L.length:=by omega
  refine A7 (X:=Nat×List Nat×Nat) (fun X=>X.1≤L.length∧X.2.1.length=L.length∧Lim b9 X.2.1∧X.2.2≤1∧lvl b9 (X.2.1.take X.1)+X.2.2*b9 ^ X.1=lvl b9 (L.take X.1)+lvl b9 (M.take X.1)∧X.2.1.drop X.1=L.drop X.1)
   (fun X=>[(1,.t (.sl (lE .u32 M))),(5,.bw 0 L.length),(6,.t (.int .u32 X.2.2)),(26,vI L.length),(27,vI X.1)]) (fun X=>⟨[.buf 215 1 (bE .u32 X.2.1)],[]⟩) (fun X=>L.length-X.1) (0,L,0) ⟨by simp,rfl,hLl,by simp,by simp [lvl],rfl⟩ ?_ ?_
  ·simp [B9,R7,Zq,A3]
  rintro ⟨i,o,c⟩ ⟨hi,ho,hoL,hc,hv,hd⟩ hbd
  simp only [] at hi ho hoL hc hv hd
  clear hbd
  have fin:(i=L.length∨(M.length≤i∧c=0))→Na b9 x y=if c=0 then o else o++[c]:=fun h=>by
   refine Vi C8 hoL (by rw [hmx,ho]) hc ?_
   rw [ho,←hsum]
   have hM:M.take i=M:=List.take_of_length_le (by omega)
   rw [hM] at hv
   rcases h with h|⟨h,h0⟩
   ·subst h
    rw [List.take_of_length_le (by omega),List.take_of_length_le (Nat.le_refl _)] at hv
    exact hv
   ·subst h0
    have e1:=Fm b9 o (k:=i) (by omega)
    have e2:=Fm b9 L (k:=i) (by omega)
    rw [hd] at e1
    omega
  have hrow:=D6 .u32 o
  rw [ho] at hrow
  have hbt:(bE .u32 o).take L.length=bE .u32 o:=List.take_of_length_le (by simp;omega)
  have hb1:bE .u32 o++[V.t (T.int .u32 1)]=bE .u32 (o++[1]):=by rw [Zr];rfl
  have hr2:=D6 .u32 (o++[1])
  have ho1:(o++[1]).length=L.length+1:=by simp;omega
  rw [ho1] at hr2
  have hb2:(bE .u32 (o++[1])).take (L.length+1)=bE .u32 (o++[1]):=List.take_of_length_le (by simp;omega)
  have hcc:c=0∨c=1:=by omega
  rcases Nat.lt_or_ge i L.length with h|h
  ·obtain⟨u,hu⟩:=Aa (show i<o.length by omega)
   have g1:=Jn (k:=.u32) hu
   have g2:=J2 (k:=.u32) hu
   have e3:IntKind.i64.wrap ((i:Int)+1)=(i:Int)+1:=wrap64 (by omega) (by omega)
   have hub:=hoL.at hu
   have huL:L[i]?=some u:=by
    have e1:(o.drop i)[0]?=some u:=by rw [List.getElem?_drop];exact hu
    rw [hd,List.getElem?_drop] at e1;exact e1
   unfold b9 at hub
   have w1:IntKind.u32.wrap ((u:Int)+(c:Int))=((c+u:Nat):Int):=by rw [Int.add_comm];exact G1 (x:=c+u) (by omega)
   have step : ∀m,(i<M.length→M[i]?=some m)→(M.length≤i→m=0)→∀n,n=c+u+m→
     (o.set i (n % b9)).length=L.length∧Lim b9 (o.set i (n % b9))∧n / b9≤1∧lvl b9 ((o.set i (n % b9)).take (i+1))+n / b9*b9 ^ (i+1)=lvl b9 (L.take (i+1))+lvl b9 (M.take (i+1))∧(o.set i (n % b9)).drop (i+1)=L.drop (i+1):=fun m hm1 hm2 n hn=>by
    have hmb:m<b9:=by
     rcases Nat.lt_or_ge i M.length with h|h
     ·exact hMl.at (hm1 h)
     ·rw [hm2 h];decide
    refine⟨by simp [ho],hoL.set (Nat.mod_lt _ (by decide)) _,?_,?_,?_⟩
    ·rw [hn];unfold b9 at hmb ⊢;omega
    ·rw [R8 _ (by omega),hn,R1 (by rw [List.length_take];omega) hv,Bg huL]
     have eM:lvl b9 (M.take (i+1))=lvl b9 (M.take i)+b9 ^ i*m:=by
      rcases Nat.lt_or_ge i M.length with h|h
      ·exact Bg (hm1 h)
      ·rw [hm2 h,List.take_of_length_le (by omega),List.take_of_length_le h];simp
     rw [eM,Nat.mul_add];omega
    ·rw [drop_set]
     have:=congrArg (List.drop 1) hd
     rw [List.drop_drop,List.drop_drop] at this
     exact this
   rcases Nat.lt_or_ge i M.length with h2|h2
   ·obtain⟨m,hm⟩:=Aa h2
    have g3:=C7 (k:=.u32) hm
    have g4:=Bo (k:=.u32) hm
    have hmb:=hMl.at hm
    unfold b9 at hmb
    obtain⟨n,hn⟩ : ∃n,n=c+u+m:=⟨_,rfl⟩
    have st:=step m (fun _=>hm) (fun h=>by omega) n hn
    have w2:IntKind.u32.wrap (((c+u:Nat):Int)+(m:Int))=(n:Int):=by rw [hn];exact G1 (x:=c+u+m) (by omega)
    obtain⟨q,hq⟩ : ∃q,q=n / b9:=⟨_,rfl⟩
    obtain⟨d,hdd⟩ : ∃d,d=n % b9:=⟨_,rfl⟩
    rw [←hq,←hdd] at st
    have q1:(n:Int).tdiv 1000000000=(q:Int):=by rw [hq];rfl
    have q2:IntKind.u32.wrap (q:Int)=(q:Int):=G1 (by omega)
    have r1:(n:Int).tmod 1000000000=(d:Int):=by rw [hdd];rfl
    have r2:IntKind.u32.wrap (d:Int)=(d:Int):=G1 (by rw [hdd];unfold b9;omega)
    have hp:=De (k:=.u32) d (show i<o.length by omega)
    have h3 : ¬M.length≤i:=by omega
    have w1':IntKind.u32.wrap ((u:Int)+(c:Int))=(c:Int)+(u:Int):=by rw [w1];push_cast;rfl
    have w2':IntKind.u32.wrap ((c:Int)+(u:Int)+(m:Int))=(n:Int):=by rw [←w2];push_cast;rfl
    (try simp -implicitDefEqProofs [h,h2,h3,g1,g2,g3,g4,w1',w2',q1,q2,r1,r2,hp,e3,ho])
    refine⟨by omega,i+1,o.set i d,q,⟨by omega,st⟩,by omega,?_⟩
    simp [B9,A3]
   ·have h3 : ¬i<M.length:=by omega
    rcases hcc with rfl|rfl
    ·have f:=fin (.inr ⟨h2,rfl⟩)
     rw [if_pos rfl] at f
     rw [f]
     (try simp -implicitDefEqProofs [h,h2,h3,hbt,hrow,Bs,ho])
    ·obtain⟨n,hn⟩ : ∃n,n=1+u+0:=⟨_,rfl⟩
     have st:=step 0 (fun h=>by omega) (fun _=>rfl) n hn
     obtain⟨q,hq⟩ : ∃q,q=n / b9:=⟨_,rfl⟩
     obtain⟨d,hdd⟩ : ∃d,d=n % b9:=⟨_,rfl⟩
     rw [←hq,←hdd] at st
     have w1':IntKind.u32.wrap ((u:Int)+1)=(n:Int):=by rw [hn,Int.add_comm];exact G1 (x:=1+u+0) (by omega)
     have q1:(n:Int).tdiv 1000000000=(q:Int):=by rw [hq];rfl
     have q2:IntKind.u32.wrap (q:Int)=(q:Int):=G1 (by omega)
     have r1:(n:Int).tmod 1000000000=(d:Int):=by rw [hdd];rfl
     have r2:IntKind.u32.wrap (d:Int)=(d:Int):=G1 (by rw [hdd];unfold b9;omega)
     have hp:=De (k:=.u32) d (show i<o.length by omega)
     (try simp -implicitDefEqProofs [h,h2,h3,g1,g2,w1',q1,q2,r1,r2,hp,e3,ho])
     refine⟨by omega,i+1,o.set i d,q,⟨by omega,st⟩,by omega,?_⟩
     simp [B9,A3]
  ·have hiL:i=L.length:=by omega
   subst hiL
   have f:=fin (.inl rfl)
   rw [f]
   rcases hcc with rfl|rfl
   ·(try simp -implicitDefEqProofs [hbt,hrow,Bs,ho])
   ·(try simp -implicitDefEqProofs [hbt,hb1,hb2,hr2,Bs,ho,maxLen,B9,Zp])
    exact⟨by omega,by omega⟩
theorem R9 {B i k x y u c:Nat} {a b o o0:List Nat} (hB:2≤B) (hx:x<B) (hy:b[k]?=some y) (hu:o[i+k]?=some u) (hc:c<B) (hL:Lim B o) (hb:Lim B b)
  (e:lvl B o+c*B ^ (i+k)=lvl B o0+B ^ i*(x*lvl B (b.take k))) :
  Lim B (o.set (i+k) ((x*y+u+c) % B))∧(x*y+u+c) / B<B∧lvl B (o.set (i+k) ((x*y+u+c) % B))+(x*y+u+c) / B*B ^ (i+(k+1))=lvl B o0+B ^ i*(x*lvl B (b.take (k+1))):=by
 have hyb:=hb.at hy
 have hub:=hL.at hu
 refine⟨hL.set (Nat.mod_lt _ (by omega)) _,?_,?_⟩
 ·rw [Nat.div_lt_iff_lt_mul (by omega)]
  have h1:x*y≤(B-1)*(B-1):=Nat.mul_le_mul (by omega) (by omega)
  obtain⟨D,rfl⟩ : ∃D,B=D+1:=⟨B-1,by omega⟩
  simp only [Nat.add_sub_cancel] at h1
  have h2:(D+1)*(D+1)=D*D+D+D+1:=by rw [Nat.add_mul,Nat.mul_add];omega
  omega
 ·have h1:=Zb (p:=i+k) (m:=x*y) hu e
  rw [show i+(k+1)=i+k+1 by omega,h1,Bg hy,Nat.mul_add,Nat.mul_add,Nat.pow_add]
  have e2:B ^ i*(x*(B ^ k*y))=B ^ i*B ^ k*(x*y):=by
   rw [Nat.mul_assoc,Nat.mul_left_comm x]
  omega
theorem A2h (x y:Nat) (hxl:(A9 b9 x).length≤1000) (hyl:(A9 b9 y).length≤1000):A8 Tryz.prog 210 [.t (lT .u32 (A9 b9 x)),.t (lT .u32 (A9 b9 y))] (.t (lT .u32 (X4 b9 x y))):=by
 have hx:=Ar C8 x
 have hy:=Ar C8 y
 have hlx:=An C8 x
 have hly:=An C8 y
 have hfin : ∀o:List Nat,Lim b9 o→o.length=(A9 b9 x).length+(A9 b9 y).length→lvl b9 o=x*y→X4 b9 x y=o:=fun o h1 h2 h3=>(P0 P3 h1 h2 h3).symm
 unfold lT
 generalize X4 b9 x y=R at *
 generalize A9 b9 x=a at *
 generalize A9 b9 y=b at *
 have e9:IntKind.i64.wrap ((a.length:Int)+(b.length:Int))=((a.length+b.length:Nat):Int):=by rw [←Int.natCast_add];exact Ek (by omega)
 obtain⟨n,hn⟩ : ∃n,n=a.length+b.length:=⟨_,rfl⟩
 rw [←hn] at e9 hfin
 have n1:(n:Int)≤maxLen:=by unfold maxLen;omega
 have n2:(n:Int)*4≤140737488355328:=by omega
 (refine A8.of_code mix Tryz.call210 k_210 (by simp) (fun hB=>?_);(try simp at hB);(try simp -implicitDefEqProofs))
 ((try simp -implicitDefEqProofs [e9,n1,n2]);repeat' first|((with_reducible first|apply Ac|apply Ad|apply A5)<;>(intro hc;have hc':=hc;(try simp at hc');simp -implicitDefEqProofs [hc,hc',e9,n1,n2])))
 refine A7 (X:=Nat×List Nat) (fun X=>X.1≤a.length∧X.2.length=n∧Lim b9 X.2∧lvl b9 X.2=lvl b9 (a.take X.1)*lvl b9 b∧∀j,X.1+b.length≤j→j<n→X.2[j]?=some 0)
  (fun X=>[(1,.t (.sl (lE .u32 b))),(5,.bw 0 n),(20,.t (.sl (lE .u32 a))),(21,vI a.length),(22,vI X.1)]) (fun X=>⟨[.buf 215 1 (bE .u32 X.2)],[]⟩) (fun X=>a.length-X.1) (0,List.replicate n 0) ?h0 ?hs ?_
 case h0=>exact⟨by simp,by simp,Lim.zeros P3 n,by rw [Jl];simp [lvl],fun j _ h=>by rw [List.getElem?_replicate,if_pos h]⟩
 case hs=>
  have:=P4 .u32 n
  simp only [bE,List.map_replicate] at this
  simp [B9,bE,List.map_replicate]
  first|done|exact U5 fun v hv=>⟨_,(List.mem_replicate.1 hv).2⟩
 rintro ⟨i,o0⟩ ⟨hi,hol,hoL,hov,hoz⟩ hbd
 simp only [] at hi hol hoL hov hoz
 clear hbd
 rcases Nat.lt_or_ge i a.length with h|h
 ·obtain⟨d,hd⟩:=Aa h
  have hdb:=hx.at hd
  have g1:=C7 (k:=.u32) hd
  have g2:=Bo (k:=.u32) hd
  have e3:IntKind.i64.wrap ((i:Int)+1)=(i:Int)+1:=wrap64 (by omega) (by omega)
  ((try simp -implicitDefEqProofs [h,g1,g2,e3]);repeat' first|((with_reducible first|apply Ac|apply Ad|apply A5)<;>(intro hc;have hc':=hc;(try simp at hc');simp -implicitDefEqProofs [hc,hc',h,g1,g2,e3])))
  refine A7 (X:=Nat×List Nat×Nat) (fun X=>X.1≤b.length∧X.2.1.length=n∧Lim b9 X.2.1∧X.2.2<b9∧lvl b9 X.2.1+X.2.2*b9 ^ (i+X.1)=lvl b9 o0+b9 ^ i*(d*lvl b9 (b.take X.1))∧∀j,i+b.length≤j→j<n→X.2.1[j]?=some 0)
   (fun X=>[(1,.t (.sl (lE .u32 b))),(5,.bw 0 n),(6,vI i),(7,.t (.int .u32 d)),(8,.t (.int .u64 X.2.2)),(20,.t (.sl (lE .u32 a))),(21,vI a.length),(22,vI i),(27,.t (.sl (lE .u32 b))),(28,vI b.length),(29,vI X.1)]) (fun X=>⟨[.buf 215 1 (bE .u32 X.2.1)],[]⟩) (fun X=>b.length-X.1) (0,o0,0) ?h1 ?hs1 ?_
  case h1=>exact⟨by simp,hol,hoL,P3,by simp [lvl],hoz⟩
  case hs1=>simp [B9]
  rintro ⟨k,o,c⟩ ⟨hk,ho,hL,hc,he,hz⟩ hbd
  simp only [] at hk ho hL hc he hz
  clear hbd
  rcases Nat.lt_or_ge k b.length with h2|h2
  ·obtain⟨y',hy'⟩:=Aa h2
   obtain⟨u,hu⟩:=Aa (show i+k<o.length by omega)
   have hub:=hL.at hu
   have hyb:=hy.at hy'
   have st:=R9 (a:=a) C8 hdb hy' hu hc hL hy he
   have g3:=C7 (k:=.u32) hy'
   have g4:=Bo (k:=.u32) hy'
   have g5:=Jn (k:=.u32) hu
   have g6:=J2 (k:=.u32) hu
   unfold b9 at hub hyb hdb hc
   have hpr:d*y'≤999999999*999999999:=Nat.mul_le_mul (by omega) (by omega)
   obtain⟨P,hP⟩ : ∃P,P=d*y':=⟨_,rfl⟩
   rw [←hP] at st hpr
   obtain⟨N,hN⟩ : ∃N,N=P+u+c:=⟨_,rfl⟩
   rw [←hN] at st
   obtain⟨q,hq⟩ : ∃q,q=N / b9:=⟨_,rfl⟩
   obtain⟨r,hr⟩ : ∃r,r=N % b9:=⟨_,rfl⟩
   rw [←hq,←hr] at st
   have v1:IntKind.u64.wrap (d:Int)=(d:Int):=Fq (by omega)
   have v2:IntKind.u64.wrap (y':Int)=(y':Int):=Fq (by omega)
   have v3:IntKind.u64.wrap ((d:Int)*(y':Int))=(P:Int):=by rw [hP];exact Fq (x:=d*y') (by omega)
   have v4:IntKind.u64.wrap (u:Int)=(u:Int):=Fq (by omega)
   have v5:IntKind.u64.wrap ((P:Int)+(u:Int))=(P:Int)+(u:Int):=Fq (x:=P+u) (by omega)
   have v6:IntKind.u64.wrap ((P:Int)+(u:Int)+(c:Int))=(N:Int):=by rw [hN];exact Fq (x:=P+u+c) (by omega)
   have q1:(N:Int).tdiv 1000000000=(q:Int):=by rw [hq];rfl
   have q2:IntKind.u64.wrap (q:Int)=(q:Int):=Fq (by rw [hq];unfold b9;omega)
   have r1:(N:Int).tmod 1000000000=(r:Int):=by rw [hr];rfl
   have r2:IntKind.u64.wrap (r:Int)=(r:Int):=Fq (by rw [hr];unfold b9;omega)
   have r3:IntKind.u32.wrap (r:Int)=(r:Int):=G1 (by rw [hr];unfold b9;omega)
   have e4:IntKind.i64.wrap ((i:Int)+(k:Int))=(i:Int)+(k:Int):=Ek (x:=i+k) (by omega)
   have e5:IntKind.i64.wrap ((k:Int)+1)=(k:Int)+1:=wrap64 (by omega) (by omega)
   have i1:((i:Int)+(k:Int)).toNat=i+k:=by omega
   have i2:(i:Int)+(k:Int)<n:=by omega
   have i3:(0:Int)≤(i:Int)+(k:Int):=by omega
   have i4:i+k+1≤n:=by omega
   have hp:=De (k:=.u32) r (show i+k<o.length by omega)
   ((try simp -implicitDefEqProofs [h2,g3,g4,g5,g6,v1,v2,v3,v4,v5,v6,q1,q2,r1,r2,r3,e4,e5,i1,i2,i3,i4,hp,ho]);repeat' first|((with_reducible first|apply Ac|apply Ad|apply A5)<;>(intro hc;have hc':=hc;(try simp at hc');simp -implicitDefEqProofs [hc,hc',h2,g3,g4,g5,g6,v1,v2,v3,v4,v5,v6,q1,q2,r1,r2,r3,e4,e5,i1,i2,i3,i4,hp,ho])))
   refine⟨k+1,o.set (i+k) r,q,⟨by omega,by simp [ho],st.1,st.2.1,st.2.2,fun j h1 h2=>?_⟩,by omega,?_⟩
   ·rw [List.getElem?_set_ne (by omega)];exact hz j h1 h2
   ·simp [B9]
  ·have hkb:k=b.length:=by omega
   subst hkb
   have e4:IntKind.i64.wrap ((i:Int)+(b.length:Int))=((i+b.length:Nat):Int):=Ek (x:=i+b.length) (by omega)
   obtain⟨p,hp⟩ : ∃p,p=i+b.length:=⟨_,rfl⟩
   rw [←hp] at e4 he hz
   have hpz:=hz p (Nat.le_refl _) (by omega)
   have hb1:b.take b.length=b:=List.take_of_length_le (Nat.le_refl _)
   rw [hb1,hly] at he
   have hset:=L8 (B:=b9) (v:=c) hpz
   have hsame:c=0→o.set p c=o:=fun h0=>by
    apply List.ext_getElem?
    intro j
    by_cases hj:p=j
    ·subst hj;rw [List.getElem?_set_self (by omega),hpz,h0]
    ·rw [List.getElem?_set_ne hj]
   have hdone:(o.set p c).length=n∧Lim b9 (o.set p c)∧lvl b9 (o.set p c)=lvl b9 (a.take (i+1))*y∧∀j,i+1+b.length≤j→j<n→(o.set p c)[j]?=some 0:=by
    refine⟨by simp [ho],hL.set hc _,?_,fun j h1 h2=>?_⟩
    ·rw [Bg hd,Nat.add_mul]
     rw [hly] at hov
     have e1:b9 ^ i*d*y=b9 ^ i*(d*y):=Nat.mul_assoc _ _ _
     have e2:c*b9 ^ p=b9 ^ p*c:=Nat.mul_comm _ _
     omega
    ·rw [List.getElem?_set_ne (by omega)];exact hz j (by omega) h2
   rw [hly]
   ((try simp -implicitDefEqProofs [e4]);repeat' first|((with_reducible first|apply Ac|apply Ad|apply A5)<;>(intro hc;have hc':=hc;(try simp at hc');simp -implicitDefEqProofs [hc,hc',e4])))
   refine A7 (X:=List Nat×Nat×Nat) (fun X=>X=(o,c,p)∨X=(o.set p c,0,p+1)) (fun X=>[(1,.t (.sl (lE .u32 b))),(5,.bw 0 n),(8,.t (.int .u64 X.2.1)),(12,vI X.2.2),(20,.t (.sl (lE .u32 a))),(21,vI a.length),(22,vI i)]) (fun X=>⟨[.buf 215 1 (bE .u32 X.1)],[]⟩) (fun X=>X.2.1) (o,c,p) (.inl rfl) ?hs2 ?_
   case hs2=>simp [B9]
   have out:(o.set p c).length=n∧Lim b9 (o.set p c)∧lvl b9 (o.set p c)=lvl b9 (a.take (i+1))*y∧∀j,i+1+b.length≤j→j<n→(o.set p c)[j]?=some 0:=hdone
   rintro X hX hbd
   clear hbd
   unfold b9 at hc
   rcases hX with rfl|rfl
   ·by_cases c0:c=0
    ·rw [hsame c0] at out
     subst c0
     ((try simp -implicitDefEqProofs [e3]);repeat' first|((with_reducible first|apply Ac|apply Ad|apply A5)<;>(intro hc;have hc':=hc;(try simp at hc');simp -implicitDefEqProofs [hc,hc',e3])))
     exact⟨i+1,o,⟨by omega,out⟩,by omega,by simp [B9]⟩
    ·have c1:0<c:=by omega
     have g5:=Jn (k:=.u32) hpz
     have g6:=J2 (k:=.u32) hpz
     have v1:IntKind.u64.wrap (c:Int)=(c:Int):=Fq (by omega)
     have v2:IntKind.u32.wrap (c:Int)=(c:Int):=G1 (by omega)
     have q1:(c:Int).tdiv 1000000000=0:=by rw [Int.tdiv_eq_zero_of_lt]<;>omega
     have r1:(c:Int).tmod 1000000000=(c:Int):=by rw [Int.tmod_eq_of_lt]<;>omega
     have u0:IntKind.u64.wrap 0=0:=by decide
     have e5:IntKind.i64.wrap ((p:Int)+1)=(p:Int)+1:=wrap64 (by omega) (by omega)
     have i2:p<n:=by omega
     have i4:p+1≤n:=by omega
     have hpp:=De (k:=.u32) c (show p<o.length by omega)
     ((try simp -implicitDefEqProofs [c1,g5,g6,v1,v2,q1,r1,u0,e5,i2,i4,hpp,ho]);repeat' first|((with_reducible first|apply Ac|apply Ad|apply A5)<;>(intro hc;have hc':=hc;(try simp at hc');simp -implicitDefEqProofs [hc,hc',c1,g5,g6,v1,v2,q1,r1,u0,e5,i2,i4,hpp,ho])))
     exact B9 _ _ _ _
   ·((try simp -implicitDefEqProofs [e3]);repeat' first|((with_reducible first|apply Ac|apply Ad|apply A5)<;>(intro hc;have hc':=hc;(try simp at hc');simp -implicitDefEqProofs [hc,hc',e3])))
    exact⟨i+1,o.set p c,⟨by omega,out⟩,by omega,by simp [B9]⟩
 ·have hia:i=a.length:=by omega
  subst hia
  rw [List.take_of_length_le (Nat.le_refl _),hlx,hly] at hov
  rw [hfin o0 hoL hol hov]
  have hrow:=D6 .u32 o0
  rw [hol] at hrow
  have hbt:(bE .u32 o0).take n=bE .u32 o0:=List.take_of_length_le (by simp;omega)
  ((try simp -implicitDefEqProofs [hbt,hrow,Bs]);repeat' first|((with_reducible first|apply Ac|apply Ad|apply A5)<;>(intro hc;have hc':=hc;(try simp at hc');simp -implicitDefEqProofs [hc,hc',hbt,hrow,Bs])))
end Go.Proofs.YtmlpmdccfmmpoaaGreatDoor
