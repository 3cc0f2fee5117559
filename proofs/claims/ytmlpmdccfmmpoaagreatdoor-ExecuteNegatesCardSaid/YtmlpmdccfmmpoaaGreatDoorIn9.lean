/- Integers of any length: the reference's quotients of limbs. -/
import Derived.Test.YtmlpmdccfmmpoaaGreatDoorIn8
set_option linter.unusedSimpArgs false
set_option linter.unusedVariables false
set_option maxHeartbeats 2000000
set_option maxRecDepth 8000
namespace Go.Proofs.YtmlpmdccfmmpoaaGreatDoor
open E

theorem Rr {B n k:Nat} (hB:2≤B) (h:(A9 B n).length=k+1):B ^ k≤n:=by
 rcases Nat.lt_or_ge n (B ^ k) with h1|h1
 ·have:=D3 hB h1;omega
 ·exact h1
theorem A41 (x y:Nat) (hxl:(A9 b4 x).length≤900) (hyl:(A9 b4 y).length≤900) (hy0:0<y):A8 Tryz.prog 177 [.t (lT .i64 (A9 b4 x)),.t (lT .i64 (A9 b4 y))] (.tup [.t (lT .i64 (A9 b4 (x / y))),.t (lT .i64 (A9 b4 (x % y)))]):=by
 have hx:=Ar Bt x
 have hy:=Ar Bt y
 have hlx:=An Bt x
 have hylen:=D5 Bt (show y≠0 by omega)
 have hyt:=Hc Bt y
 by_cases hlt:(A9 b4 x).length<(A9 b4 y).length
 ·have hxy:=Ej Bt hlt
  rw [Nat.div_eq_of_lt hxy,Nat.mod_eq_of_lt hxy,B1]
  unfold lT
  (refine A8.of_code mix Tryz.call177 k_177 (by simp) (fun hB=>?_);(try simp at hB);(try simp -implicitDefEqProofs))
  (try simp -implicitDefEqProofs [hlt,D4])
 ·obtain⟨fr,hfr⟩ : ∃fr,fr=(A9 b4 x).length-(A9 b4 y).length+1:=⟨_,rfl⟩
  have hpow:=Rr (k:=(A9 b4 y).length-1) Bt (n:=y) (by omega)
  have hd0:lvl b4 ((A9 b4 x).drop fr)<y:=by
   have h1:=Jm (hx.drop fr)
   have h2:((A9 b4 x).drop fr).length=(A9 b4 y).length-1:=by rw [List.length_drop];omega
   rw [h2] at h1
   exact Nat.lt_of_lt_of_le h1 hpow
  have hdr:(A9 b4 x).drop fr=A9 b4 (lvl b4 ((A9 b4 x).drop fr)):=by
   rw [X3 Bt,An Bt]
  have hfin : ∀o:List Nat,Lim b4 o→lvl b4 o=x / y→A8 Tryz.prog 149 [.t (.sl (lE .i64 o))] (.t (.sl (lE .i64 (A9 b4 (x / y))))):=fun o h1 h2=>by
   have:=Hd h1
   rw [h2] at this
   exact this
  have htr1 : ∀u R:Nat,u<b4→A8 Tryz.prog 149 [.t (.sl ([.int .i64 (u:Int)]::lE .i64 (A9 b4 R)))] (.t (.sl (lE .i64 (A9 b4 (u+b4*R))))):=fun u R hu=>by
   have:=Hd (l:=u::A9 b4 R) (fun z hz=>by
    rcases List.mem_cons.1 hz with rfl|hz
    ·exact hu
    ·exact Ar Bt R z hz)
   rw [lvl,An Bt] at this
   exact this
  have htr2 : ∀u:Nat,u<b4→A8 Tryz.prog 149 [.t (.sl [[.int .i64 (u:Int)]])] (.t (.sl (lE .i64 (A9 b4 u)))):=fun u hu=>by
   have:=Hd (l:=[u]) (Lim.one hu)
   simp only [lvl,Nat.mul_zero,Nat.add_zero] at this
   exact this
  have hmul : ∀m:Nat,m<b4→A8 Tryz.prog 186 [.t (.sl (lE .i64 (A9 b4 y))),.t (.sl (lE .i64 (A9 b4 m)))] (.t (.sl (lE .i64 (A9 b4 (y*m))))):=fun m hm=>
   A5w y m (by omega) (by have:=D3 (n:=m) (k:=1) Bt (by simpa using hm);omega)
  have hmul1 : ∀m:Nat,0<m→m<b4→A8 Tryz.prog 186 [.t (.sl (lE .i64 (A9 b4 y))),.t (.sl [[.int .i64 (m:Int)]])] (.t (.sl (lE .i64 (A9 b4 (y*m))))):=fun m h0 hm=>by
   have:=hmul m hm
   rw [I6 h0 hm] at this
   exact this
  have hsub : ∀p q:Nat,q≤p→p<b4*y→A8 Tryz.prog 185 [.t (.sl (lE .i64 (A9 b4 p))),.t (.sl (lE .i64 (A9 b4 q)))] (.t (.sl (lE .i64 (A9 b4 (p-q))))):=fun p q h1 h2=>
   A5v p q (by
    have:=D3 (n:=p) (k:=(A9 b4 y).length+1) Bt (by
     rw [Nat.pow_succ,Nat.mul_comm]
     exact Nat.lt_of_lt_of_le h2 (Nat.mul_le_mul_left _ (Nat.le_of_lt hyt)))
    omega) h1
  have hcmp : ∀p q:Nat,A8 Tryz.prog 184 [.t (.sl (lE .i64 (A9 b4 p))),.t (.sl (lE .i64 (A9 b4 q)))] (vI (Cq p q)):=fun p q=>A2d p q
  have e9:IntKind.i64.wrap (IntKind.i64.wrap (((A9 b4 x).length:Int)-((A9 b4 y).length:Int))+1)=(fr:Int):=by
   rw [wrap64 (x:=((A9 b4 x).length:Int)-((A9 b4 y).length:Int)) (by omega) (by omega),wrap64 (by omega) (by omega)];omega
  have hfx:fr≤(A9 b4 x).length:=by omega
  have hf1:1≤fr:=by omega
  have hRlen : ∀R,R<y→(A9 b4 R).length≤(A9 b4 y).length:=fun R h=>F7 Bt (Nat.le_of_lt h)
  clear hyt hpow
  unfold lT
  generalize A9 b4 x=a at *
  generalize A9 b4 y=b at *
  have n1:fr≤maxLen:=by unfold maxLen;omega
  have n2:(fr:Int)*8≤140737488355328:=by omega
  have hfa:(fr:Int)≤a.length:=by omega
  (refine A8.of_code mix Tryz.call177 k_177 (by simp) (fun hB=>?_);(try simp at hB);(try simp -implicitDefEqProofs))
  (try simp -implicitDefEqProofs [hlt,e9,n1,n2,hfx,hfa])
  refine⟨Kv _ _,?_⟩
  have htk:(lE .i64 a).take a.length=lE .i64 a:=List.take_of_length_le (by simp)
  have hdE:(lE .i64 a).drop fr=lE .i64 (A9 b4 (lvl b4 (a.drop fr))):=by rw [A2c];exact congrArg _ hdr
  rw [htk]
  refine⟨fun y hy=>Kv _ _ y (List.mem_of_mem_drop hy),?_⟩
  have hz0:lvl b4 (a.drop fr) / y=0:=Nat.div_eq_of_lt hd0
  have hz1:lvl b4 (a.drop fr) % y=lvl b4 (a.drop fr):=Nat.mod_eq_of_lt hd0
  have e8:IntKind.i64.wrap ((fr:Int)-1)=(fr:Int)-1:=wrap64 (by omega) (by omega)
  have hyB : ∀z,z<b4→IntKind.i64.wrap (z:Int)=(z:Int):=fun z hz=>Ek (by unfold b4 at hz;omega)
  by_cases hcase:a.length≤fr
  ·rw [if_pos hcase]
   have hnil:lE .i64 (A9 b4 (lvl b4 (a.drop fr)))=[]:=by rw [←hdE];exact List.drop_of_length_le (by simpa using hcase)
   refine A7 (X:=Nat×List Nat×Nat) (fun X=>X.1≤fr∧X.2.1.length=fr∧Lim b4 X.2.1∧lvl b4 (X.2.1.drop X.1)=lvl b4 (a.drop X.1) / y∧X.2.2=lvl b4 (a.drop X.1) % y)
    (fun X=>[(0,.t (.sl (lE .i64 a))),(1,.t (.sl (lE .i64 b))),(7,.bw 0 fr),(8,.t (.sl (lE .i64 (A9 b4 X.2.2)))),(9,vI ((X.1:Int)-1))]) (fun X=>⟨[.buf 3 1 (bE .i64 X.2.1)],[]⟩) (fun X=>X.1) (fr,List.replicate fr 0,lvl b4 (a.drop fr)) ?_ ?_ ?_
   ·exact⟨Nat.le_refl _,by simp,Lim.zeros Zl _,by rw [List.drop_of_length_le (by simp),hz0];rfl,hz1.symm⟩
   ·have hrep:=P4 .i64 fr
    simp [B9,hnil,e8,hrep]
    first|done|(simp only [bE,List.map_replicate];simp [U5];done)|skip
   rintro ⟨k,o,R⟩ ⟨hk,ho,hL,hv,hR⟩ hbd
   simp only [] at hk ho hL hv hR
   clear hbd
   have hRy:R<y:=by rw [hR];exact Nat.mod_lt _ hy0
   rcases Nat.eq_zero_or_pos k with k0|k0
   ·subst k0
    rw [List.drop_zero,List.drop_zero,hlx] at hv
    rw [List.drop_zero,hlx] at hR
    have ht:=hfin o hL hv
    have hrow:=D6 .i64 o
    rw [ho] at hrow
    have hbt:(bE .i64 o).take fr=bE .i64 o:=List.take_of_length_le (by simp;omega)
    rw [←hR]
    (try simp -implicitDefEqProofs)
    refine Jw (r:=.t (.sl (lE .i64 (A9 b4 (x / y))))) ?_ ?_
    ·simp [frzVs,Bs,Ef,hbt,hrow,eras,era]
     exact ht
    ·(try simp -implicitDefEqProofs [hbt,hrow,Bs,frzVs,Ef])
   ·obtain⟨i,rfl⟩ : ∃i,k=i+1:=⟨k-1,by omega⟩
    obtain⟨u,hu⟩:=Aa (show i<a.length by omega)
    have hub:=hx.at hu
    have hA:=(Nat.div_add_mod (lvl b4 (a.drop (i+1))) y).symm
    have st:=M9 (B:=b4) (x:=u) hy0 hRy (A:=lvl b4 (a.drop (i+1))) (Q:=lvl b4 (a.drop (i+1)) / y) (by rw [hR];exact hA)
    have hdl:=U1 hy0 hRy hub
    have hdn:=Dj (B:=b4) hu
    rw [←hdn,←hv] at st
    obtain⟨N,hN⟩ : ∃N,N=u+b4*R:=⟨_,rfl⟩
    have hN':R*b4+u=N:=by rw [hN,Nat.mul_comm];omega
    rw [hN'] at st hdl
    obtain⟨Q,hQ⟩ : ∃Q,Q=N / y:=⟨_,rfl⟩
    rw [←hQ] at st hdl
    have hNb:N<b4*y:=by
     have:b4*(R+1)≤b4*y:=Nat.mul_le_mul_left _ hRy
     rw [hN,Nat.mul_add] at *;omega
    have hQN : ∀m,y*m≤N↔m≤Q:=fun m=>by rw [hQ,Nat.le_div_iff_mul_le hy0,Nat.mul_comm]
    have t1:=htr1 u R hub
    rw [←hN] at t1
    have g1:=C7 (k:=.i64) hu
    have g2:=Bo (k:=.i64) hu
    have i4:i<a.length:=by omega
    have e3:IntKind.i64.wrap ((i:Int)-1)=(i:Int)-1:=wrap64 (by omega) (by omega)
    ((try simp at t1);(try simp -implicitDefEqProofs [g1,g2,i4,Kv]);repeat' first|(with_reducible apply A0<;>first|(simp only [eras,era,A1];first|with_reducible assumption)|(simp -implicitDefEqProofs [g1,g2,i4,Kv])))
    refine⟨Kv _ _,?_⟩
    by_cases hRn:lE .i64 (A9 b4 R)=[]
    ·rw [if_pos hRn]
     rw [hRn] at t1
     ((try simp at t1);(try simp -implicitDefEqProofs [g1,g2,i4]);repeat' first|(with_reducible apply A0<;>first|(simp only [eras,era,A1];first|with_reducible assumption)|(simp -implicitDefEqProofs [g1,g2,i4])))
     refine A7 (X:=Nat×Nat) (fun X=>X.1≤Q∧Q≤X.2∧X.2≤9999) (fun X=>[(0,.t (.sl (lE .i64 a))),(1,.t (.sl (lE .i64 b))),(7,.bw 0 fr),(8,.t (.sl (lE .i64 (A9 b4 N)))),(9,vI (i:Int)),(10,vI X.1),(11,vI X.2)]) (fun _=>⟨[.buf 3 1 (bE .i64 o)],[]⟩) (fun X=>X.2-X.1) (0,9999) ⟨by omega,by unfold b4 at hdl;omega,by omega⟩ ?_ ?_
     ·simp [B9]
     rintro ⟨lo,hi⟩ ⟨hlo,hhi,h99⟩ hbd
     simp only [] at hlo hhi h99
     clear hbd
     rcases Nat.lt_or_ge lo hi with hlh|hlh
     ·obtain⟨m,hm⟩ : ∃m,m=(lo+hi+1) / 2:=⟨_,rfl⟩
      have v1:IntKind.i64.wrap ((lo:Int)+(hi:Int))=(lo:Int)+(hi:Int):=wrap64 (by omega) (by omega)
      have v2:IntKind.i64.wrap ((lo:Int)+(hi:Int)+1)=((lo+hi+1:Nat):Int):=Ek (x:=lo+hi+1) (by omega)
      have v3:((lo+hi+1:Nat):Int).tdiv 2=(m:Int):=by rw [hm];rfl
      have v3':((lo:Int)+(hi:Int)+1).tdiv 2=(m:Int):=by rw [←v3];push_cast;rfl
      have v4:IntKind.i64.wrap (m:Int)=(m:Int):=Ek (by omega)
      have v5:IntKind.i64.wrap ((m:Int)-1)=(m:Int)-1:=wrap64 (by omega) (by omega)
      have hmu:=hmul1 m (by omega) (by unfold b4;omega)
      have hcm:=hcmp (y*m) N
      have hq:=hQN m
      by_cases hle:y*m≤N
      ·have c1:Cq (y*m) N≤0:=by unfold Cq;split<;>(try split)<;>omega
       have hmQ:=hq.1 hle
       ((try simp at hmu hcm);(try simp -implicitDefEqProofs [hlh,v1,v2,v3,v3',v4,c1]);repeat' first|(with_reducible apply A0<;>first|(simp only [eras,era,A1];first|with_reducible assumption)|(simp -implicitDefEqProofs [hlh,v1,v2,v3,v3',v4,c1])))
       exact⟨m,hi,⟨hmQ,hhi,h99⟩,by omega,by simp [B9]⟩
      ·have c1 : ¬Cq (y*m) N≤0:=by unfold Cq;rw [if_neg (by omega),if_pos (by omega)];omega
       have hmQ : ¬m≤Q:=fun h=>hle (hq.2 h)
       ((try simp at hmu hcm);(try simp -implicitDefEqProofs [hlh,v1,v2,v3,v3',v4,v5,c1]);repeat' first|(with_reducible apply A0<;>first|(simp only [eras,era,A1];first|with_reducible assumption)|(simp -implicitDefEqProofs [hlh,v1,v2,v3,v3',v4,v5,c1])))
       exact⟨lo,m-1,⟨hlo,by omega,by omega⟩,by omega,by simp [B9];omega⟩
     ·have hlQ:lo=Q:=by omega
      subst hlQ
      have hlb:lo<b4:=hdl
      have t2:=htr2 lo hlb
      have hmu:=hmul lo hlb
      have hsb:=hsub N (y*lo) ((hQN lo).2 (Nat.le_refl _)) hNb
      have hp:=De (k:=.i64) lo (show i<o.length by omega)
      have hi5:i<fr:=by omega
      have hi6:i+1≤fr:=by omega
      have hlh' : ¬lo<hi:=by omega
      ((try simp at t2 hmu hsb);(try simp -implicitDefEqProofs [hlh',hp,hi5,hi6,ho,e3]);repeat' first|(with_reducible apply A0<;>first|(simp only [eras,era,A1];first|with_reducible assumption)|(simp -implicitDefEqProofs [hlh',hp,hi5,hi6,ho,e3])))
      refine⟨i,o.set i lo,N-y*lo,⟨by omega,by simp [ho],hL.set hlb _,?_,?_⟩,by omega,?_⟩
      ·rw [Cr (by omega),lvl,st.1]
      ·rw [st.2];have hdm:=Nat.div_add_mod N y;rw [←hQ] at hdm;omega
      ·simp [B9]
    ·rw [if_neg hRn]
     have hRl:(A9 b4 R).length≤900:=by
      have:=hRlen R hRy
      omega
     refine⟨⟨by unfold maxLen;omega,by omega⟩,?_⟩
     ((try simp at t1);(try simp -implicitDefEqProofs [g1,g2,i4]);repeat' first|(with_reducible apply A0<;>first|(simp only [eras,era,A1];first|with_reducible assumption)|(simp -implicitDefEqProofs [g1,g2,i4])))
     refine A7 (X:=Nat×Nat) (fun X=>X.1≤Q∧Q≤X.2∧X.2≤9999) (fun X=>[(0,.t (.sl (lE .i64 a))),(1,.t (.sl (lE .i64 b))),(7,.bw 0 fr),(8,.t (.sl (lE .i64 (A9 b4 N)))),(9,vI (i:Int)),(10,vI X.1),(11,vI X.2)]) (fun _=>⟨[.buf 3 1 (bE .i64 o)],[]⟩) (fun X=>X.2-X.1) (0,9999) ⟨by omega,by unfold b4 at hdl;omega,by omega⟩ ?_ ?_
     ·simp [B9]
     rintro ⟨lo,hi⟩ ⟨hlo,hhi,h99⟩ hbd
     simp only [] at hlo hhi h99
     clear hbd
     rcases Nat.lt_or_ge lo hi with hlh|hlh
     ·obtain⟨m,hm⟩ : ∃m,m=(lo+hi+1) / 2:=⟨_,rfl⟩
      have v1:IntKind.i64.wrap ((lo:Int)+(hi:Int))=(lo:Int)+(hi:Int):=wrap64 (by omega) (by omega)
      have v2:IntKind.i64.wrap ((lo:Int)+(hi:Int)+1)=((lo+hi+1:Nat):Int):=Ek (x:=lo+hi+1) (by omega)
      have v3:((lo+hi+1:Nat):Int).tdiv 2=(m:Int):=by rw [hm];rfl
      have v3':((lo:Int)+(hi:Int)+1).tdiv 2=(m:Int):=by rw [←v3];push_cast;rfl
      have v4:IntKind.i64.wrap (m:Int)=(m:Int):=Ek (by omega)
      have v5:IntKind.i64.wrap ((m:Int)-1)=(m:Int)-1:=wrap64 (by omega) (by omega)
      have hmu:=hmul1 m (by omega) (by unfold b4;omega)
      have hcm:=hcmp (y*m) N
      have hq:=hQN m
      by_cases hle:y*m≤N
      ·have c1:Cq (y*m) N≤0:=by unfold Cq;split<;>(try split)<;>omega
       have hmQ:=hq.1 hle
       ((try simp at hmu hcm);(try simp -implicitDefEqProofs [hlh,v1,v2,v3,v3',v4,c1]);repeat' first|(with_reducible apply A0<;>first|(simp only [eras,era,A1];first|with_reducible assumption)|(simp -implicitDefEqProofs [hlh,v1,v2,v3,v3',v4,c1])))
       exact⟨m,hi,⟨hmQ,hhi,h99⟩,by omega,by simp [B9]⟩
      ·have c1 : ¬Cq (y*m) N≤0:=by unfold Cq;rw [if_neg (by omega),if_pos (by omega)];omega
       have hmQ : ¬m≤Q:=fun h=>hle (hq.2 h)
       ((try simp at hmu hcm);(try simp -implicitDefEqProofs [hlh,v1,v2,v3,v3',v4,v5,c1]);repeat' first|(with_reducible apply A0<;>first|(simp only [eras,era,A1];first|with_reducible assumption)|(simp -implicitDefEqProofs [hlh,v1,v2,v3,v3',v4,v5,c1])))
       exact⟨lo,m-1,⟨hlo,by omega,by omega⟩,by omega,by simp [B9];omega⟩
     ·have hlQ:lo=Q:=by omega
      subst hlQ
      have hlb:lo<b4:=hdl
      have t2:=htr2 lo hlb
      have hmu:=hmul lo hlb
      have hsb:=hsub N (y*lo) ((hQN lo).2 (Nat.le_refl _)) hNb
      have hp:=De (k:=.i64) lo (show i<o.length by omega)
      have hi5:i<fr:=by omega
      have hi6:i+1≤fr:=by omega
      have hlh' : ¬lo<hi:=by omega
      ((try simp at t2 hmu hsb);(try simp -implicitDefEqProofs [hlh',hp,hi5,hi6,ho,e3]);repeat' first|(with_reducible apply A0<;>first|(simp only [eras,era,A1];first|with_reducible assumption)|(simp -implicitDefEqProofs [hlh',hp,hi5,hi6,ho,e3])))
      refine⟨i,o.set i lo,N-y*lo,⟨by omega,by simp [ho],hL.set hlb _,?_,?_⟩,by omega,?_⟩
      ·rw [Cr (by omega),lvl,st.1]
      ·rw [st.2];have hdm:=Nat.div_add_mod N y;rw [←hQ] at hdm;omega
      ·simp [B9]
  ·rw [if_neg hcase]
   refine⟨⟨by unfold maxLen;omega,by omega⟩,?_⟩
   refine A7 (X:=Nat×List Nat×Nat) (fun X=>X.1≤fr∧X.2.1.length=fr∧Lim b4 X.2.1∧lvl b4 (X.2.1.drop X.1)=lvl b4 (a.drop X.1) / y∧X.2.2=lvl b4 (a.drop X.1) % y)
    (fun X=>[(0,.t (.sl (lE .i64 a))),(1,.t (.sl (lE .i64 b))),(7,.bw 0 fr),(8,.t (.sl (lE .i64 (A9 b4 X.2.2)))),(9,vI ((X.1:Int)-1))]) (fun X=>⟨[.buf 3 1 (bE .i64 X.2.1)],[]⟩) (fun X=>X.1) (fr,List.replicate fr 0,lvl b4 (a.drop fr)) ?_ ?_ ?_
   ·exact⟨Nat.le_refl _,by simp,Lim.zeros Zl _,by rw [List.drop_of_length_le (by simp),hz0];rfl,hz1.symm⟩
   ·have hrep:=P4 .i64 fr
    simp [B9,hdE,e8,hrep]
    first|done|(simp only [bE,List.map_replicate];simp [U5];done)|skip
   rintro ⟨k,o,R⟩ ⟨hk,ho,hL,hv,hR⟩ hbd
   simp only [] at hk ho hL hv hR
   clear hbd
   have hRy:R<y:=by rw [hR];exact Nat.mod_lt _ hy0
   rcases Nat.eq_zero_or_pos k with k0|k0
   ·subst k0
    rw [List.drop_zero,List.drop_zero,hlx] at hv
    rw [List.drop_zero,hlx] at hR
    have ht:=hfin o hL hv
    have hrow:=D6 .i64 o
    rw [ho] at hrow
    have hbt:(bE .i64 o).take fr=bE .i64 o:=List.take_of_length_le (by simp;omega)
    rw [←hR]
    (try simp -implicitDefEqProofs)
    refine Jw (r:=.t (.sl (lE .i64 (A9 b4 (x / y))))) ?_ ?_
    ·simp [frzVs,Bs,Ef,hbt,hrow,eras,era]
     exact ht
    ·(try simp -implicitDefEqProofs [hbt,hrow,Bs,frzVs,Ef])
   ·obtain⟨i,rfl⟩ : ∃i,k=i+1:=⟨k-1,by omega⟩
    obtain⟨u,hu⟩:=Aa (show i<a.length by omega)
    have hub:=hx.at hu
    have hA:=(Nat.div_add_mod (lvl b4 (a.drop (i+1))) y).symm
    have st:=M9 (B:=b4) (x:=u) hy0 hRy (A:=lvl b4 (a.drop (i+1))) (Q:=lvl b4 (a.drop (i+1)) / y) (by rw [hR];exact hA)
    have hdl:=U1 hy0 hRy hub
    have hdn:=Dj (B:=b4) hu
    rw [←hdn,←hv] at st
    obtain⟨N,hN⟩ : ∃N,N=u+b4*R:=⟨_,rfl⟩
    have hN':R*b4+u=N:=by rw [hN,Nat.mul_comm];omega
    rw [hN'] at st hdl
    obtain⟨Q,hQ⟩ : ∃Q,Q=N / y:=⟨_,rfl⟩
    rw [←hQ] at st hdl
    have hNb:N<b4*y:=by
     have:b4*(R+1)≤b4*y:=Nat.mul_le_mul_left _ hRy
     rw [hN,Nat.mul_add] at *;omega
    have hQN : ∀m,y*m≤N↔m≤Q:=fun m=>by rw [hQ,Nat.le_div_iff_mul_le hy0,Nat.mul_comm]
    have t1:=htr1 u R hub
    rw [←hN] at t1
    have g1:=C7 (k:=.i64) hu
    have g2:=Bo (k:=.i64) hu
    have i4:i<a.length:=by omega
    have e3:IntKind.i64.wrap ((i:Int)-1)=(i:Int)-1:=wrap64 (by omega) (by omega)
    ((try simp at t1);(try simp -implicitDefEqProofs [g1,g2,i4,Kv]);repeat' first|(with_reducible apply A0<;>first|(simp only [eras,era,A1];first|with_reducible assumption)|(simp -implicitDefEqProofs [g1,g2,i4,Kv])))
    refine⟨Kv _ _,?_⟩
    by_cases hRn:lE .i64 (A9 b4 R)=[]
    ·rw [if_pos hRn]
     rw [hRn] at t1
     ((try simp at t1);(try simp -implicitDefEqProofs [g1,g2,i4]);repeat' first|(with_reducible apply A0<;>first|(simp only [eras,era,A1];first|with_reducible assumption)|(simp -implicitDefEqProofs [g1,g2,i4])))
     refine A7 (X:=Nat×Nat) (fun X=>X.1≤Q∧Q≤X.2∧X.2≤9999) (fun X=>[(0,.t (.sl (lE .i64 a))),(1,.t (.sl (lE .i64 b))),(7,.bw 0 fr),(8,.t (.sl (lE .i64 (A9 b4 N)))),(9,vI (i:Int)),(10,vI X.1),(11,vI X.2)]) (fun _=>⟨[.buf 3 1 (bE .i64 o)],[]⟩) (fun X=>X.2-X.1) (0,9999) ⟨by omega,by unfold b4 at hdl;omega,by omega⟩ ?_ ?_
     ·simp [B9]
     rintro ⟨lo,hi⟩ ⟨hlo,hhi,h99⟩ hbd
     simp only [] at hlo hhi h99
     clear hbd
     rcases Nat.lt_or_ge lo hi with hlh|hlh
     ·obtain⟨m,hm⟩ : ∃m,m=(lo+hi+1) / 2:=⟨_,rfl⟩
      have v1:IntKind.i64.wrap ((lo:Int)+(hi:Int))=(lo:Int)+(hi:Int):=wrap64 (by omega) (by omega)
      have v2:IntKind.i64.wrap ((lo:Int)+(hi:Int)+1)=((lo+hi+1:Nat):Int):=Ek (x:=lo+hi+1) (by omega)
      have v3:((lo+hi+1:Nat):Int).tdiv 2=(m:Int):=by rw [hm];rfl
      have v3':((lo:Int)+(hi:Int)+1).tdiv 2=(m:Int):=by rw [←v3];push_cast;rfl
      have v4:IntKind.i64.wrap (m:Int)=(m:Int):=Ek (by omega)
      have v5:IntKind.i64.wrap ((m:Int)-1)=(m:Int)-1:=wrap64 (by omega) (by omega)
      have hmu:=hmul1 m (by omega) (by unfold b4;omega)
      have hcm:=hcmp (y*m) N
      have hq:=hQN m
      by_cases hle:y*m≤N
      ·have c1:Cq (y*m) N≤0:=by unfold Cq;split<;>(try split)<;>omega
       have hmQ:=hq.1 hle
       ((try simp at hmu hcm);(try simp -implicitDefEqProofs [hlh,v1,v2,v3,v3',v4,c1]);repeat' first|(with_reducible apply A0<;>first|(simp only [eras,era,A1];first|with_reducible assumption)|(simp -implicitDefEqProofs [hlh,v1,v2,v3,v3',v4,c1])))
       exact⟨m,hi,⟨hmQ,hhi,h99⟩,by omega,by simp [B9]⟩
      ·have c1 : ¬Cq (y*m) N≤0:=by unfold Cq;rw [if_neg (by omega),if_pos (by omega)];omega
       have hmQ : ¬m≤Q:=fun h=>hle (hq.2 h)
       ((try simp at hmu hcm);(try simp -implicitDefEqProofs [hlh,v1,v2,v3,v3',v4,v5,c1]);repeat' first|(with_reducible apply A0<;>first|(simp only [eras,era,A1];first|with_reducible assumption)|(simp -implicitDefEqProofs [hlh,v1,v2,v3,v3',v4,v5,c1])))
       exact⟨lo,m-1,⟨hlo,by omega,by omega⟩,by omega,by simp [B9];omega⟩
     ·have hlQ:lo=Q:=by omega
      subst hlQ
      have hlb:lo<b4:=hdl
      have t2:=htr2 lo hlb
      have hmu:=hmul lo hlb
      have hsb:=hsub N (y*lo) ((hQN lo).2 (Nat.le_refl _)) hNb
      have hp:=De (k:=.i64) lo (show i<o.length by omega)
      have hi5:i<fr:=by omega
      have hi6:i+1≤fr:=by omega
      have hlh' : ¬lo<hi:=by omega
      ((try simp at t2 hmu hsb);(try simp -implicitDefEqProofs [hlh',hp,hi5,hi6,ho,e3]);repeat' first|(with_reducible apply A0<;>first|(simp only [eras,era,A1];first|with_reducible assumption)|(simp -implicitDefEqProofs [hlh',hp,hi5,hi6,ho,e3])))
      refine⟨i,o.set i lo,N-y*lo,⟨by omega,by simp [ho],hL.set hlb _,?_,?_⟩,by omega,?_⟩
      ·rw [Cr (by omega),lvl,st.1]
      ·rw [st.2];have hdm:=Nat.div_add_mod N y;rw [←hQ] at hdm;omega
      ·simp [B9]
    ·rw [if_neg hRn]
     have hRl:(A9 b4 R).length≤900:=by
      have:=hRlen R hRy
      omega
     refine⟨⟨by unfold maxLen;omega,by omega⟩,?_⟩
     ((try simp at t1);(try simp -implicitDefEqProofs [g1,g2,i4]);repeat' first|(with_reducible apply A0<;>first|(simp only [eras,era,A1];first|with_reducible assumption)|(simp -implicitDefEqProofs [g1,g2,i4])))
     refine A7 (X:=Nat×Nat) (fun X=>X.1≤Q∧Q≤X.2∧X.2≤9999) (fun X=>[(0,.t (.sl (lE .i64 a))),(1,.t (.sl (lE .i64 b))),(7,.bw 0 fr),(8,.t (.sl (lE .i64 (A9 b4 N)))),(9,vI (i:Int)),(10,vI X.1),(11,vI X.2)]) (fun _=>⟨[.buf 3 1 (bE .i64 o)],[]⟩) (fun X=>X.2-X.1) (0,9999) ⟨by omega,by unfold b4 at hdl;omega,by omega⟩ ?_ ?_
     ·simp [B9]
     rintro ⟨lo,hi⟩ ⟨hlo,hhi,h99⟩ hbd
     simp only [] at hlo hhi h99
     clear hbd
     rcases Nat.lt_or_ge lo hi with hlh|hlh
     ·obtain⟨m,hm⟩ : ∃m,m=(lo+hi+1) / 2:=⟨_,rfl⟩
      have v1:IntKind.i64.wrap ((lo:Int)+(hi:Int))=(lo:Int)+(hi:Int):=wrap64 (by omega) (by omega)
      have v2:IntKind.i64.wrap ((lo:Int)+(hi:Int)+1)=((lo+hi+1:Nat):Int):=Ek (x:=lo+hi+1) (by omega)
      have v3:((lo+hi+1:Nat):Int).tdiv 2=(m:Int):=by rw [hm];rfl
      have v3':((lo:Int)+(hi:Int)+1).tdiv 2=(m:Int):=by rw [←v3];push_cast;rfl
      have v4:IntKind.i64.wrap (m:Int)=(m:Int):=Ek (by omega)
      have v5:IntKind.i64.wrap ((m:Int)-1)=(m:Int)-1:=wrap64 (by omega) (by omega)
      have hmu:=hmul1 m (by omega) (by unfold b4;omega)
      have hcm:=hcmp (y*m) N
      have hq:=hQN m
      by_cases hle:y*m≤N
      ·have c1:Cq (y*m) N≤0:=by unfold Cq;split<;>(try split)<;>omega
       have hmQ:=hq.1 hle
       ((try simp at hmu hcm);(try simp -implicitDefEqProofs [hlh,v1,v2,v3,v3',v4,c1]);repeat' first|(with_reducible apply A0<;>first|(simp only [eras,era,A1];first|with_reducible assumption)|(simp -implicitDefEqProofs [hlh,v1,v2,v3,v3',v4,c1])))
       exact⟨m,hi,⟨hmQ,hhi,h99⟩,by omega,by simp [B9]⟩
      ·have c1 : ¬Cq (y*m) N≤0:=by unfold Cq;rw [if_neg (by omega),if_pos (by omega)];omega
       have hmQ : ¬m≤Q:=fun h=>hle (hq.2 h)
       ((try simp at hmu hcm);(try simp -implicitDefEqProofs [hlh,v1,v2,v3,v3',v4,v5,c1]);repeat' first|(with_reducible apply A0<;>first|(simp only [eras,era,A1];first|with_reducible assumption)|(simp -implicitDefEqProofs [hlh,v1,v2,v3,v3',v4,v5,c1])))
       exact⟨lo,m-1,⟨hlo,by omega,by omega⟩,by omega,by simp [B9];omega⟩
     ·have hlQ:lo=Q:=by omega
      subst hlQ
      have hlb:lo<b4:=hdl
      have t2:=htr2 lo hlb
      have hmu:=hmul lo hlb
      have hsb:=hsub N (y*lo) ((hQN lo).2 (Nat.le_refl _)) hNb
      have hp:=De (k:=.i64) lo (show i<o.length by omega)
      have hi5:i<fr:=by omega
      have hi6:i+1≤fr:=by omega
      have hlh' : ¬lo<hi:=by omega
      ((try simp at t2 hmu hsb);(try simp -implicitDefEqProofs [hlh',hp,hi5,hi6,ho,e3]);repeat' first|(with_reducible apply A0<;>first|(simp only [eras,era,A1];first|with_reducible assumption)|(simp -implicitDefEqProofs [hlh',hp,hi5,hi6,ho,e3])))
      refine⟨i,o.set i lo,N-y*lo,⟨by omega,by simp [ho],hL.set hlb _,?_,?_⟩,by omega,?_⟩
      ·rw [Cr (by omega),lvl,st.1]
      ·rw [st.2];have hdm:=Nat.div_add_mod N y;rw [←hQ] at hdm;omega
      ·simp [B9]
end Go.Proofs.YtmlpmdccfmmpoaaGreatDoor
