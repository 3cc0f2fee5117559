/- Chapter 32: the program's own program of a reference program. -/
import Derived.Test.YtmlpmdccfmmpoaaGreatDoorIn6
import Derived.Test.YtmlpmdccfmmpoaaGreatDoorRfi
import Derived.Test.YtmlpmdccfmmpoaaGreatDoorSyc
import Derived.Test.YtmlpmdccfmmpoaaGreatDoorCodeB
set_option linter.unusedSimpArgs false
set_option linter.unusedVariables false
set_option maxHeartbeats 4000000
set_option maxRecDepth 8000
namespace Go.Proofs.YtmlpmdccfmmpoaaGreatDoor
open E
def Dd (k:Int):Int:=if k=1 then 1 else if k=2 then 2 else if k=3 then 5 else if k=4 then 6 else if k=5 then 7 else if k=6 then 8 else if k=20 then 9 else if k=21 then 3 else if k=22 then 4 else k+3
def Hq (s:List UInt8):Nat→List (List UInt8)→Int→Int
 | _,[],c=>c
 | i,y::l,c=>Hq s (i+1) l (if y=s then (i:Int) else c)
def Ku (M:List (List UInt8)) (s:List UInt8):Int:=Hq s 0 M 0
def E8 (M:List (List UInt8)) (k v f t:Int) (n:List UInt8):Ins:=
 if k=1 then ⟨1,v,0⟩ else if k=2 then ⟨2,Ku M n,0⟩ else if k=20 then ⟨9,v,0⟩ else if k=21 then ⟨3,f,t⟩ else if k=22 then ⟨4,f,t⟩ else ⟨Dd k,0,0⟩
namespace Xp
mutual
def codeX (M:List (List UInt8)):Xp→List Ins
 | .mk k v f t n xs=>codesX M xs++[E8 M k v f t n]
def codesX (M:List (List UInt8)):List Xp→List Ins
 | []=>[]
 | x::xs=>codeX M x++codesX M xs
end
theorem codesX_flat (M:List (List UInt8)) (l:List Xp):codesX M l=l.flatMap (codeX M):=by
 induction l with
 | nil=>rfl
 | cons x l ih=>rw [codesX,ih];rfl
mutual
theorem codeX_len (M:List (List UInt8)) : ∀x:Xp,(codeX M x).length=cnt x
 | .mk k v f t n xs=>by rw [codeX,cnt,List.length_append,codesX_len M xs];simp;omega
theorem codesX_len (M:List (List UInt8)) : ∀xs:List Xp,(codesX M xs).length=cnts xs
 | []=>rfl
 | x::xs=>by rw [codesX,cnts,List.length_append,codeX_len M x,codesX_len M xs]
end
end Xp
def Eg (M:List (List UInt8)) (s:Stm):Ins:=if s.kind=1 then ⟨23,M.length,0⟩ else if s.kind=2 then ⟨24,0,0⟩ else ⟨25,s.acc,0⟩
def B7:List (List UInt8)→List Stm→List Ins
 | _,[]=>[]
 | M,s::ss=>(s.ex.codeX M++[Eg M s])++B7 (M++Af [s]) ss
def Be (r:Rul):Code:=⟨r.name,r.pair,B7 [] r.stmts++[⟨26,r.to,0⟩]⟩
theorem Rs {M:List (List UInt8)} {ss:List Stm} {k:Nat} {s:Stm} (h:ss[k]?=some s):B7 M (ss.take (k+1))=B7 M (ss.take k)++(s.ex.codeX (M++Af (ss.take k))++[Eg (M++Af (ss.take k)) s]):=by
 induction ss generalizing M k with
 | nil=>simp at h
 | cons y ss ih=>
  cases k with
  | zero=>
   simp at h
   subst h
   simp [B7,Af]
  | succ k=>
   have h':ss[k]?=some s:=by simpa using h
   rw [List.take_succ_cons,B7,List.take_succ_cons,B7,ih h']
   have e:M++Af [y]++Af (ss.take k)=M++Af (y::ss.take k):=by
    rw [List.append_assoc];congr 1
    unfold Af
    rw [←List.map_append,←List.filter_append];rfl
   rw [e]
   simp only [List.append_assoc]
def Ib (ss:List Stm):Nat:=(ss.map fun s=>s.ex.cnt).sum
theorem Id : ∀(ss:List Stm) (M:List (List UInt8)),(B7 M ss).length=ss.length+Ib ss
 | [],M=>rfl
 | s::ss,M=>by
  rw [B7,List.length_append,List.length_append,Xp.codeX_len,Id ss]
  simp [Ib];omega
theorem Xq (r:Rul):(Be r).ins.length=1+r.stmts.length+Ib r.stmts:=by
 simp only [Be,List.length_append,Id,List.length_cons,List.length_nil];omega

def F2 (len:Nat) (pair:Bool):Nat→List Ins→Int×Int×Int→Option (Int×Int×Int)
 | _,[],s=>some s
 | i,x::l,s=>match Bu len pair i x s with
  | some s'=>F2 len pair (i+1) l s'
  | none=>none
theorem Cy {len:Nat} {pair:Bool} : ∀(a b:List Ins) (i:Nat) (s:Int×Int×Int),F2 len pair i (a++b) s=(F2 len pair i a s).bind fun s'=>F2 len pair (i+a.length) b s'
 | [],b,i,s=>by simp [F2]
 | x::a,b,i,s=>by
  rw [List.cons_append,F2,F2]
  cases Bu len pair i x s with
  | none=>rfl
  | some s'=>
   simp only []
   rw [Cy a b (i+1) s',List.length_cons,show i+1+a.length=i+(a.length+1) by omega]
theorem Nz (c:Code) : ∀k,k≤c.ins.length→Bw c k=F2 c.ins.length c.pair 0 (c.ins.take k) (0,0,0)
 | 0,_=>by simp [Bw,F2]
 | k+1,h=>by
  have hk:k<c.ins.length:=h
  have hx:c.ins[k]?=some c.ins[k]:=by simp [hk]
  rw [Bw,Nz c k (by omega),Ae hx,Cy,hx]
  have hl:(c.ins.take k).length=k:=by simp;omega
  cases hr:F2 c.ins.length c.pair 0 (c.ins.take k) (0,0,0) with
  | none=>rfl
  | some s=>
   simp only [Option.bind_some,F2,hl,Nat.zero_add]
   cases Bu c.ins.length c.pair k c.ins[k] s<;>rfl
theorem Xr (c:Code):(C4 c).2=true↔c.ins≠[]∧∃s,F2 c.ins.length c.pair 0 c.ins (0,0,0)=some s:=by
 have h:=Nz c c.ins.length (Nat.le_refl _)
 rw [List.take_length] at h
 unfold C4
 rw [h]
 by_cases he:c.ins=[]
 ·rw [if_pos he];simp [he]
 ·rw [if_neg he]
  cases F2 c.ins.length c.pair 0 c.ins (0,0,0) with
  | none=>simp
  | some s=>simp [he]
theorem Rt {s:List UInt8} : ∀(l:List (List UInt8)) (i:Nat) (c:Int),s∈l→(i:Int)≤Hq s i l c∧Hq s i l c<i+l.length
 | [],i,c,h=>by cases h
 | y::l,i,c,h=>by
  rw [Hq]
  by_cases hl:s∈l
  ·have:=Rt l (i+1) (if y=s then (i:Int) else c) hl
   push_cast at this ⊢
   simp only [List.length_cons]
   push_cast
   omega
  ·have hy:y=s:=by
    rcases List.mem_cons.1 h with e|e
    ·exact e.symm
    ·exact absurd e hl
   have hno : ∀(l:List (List UInt8)) (j:Nat) (c:Int),s∉l→Hq s j l c=c:=by
    intro l
    induction l with
    | nil=>intros;rfl
    | cons z l ih=>
     intro j c hz
     rw [Hq,if_neg (fun e=>hz (by rw [e];simp)),ih _ _ (fun e=>hz (by simp [e]))]
   rw [if_pos hy,hno l _ _ hl]
   simp only [List.length_cons]
   push_cast
   omega
theorem Ru {M:List (List UInt8)} {s:List UInt8} (h:s∈M):0≤Ku M s∧Ku M s<M.length:=by
 have:=Rt M 0 0 h
 unfold Ku
 simpa using this
theorem K6 {k:Int} (h1:1≤k) (h2:k≤22):tk (Dd k)=Bi k∧pt (Dd k)=1∧1≤Dd k∧Dd k≤22:=by
 rcases (by omega:k=1∨k=2∨k=3∨k=4∨k=5∨k=6∨k=7∨k=8∨k=9∨k=10∨k=11∨k=12∨k=13∨k=14∨k=15∨k=16∨k=17∨k=18∨k=19∨k=20∨k=21∨k=22) with rfl|rfl|rfl|rfl|rfl|rfl|rfl|rfl|rfl|rfl|rfl|rfl|rfl|rfl|rfl|rfl|rfl|rfl|rfl|rfl|rfl|rfl<;>decide
theorem Mm (M:List (List UInt8)) (k v f t:Int) (n:List UInt8):(E8 M k v f t n).op=Dd k:=by
 unfold E8
 by_cases e1:k=1
 ·subst e1;rfl
 rw [if_neg e1]
 by_cases e2:k=2
 ·subst e2;rfl
 rw [if_neg e2]
 by_cases e3:k=20
 ·subst e3;rfl
 rw [if_neg e3]
 by_cases e4:k=21
 ·subst e4;rfl
 rw [if_neg e4]
 by_cases e5:k=22
 ·subst e5;rfl
 rw [if_neg e5]
theorem K7 {known pair wrong:Bool} {e k f t:Int} (h:(F0 known pair wrong e k f t).2=0):e=0∧(k=2→known=true)∧(k=21∨k=22→f≤t)∧(k=22→pair=true):=by
 unfold F0 at h
 split at h
 ·rename_i h1;exact absurd h h1
 rename_i h1
 split at h
 ·exact absurd h (by decide)
 split at h
 ·exact absurd h (by decide)
 rename_i h3
 split at h
 ·exact absurd h (by decide)
 rename_i h4
 split at h
 ·exact absurd h (by decide)
 rename_i h5
 refine⟨by simpa using h1,fun hk=>?_,fun hk=>?_,fun hk=>?_⟩
 ·cases hb:known
  ·exact absurd ⟨hk,hb⟩ h3
  ·rfl
 ·rcases Int.lt_or_le t f with q|q
  ·exact absurd ⟨hk,q⟩ h4
  ·exact q
 ·cases hb:pair
  ·exact absurd ⟨hk,hb⟩ h5
  ·rfl
theorem Xs {M:List (List UInt8)} {pair:Bool} {k v f t:Int} {n:List UInt8} {len:Nat} (hs:Gz k v f t n len=true) (h2:k=2→n∈M) (h3:k=21∨k=22→f≤t) (h4:k=22→pair=true) :
  Cv (E8 M k v f t n) pair M.length=true:=by
 unfold Gz kdB at hs
 simp only [Bool.and_eq_true,decide_eq_true_eq] at hs
 obtain⟨⟨⟨k1,k2⟩,hl⟩,hf⟩:=hs
 unfold fldB at hf
 unfold E8
 by_cases e1:k=1
 ·subst e1
  rw [if_pos rfl] at hf ⊢
  simp only [Bool.and_eq_true,decide_eq_true_eq] at hf
  simp only [Cv,Ah,if_true,Bool.and_eq_true,decide_eq_true_eq,beq_self_eq_true,and_true]
  omega
 rw [if_neg e1] at hf ⊢
 by_cases e2:k=2
 ·subst e2
  rw [if_pos rfl]
  have:=Ru (h2 rfl)
  simp only [Cv,if_neg (by decide : ¬(2:Int)=1),if_true,Bool.and_eq_true,decide_eq_true_eq,beq_self_eq_true,and_true]
  omega
 rw [if_neg e2] at hf ⊢
 by_cases e3:k=20
 ·subst e3
  rw [if_pos rfl] at hf ⊢
  simp only [Bool.and_eq_true,decide_eq_true_eq] at hf
  simp only [Cv,Ah,if_neg (by decide : ¬(9:Int)=1),if_neg (by decide : ¬(9:Int)=2),if_neg (by decide : ¬((9:Int)=3∨(9:Int)=4)),if_true,Bool.and_eq_true,decide_eq_true_eq,beq_self_eq_true,and_true]
  omega
 rw [if_neg e3] at hf ⊢
 by_cases e4:k=21
 ·subst e4
  rw [if_pos (.inl rfl)] at hf
  rw [if_pos rfl]
  have:=h3 (.inl rfl)
  simp only [Bool.and_eq_true] at hf
  have a1:Fp f=true:=hf.1.1.1
  have a2:Fp t=true:=hf.1.1.2
  simp [Cv,a1,a2,this]
 rw [if_neg e4]
 by_cases e5:k=22
 ·subst e5
  rw [if_pos (.inr rfl)] at hf
  rw [if_pos rfl]
  have:=h3 (.inr rfl)
  have hp:=h4 rfl
  simp only [Bool.and_eq_true] at hf
  have a1:Fp f=true:=hf.1.1.1
  have a2:Fp t=true:=hf.1.1.2
  simp [Cv,a1,a2,hp,this]
 rw [if_neg e5]
 rcases (by omega:k=3∨k=4∨k=5∨k=6∨k=7∨k=8∨k=9∨k=10∨k=11∨k=12∨k=13∨k=14∨k=15∨k=16∨k=17∨k=18∨k=19) with rfl|rfl|rfl|rfl|rfl|rfl|rfl|rfl|rfl|rfl|rfl|rfl|rfl|rfl|rfl|rfl|rfl<;>rfl
theorem A0h {len:Nat} {pair:Bool} {i:Nat} {x:Ins} {m d st:Int} (hi:i+1<len) (h1:1≤x.op) (h2:x.op≤22) (hp:pt x.op=1) (hn:Cv x pair st=true) (hd:tk x.op≤d) :
  ∃m',Bu len pair i x (m,d,st)=some (m',d+(1-tk x.op),st):=by
 have hb:Cg len pair i x st=false:=by
  unfold Cg
  rw [hn,decide_eq_false (by omega : ¬x.op<1),decide_eq_false (by omega : ¬26<x.op),decide_eq_false (by omega : ¬x.op=26),decide_eq_false (by omega : ¬i+1=len)]
  rfl
 have hc:C8 x.op d=false:=by
  unfold C8
  rw [decide_eq_false (by omega : ¬d<tk x.op),hp]
  rfl
 refine⟨max m (d+(1-tk x.op)),?_⟩
 unfold Bu
 simp only [hb,hc,Bool.false_eq_true,if_false,hp]
 rw [if_neg (by omega)]
namespace Xp
theorem infs_all {q:List UInt8→Bool} {pair:Bool} {w:Int} : ∀(xs:List Xp),(infs q pair w xs).1=0→∀x∈xs,(inf q pair x).2=0
 | [],_,x,h=>by cases h
 | y::xs,h,x,hx=>by
  rw [infs] at h
  split at h
  ·rename_i h1;exact absurd h h1
  ·rename_i h1
   rcases List.mem_cons.1 hx with rfl|hx
   ·simpa using h1
   ·exact infs_all xs h x hx
theorem props_mem {l:List Xp} (h:props l=true) : ∀x∈l,prop x=true:=by
 rw [props_all] at h
 intro x hx
 cases hb:prop x
 ·rw [List.any_eq_true.2 ⟨x,hx,by simp [hb]⟩] at h;cases h
 ·rfl
theorem run_x {len:Nat} {pair:Bool} {M:List (List UInt8)} : ∀x:Xp,x.prop=true→(x.inf (C9 M) pair).2=0→∀(i:Nat) (m d:Int),i+(codeX M x).length<len→0≤d→
  ∃m',F2 len pair i (codeX M x) (m,d,(M.length:Int))=some (m',d+1,(M.length:Int)):=by
 refine Xp.ind fun k v f t n xs ih hp hf i m d hi hd=>?_
 rw [prop,Bool.and_eq_true] at hp
 rw [inf] at hf
 obtain⟨f1,f2,f3,f4⟩:=K7 hf
 have hall:=infs_all xs f1
 have hpm:=props_mem hp.2
 have main : ∀(l:List Xp),(∀x∈l,x∈xs)→∀(i:Nat) (m d:Int),i+(codesX M l).length<len→0≤d→∃m',F2 len pair i (codesX M l) (m,d,(M.length:Int))=some (m',d+l.length,(M.length:Int)):=by
  intro l
  induction l with
  | nil=>intro _ i m d _ _;exact⟨m,by simp [codesX,F2]⟩
  | cons y l ihl=>
   intro hl i m d hi hd
   rw [codesX,List.length_append] at hi
   obtain⟨m1,h1⟩:=ih y (hl y (by simp)) (hpm y (hl y (by simp))) (hall y (hl y (by simp))) i m d (by omega) hd
   obtain⟨m2,h2⟩:=ihl (fun x hx=>hl x (by simp [hx])) (i+(codeX M y).length) m1 (d+1) (by omega) (by omega)
   refine⟨m2,?_⟩
   rw [codesX,Cy,h1,Option.bind_some,h2]
   simp only [List.length_cons]
   push_cast
   rw [show d+1+(l.length:Int)=d+((l.length:Int)+1) by omega]
 rw [codeX,List.length_append] at hi
 simp only [List.length_cons,List.length_nil] at hi
 obtain⟨m1,h1⟩:=main xs (fun _ h=>h) i m d (by omega) hd
 have hk:1≤k∧k≤22∧(xs.length:Int)=Bi k:=by
  have:=hp.1
  unfold Gz kdB at this
  simp only [Bool.and_eq_true,decide_eq_true_eq,beq_iff_eq] at this
  exact⟨this.1.1.1,this.1.1.2,this.1.2⟩
 obtain⟨t1,t2,t3,t4⟩:=K6 hk.1 hk.2.1
 have hop:=Mm M k v f t n
 have hnum:=Xs hp.1 (M:=M) (pair:=pair) (fun e=>by have:=f2 e;simpa [C9] using this) f3 f4
 obtain⟨m2,h2⟩:=A0h (len:=len) (pair:=pair) (i:=i+(codesX M xs).length) (x:=E8 M k v f t n) (m:=m1) (d:=d+xs.length) (st:=(M.length:Int)) (by omega) (by rw [hop];omega) (by rw [hop];omega) (by rw [hop];exact t2) hnum (by rw [hop,t1];omega)
 refine⟨m2,?_⟩
 rw [codeX,Cy,h1,Option.bind_some,F2,h2]
 simp only [F2]
 rw [hop,t1,←hk.2.2,show d+(xs.length:Int)+(1-(xs.length:Int))=d+1 by omega]
end Xp
theorem A0i {len:Nat} {pair:Bool} {i:Nat} {x:Ins} {m st:Int} (hi:i+1<len) (h1:23≤x.op) (h2:x.op≤25) (hn:Cv x pair st=true) :
  ∃m',Bu len pair i x (m,1,st)=some (m',0,if x.op=23 then st+1 else st):=by
 have hb:Cg len pair i x st=false:=by
  unfold Cg
  rw [hn,decide_eq_false (by omega : ¬x.op<1),decide_eq_false (by omega : ¬26<x.op),decide_eq_false (by omega : ¬x.op=26),decide_eq_false (by omega : ¬i+1=len)]
  rfl
 have ht:tk x.op=1∧pt x.op=0:=by
  rcases (by omega:x.op=23∨x.op=24∨x.op=25) with h|h|h<;>rw [h]<;>decide
 have hc:C8 x.op 1=false:=by
  unfold C8
  rw [ht.1,ht.2]
  rfl
 refine⟨max m (1+(pt x.op-tk x.op)),?_⟩
 unfold Bu
 simp only [hb,hc,Bool.false_eq_true,if_false]
 rw [ht.1,ht.2]
 rfl
theorem A0j {len:Nat} {pair:Bool} {known:Int→Bool} : ∀(ss:List Stm) (M:List (List UInt8)),(∀s∈ss,Dl s=true)→Bo known pair M ss=0→∀(i:Nat) (m:Int),i+(B7 M ss).length<len→
  ∃m',F2 len pair i (B7 M ss) (m,0,(M.length:Int))=some (m',0,((M++Af ss).length:Int))
 | [],M,_,_,i,m,_=>⟨m,by simp [B7,F2,Af]⟩
 | s::ss,M,hb,he,i,m,hi=>by
  rw [Bo] at he
  split at he
  ·rename_i h1;exact absurd he h1
  rename_i h1
  have hs0:F1 known (C9 M) pair s=0:=by simpa using h1
  have hi0:(s.ex.inf (C9 M) pair).2=0:=by
   unfold F1 at hs0
   split at hs0
   ·rename_i q;exact absurd hs0 q
   ·rename_i q;simpa using q
  have hsb:=hb s (by simp)
  unfold Dl at hsb
  simp only [Bool.and_eq_true,decide_eq_true_eq] at hsb
  obtain⟨⟨hsh,_⟩,hpr⟩:=hsb
  rw [B7,List.length_append,List.length_append] at hi
  simp only [List.length_cons,List.length_nil] at hi
  obtain⟨m1,r1⟩:=Xp.run_x (len:=len) (pair:=pair) (M:=M) s.ex hpr hi0 i m 0 (by omega) (by omega)
  unfold Ly at hsh
  have hlast:23≤(Eg M s).op∧(Eg M s).op≤25∧Cv (Eg M s) pair (M.length:Int)=true∧(if (Eg M s).op=23 then (M.length:Int)+1 else (M.length:Int))=((M++Af [s]).length:Int):=by
   unfold Eg
   by_cases k1:s.kind=1
   ·rw [if_pos k1]
    refine⟨by simp,by simp,by simp [Cv],?_⟩
    simp [Af,k1]
   rw [if_neg k1] at hsh ⊢
   have hn:Af [s]=[]:=by simp [Af,k1]
   rw [hn,List.append_nil]
   by_cases k2:s.kind=2
   ·rw [if_pos k2]
    exact⟨by simp,by simp,rfl,rfl⟩
   rw [if_neg k2] at hsh ⊢
   split at hsh
   ·simp only [Bool.and_eq_true] at hsh
    have ha:Fp s.acc=true:=hsh.2
    refine⟨by simp,by simp,?_,rfl⟩
    simp [Cv,ha]
   ·cases hsh
  obtain⟨l1,l2,l3,l4⟩:=hlast
  obtain⟨m2,r2⟩:=A0i (len:=len) (pair:=pair) (i:=i+(s.ex.codeX M).length) (x:=Eg M s) (m:=m1) (st:=(M.length:Int)) (by omega) l1 l2 l3
  obtain⟨m3,r3⟩:=A0j (len:=len) (pair:=pair) (known:=known) ss (M++Af [s]) (fun x hx=>hb x (by simp [hx])) he (i+(s.ex.codeX M++[Eg M s]).length) m2 (by rw [List.length_append];simp only [List.length_cons,List.length_nil];omega)
  refine⟨m3,?_⟩
  rw [B7,Cy,Cy,r1,Option.bind_some]
  simp only [F2,Int.zero_add]
  rw [r2]
  simp only [Option.bind_some]
  rw [l4,r3]
  congr 3
  unfold Af
  rw [List.append_assoc,←List.map_append,←List.filter_append]
  rfl
theorem Rv {known:Int→Bool} {r:Rul} (hb:Cs r=true) (he:K4 known r=0):(C4 (Be r)).2=true:=by
 unfold Cs at hb
 simp only [Bool.and_eq_true,decide_eq_true_eq,List.all_eq_true] at hb
 obtain⟨⟨_,hto⟩,hst⟩:=hb
 have h0:Bo known r.pair [] r.stmts=0:=by
  unfold K4 at he
  split at he
  ·rename_i q;exact absurd he q
  ·rename_i q;simpa using q
 rw [Xr]
 unfold Be
 simp only []
 refine⟨by simp,?_⟩
 obtain⟨m1,r1⟩:=A0j (len:=(B7 [] r.stmts++[(⟨26,r.to,0⟩:Ins)]).length) (pair:=r.pair) (known:=known) r.stmts [] hst h0 0 0 (by simp)
 have ha:Fp r.to=true:=hto
 rw [Cy]
 have e0:(([]:List (List UInt8)).length:Int)=0:=rfl
 rw [e0] at r1
 rw [r1,Option.bind_some,F2]
 have hstep:Bu (B7 [] r.stmts++[(⟨26,r.to,0⟩:Ins)]).length r.pair (0+(B7 [] r.stmts).length) ⟨26,r.to,0⟩ (m1,0,((([]:List (List UInt8))++Af r.stmts).length:Int))=some (max m1 0,0,((([]:List (List UInt8))++Af r.stmts).length:Int)):=by
  have hbm:Cg (B7 [] r.stmts++[(⟨26,r.to,0⟩:Ins)]).length r.pair (0+(B7 [] r.stmts).length) ⟨26,r.to,0⟩ ((([]:List (List UInt8))++Af r.stmts).length:Int)=false:=by
   unfold Cg
   have hn:Cv ⟨26,r.to,0⟩ r.pair ((([]:List (List UInt8))++Af r.stmts).length:Int)=true:=by simp [Cv,ha]
   rw [hn]
   simp
  unfold Bu
  simp only [hbm,Bool.false_eq_true,if_false]
  rfl
 rw [hstep]
 exact⟨_,rfl⟩
theorem A0k (p:List Rul) (hp:p.length≤1000) (hs : ∀r∈p,r.stmts.length≤1000) (hc : ∀r∈p,∀s∈r.stmts,s.ex.cnt≤100000):A4 Tryz.prog 15 [Rul.l p] (Rul.l p):=by
 (refine A4.of_code mix Tryz.call15 k_15 (by simp) (fun hB=>?_);(try simp at hB);(try simp -implicitDefEqProofs))
 refine Av [(.slot 3,133,4)] (X:=Nat) (fun k=>k≤p.length) (fun k=>[(0,Rul.l p),(3,.own 0 133 4 ((p.take k).map Rul.c)),(4,vI k)])
  (fun k=>⟨[],[k]⟩) (fun k=>p.length-k) 0 (by omega) (by simp) ?_
 rintro k hk hbd
 clear hbd
 rcases Nat.lt_or_ge k p.length with h|h
 ·have hx:p[k]?=some p[k]:=by simp [h]
  have hmem:p[k]∈p:=List.getElem_mem h
  have hsk:=hs _ hmem
  have hck:=hc _ hmem
  have htk:=Ae hx
  have hmin:min k p.length=k:=by omega
  have e3:IntKind.i64.wrap ((k:Int)+1)=(k:Int)+1:=wrap64 (by omega) (by omega)
  obtain⟨nm,pr,ss,to,hr⟩ : ∃nm pr ss to,p[k]=⟨nm,pr,ss,to⟩:=⟨_,_,_,_,rfl⟩
  have hrk:(p.map Rul.c)[k]?=some [.str nm,.bool pr,.sl (ss.map Stm.c),.int .i64 to]:=by simp [h,hr,Rul.c]
  have hcc:p[k].c=[.str nm,.bool pr,.sl (ss.map Stm.c),.int .i64 to]:=by rw [hr];rfl
  rw [hr] at hsk hck htk
  simp only [] at hsk hck
  have hap:(p.map Rul.c).take (k+1)=(p.map Rul.c).take k++[[.str nm,.bool pr,.sl (ss.map Stm.c),.int .i64 to]]:=by rw [Ae hrk]
  ((try simp -implicitDefEqProofs [h,hrk,hcc,e3]);repeat' first|((with_reducible first|apply A7|apply A8|apply A3)<;>(intro hc;have hc':=hc;(try simp at hc');simp -implicitDefEqProofs [hc,hc',h,hrk,hcc,e3])))
  refine Av [(.cell 0 2,139,9)] (X:=Nat) (fun j=>j≤ss.length) (fun j=>[(0,Rul.l p),(3,.own 0 133 4 ((p.take k).map Rul.c)),(4,vI k),(5,.ptr 0 0),(6,vI j)])
   (fun j=>⟨[.cells [vS nm,vB pr,.own 1 139 9 ((ss.take j).map Stm.c),vI to]],[k,j]⟩) (fun j=>ss.length-j) 0 (by omega) (by simp) ?_
  rintro j hj hbd
  clear hbd
  rcases Nat.lt_or_ge j ss.length with g|g
  ·have gx:ss[j]?=some ss[j]:=by simp [g]
   have hcj:=hck _ (List.getElem_mem g)
   have gtk:=Ae gx
   have gmin:min j ss.length=j:=by omega
   have g3:IntKind.i64.wrap ((j:Int)+1)=(j:Int)+1:=wrap64 (by omega) (by omega)
   obtain⟨sk,sa,sn,sx,gr⟩ : ∃sk sa sn sx,ss[j]=⟨sk,sa,sn,sx⟩:=⟨_,_,_,_,rfl⟩
   have gsj:(ss.map Stm.c)[j]?=some (.int .i64 sk::.int .i64 sa::.str sn::sx.c):=by simp [g,gr,Stm.c]
   have gcc:ss[j].c=.int .i64 sk::.int .i64 sa::.str sn::sx.c:=by rw [gr];rfl
   rw [gr] at hcj gtk
   simp only [] at hcj
   have how:=A1w sx hcj
   have hlc:=D5 sx
   have htc:=C3 sx
   have gap:(ss.map Stm.c).take (j+1)=(ss.map Stm.c).take j++[.int .i64 sk::.int .i64 sa::.str sn::sx.c]:=by rw [Ae gsj]
   ((try simp at how);(try simp -implicitDefEqProofs [h,hrk,hcc,g,gsj,gcc,g3,hlc,htc,gmin,hmin,maxLen]);repeat' first|((with_reducible first|apply A7|apply A8|apply A3)<;>(intro hc;have hc':=hc;(try simp at hc');simp -implicitDefEqProofs [hc,hc',h,hrk,hcc,g,gsj,gcc,g3,hlc,htc,gmin,hmin,maxLen]))|(with_reducible apply A0<;>first|(simp only [eras,era,A1];first|with_reducible assumption)|(simp -implicitDefEqProofs [h,hrk,hcc,g,gsj,gcc,g3,hlc,htc,gmin,hmin,maxLen])))
   exact⟨⟨by omega,by omega⟩,j+1,by omega,by omega,⟨by rw [gap];exact .inl rfl,rfl⟩,by push_cast;rfl⟩
  ·have:j=ss.length:=by omega
   subst this
   have gt:(ss.map Stm.c).take ss.length=ss.map Stm.c:=List.take_of_length_le (by simp)
   ((try simp -implicitDefEqProofs [h,hrk,hcc,g,e3,hmin,maxLen,gt]);repeat' first|((with_reducible first|apply A7|apply A8|apply A3)<;>(intro hc;have hc':=hc;(try simp at hc');simp -implicitDefEqProofs [hc,hc',h,hrk,hcc,g,e3,hmin,maxLen,gt])))
   exact⟨⟨by omega,by omega⟩,k+1,by omega,by omega,by omega,by rw [hap];exact .inl (.inl rfl),by push_cast;rfl⟩
 ·have:k=p.length:=by omega
  subst this
  have ht:(p.map Rul.c).take p.length=p.map Rul.c:=List.take_of_length_le (by simp)
  ((try simp -implicitDefEqProofs [ht]);repeat' first|((with_reducible first|apply A7|apply A8|apply A3)<;>(intro hc;have hc':=hc;(try simp at hc');simp -implicitDefEqProofs [hc,hc',ht])))
end Go.Proofs.YtmlpmdccfmmpoaaGreatDoor
