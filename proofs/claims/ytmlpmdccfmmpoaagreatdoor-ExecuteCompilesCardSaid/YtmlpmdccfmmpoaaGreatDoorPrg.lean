/- Chapter 32: the program's own program of a reference program. -/
import Derived.Test.YtmlpmdccfmmpoaaGreatDoorMea
import Derived.Test.YtmlpmdccfmmpoaaGreatDoorRfi
import Derived.Test.YtmlpmdccfmmpoaaGreatDoorMaps
import Derived.Test.YtmlpmdccfmmpoaaGreatDoorCodeB
set_option linter.unusedSimpArgs false
set_option linter.unusedVariables false
set_option maxHeartbeats 4000000
set_option maxRecDepth 8000
namespace Go.Proofs.YtmlpmdccfmmpoaaGreatDoor
open E
def F4 (k:Int):Int:=if k=1 then 1 else if k=2 then 2 else if k=3 then 5 else if k=4 then 6 else if k=5 then 7 else if k=6 then 8 else if k=20 then 9 else if k=21 then 3 else if k=22 then 4 else k+3
def I2 (s:List UInt8):Nat→List (List UInt8)→Int→Int
 | _,[],c=>c
 | i,y::l,c=>I2 s (i+1) l (if y=s then (i:Int) else c)
def J7 (M:List (List UInt8)) (s:List UInt8):Int:=I2 s 0 M 0
def Dx (M:List (List UInt8)) (k v f t:Int) (n:List UInt8):Ins:=
 if k=1 then ⟨1,v,0⟩ else if k=2 then ⟨2,J7 M n,0⟩ else if k=20 then ⟨9,v,0⟩ else if k=21 then ⟨3,f,t⟩ else if k=22 then ⟨4,f,t⟩ else ⟨F4 k,0,0⟩
namespace Xp
mutual
def codeX (M:List (List UInt8)):Xp→List Ins
 | .mk k v f t n xs=>codesX M xs++[Dx M k v f t n]
def codesX (M:List (List UInt8)):List Xp→List Ins
 | []=>[]
 | x::xs=>codeX M x++codesX M xs
end
theorem codesX_flat (M:List (List UInt8)) (l:List Xp):codesX M l=l.flatMap (codeX M):=by
 induction l with
 | nil=>rfl
 | cons x l ih=>rw [codesX,ih];rfl
mutual
theorem codeX_len (M:List (List UInt8)) : ∀x:Xp,(codeX M x).length=cnt x
 | .mk k v f t n xs=>by rw [codeX,cnt,List.length_append,codesX_len M xs];simp;omega
theorem codesX_len (M:List (List UInt8)) : ∀xs:List Xp,(codesX M xs).length=cnts xs
 | []=>rfl
 | x::xs=>by rw [codesX,cnts,List.length_append,codeX_len M x,codesX_len M xs]
end
end Xp
def Eh (M:List (List UInt8)) (s:Stm):Ins:=if s.kind=1 then ⟨23,M.length,0⟩ else if s.kind=2 then ⟨24,0,0⟩ else ⟨25,s.acc,0⟩
def Az:List (List UInt8)→List Stm→List Ins
 | _,[]=>[]
 | M,s::ss=>(s.ex.codeX M++[Eh M s])++Az (M++Af [s]) ss
def B5 (r:Rul):Code:=⟨r.name,r.pair,Az [] r.stmts++[⟨26,r.to,0⟩]⟩
def A07 (p:List Rul) (l:List Account):List Code×Int×Int:=if (G8 p l).2=0 then (p.map B5,0,0) else ([],(G8 p l).1,(G8 p l).2)

theorem Rk {M:List (List UInt8)} {ss:List Stm} {k:Nat} {s:Stm} (h:ss[k]?=some s):Az M (ss.take (k+1))=Az M (ss.take k)++(s.ex.codeX (M++Af (ss.take k))++[Eh (M++Af (ss.take k)) s]):=by
 induction ss generalizing M k with
 | nil=>simp at h
 | cons y ss ih=>
  cases k with
  | zero=>
   simp at h
   subst h
   simp [Az,Af]
  | succ k=>
   have h':ss[k]?=some s:=by simpa using h
   rw [List.take_succ_cons,Az,List.take_succ_cons,Az,ih h']
   have e:M++Af [y]++Af (ss.take k)=M++Af (y::ss.take k):=by
    rw [List.append_assoc];congr 1
    unfold Af
    rw [←List.map_append,←List.filter_append];rfl
   rw [e]
   simp only [List.append_assoc]
def I3 (ss:List Stm):Nat:=(ss.map fun s=>s.ex.cnt).sum
theorem I4 : ∀(ss:List Stm) (M:List (List UInt8)),(Az M ss).length=ss.length+I3 ss
 | [],M=>rfl
 | s::ss,M=>by
  rw [Az,List.length_append,List.length_append,Xp.codeX_len,I4 ss]
  simp [I3];omega
theorem Xj (r:Rul):(B5 r).ins.length=1+r.stmts.length+I3 r.stmts:=by
 simp only [B5,List.length_append,I4,List.length_cons,List.length_nil];omega

def El (len:Nat) (pair:Bool):Nat→List Ins→Int×Int×Int→Option (Int×Int×Int)
 | _,[],s=>some s
 | i,x::l,s=>match Cm len pair i x s with
  | some s'=>El len pair (i+1) l s'
  | none=>none
theorem Ci {len:Nat} {pair:Bool} : ∀(a b:List Ins) (i:Nat) (s:Int×Int×Int),El len pair i (a++b) s=(El len pair i a s).bind fun s'=>El len pair (i+a.length) b s'
 | [],b,i,s=>by simp [El]
 | x::a,b,i,s=>by
  rw [List.cons_append,El,El]
  cases Cm len pair i x s with
  | none=>rfl
  | some s'=>
   simp only []
   rw [Ci a b (i+1) s',List.length_cons,show i+1+a.length=i+(a.length+1) by omega]
theorem Nr (c:Code) : ∀k,k≤c.ins.length→Bu c k=El c.ins.length c.pair 0 (c.ins.take k) (0,0,0)
 | 0,_=>by simp [Bu,El]
 | k+1,h=>by
  have hk:k<c.ins.length:=h
  have hx:c.ins[k]?=some c.ins[k]:=by simp [hk]
  rw [Bu,Nr c k (by omega),Ag hx,Ci,hx]
  have hl:(c.ins.take k).length=k:=by simp;omega
  cases hr:El c.ins.length c.pair 0 (c.ins.take k) (0,0,0) with
  | none=>rfl
  | some s=>
   simp only [Option.bind_some,El,hl,Nat.zero_add]
   cases Cm c.ins.length c.pair k c.ins[k] s<;>rfl
theorem Xk (c:Code):(Bo c).2=true↔c.ins≠[]∧∃s,El c.ins.length c.pair 0 c.ins (0,0,0)=some s:=by
 have h:=Nr c c.ins.length (Nat.le_refl _)
 rw [List.take_length] at h
 unfold Bo
 rw [h]
 by_cases he:c.ins=[]
 ·rw [if_pos he];simp [he]
 ·rw [if_neg he]
  cases El c.ins.length c.pair 0 c.ins (0,0,0) with
  | none=>simp
  | some s=>simp [he]
theorem Rl {s:List UInt8} : ∀(l:List (List UInt8)) (i:Nat) (c:Int),s∈l→(i:Int)≤I2 s i l c∧I2 s i l c<i+l.length
 | [],i,c,h=>by cases h
 | y::l,i,c,h=>by
  rw [I2]
  by_cases hl:s∈l
  ·have:=Rl l (i+1) (if y=s then (i:Int) else c) hl
   push_cast at this ⊢
   simp only [List.length_cons]
   push_cast
   omega
  ·have hy:y=s:=by
    rcases List.mem_cons.1 h with e|e
    ·exact e.symm
    ·exact absurd e hl
   have hno : ∀(l:List (List UInt8)) (j:Nat) (c:Int),s∉l→I2 s j l c=c:=by
    intro l
    induction l with
    | nil=>intros;rfl
    | cons z l ih=>
     intro j c hz
     rw [I2,if_neg (fun e=>hz (by rw [e];simp)),ih _ _ (fun e=>hz (by simp [e]))]
   rw [if_pos hy,hno l _ _ hl]
   simp only [List.length_cons]
   push_cast
   omega
theorem Rm {M:List (List UInt8)} {s:List UInt8} (h:s∈M):0≤J7 M s∧J7 M s<M.length:=by
 have:=Rl M 0 0 h
 unfold J7
 simpa using this
theorem Ju {k:Int} (h1:1≤k) (h2:k≤22):tk (F4 k)=Ch k∧pt (F4 k)=1∧1≤F4 k∧F4 k≤22:=by
 rcases (by omega:k=1∨k=2∨k=3∨k=4∨k=5∨k=6∨k=7∨k=8∨k=9∨k=10∨k=11∨k=12∨k=13∨k=14∨k=15∨k=16∨k=17∨k=18∨k=19∨k=20∨k=21∨k=22) with rfl|rfl|rfl|rfl|rfl|rfl|rfl|rfl|rfl|rfl|rfl|rfl|rfl|rfl|rfl|rfl|rfl|rfl|rfl|rfl|rfl|rfl<;>decide
theorem Md (M:List (List UInt8)) (k v f t:Int) (n:List UInt8):(Dx M k v f t n).op=F4 k:=by
 unfold Dx
 by_cases e1:k=1
 ·subst e1;rfl
 rw [if_neg e1]
 by_cases e2:k=2
 ·subst e2;rfl
 rw [if_neg e2]
 by_cases e3:k=20
 ·subst e3;rfl
 rw [if_neg e3]
 by_cases e4:k=21
 ·subst e4;rfl
 rw [if_neg e4]
 by_cases e5:k=22
 ·subst e5;rfl
 rw [if_neg e5]
theorem Jv {known pair wrong:Bool} {e k f t:Int} (h:(Fx known pair wrong e k f t).2=0):e=0∧(k=2→known=true)∧(k=21∨k=22→f≤t)∧(k=22→pair=true):=by
 unfold Fx at h
 split at h
 ·rename_i h1;exact absurd h h1
 rename_i h1
 split at h
 ·exact absurd h (by decide)
 split at h
 ·exact absurd h (by decide)
 rename_i h3
 split at h
 ·exact absurd h (by decide)
 rename_i h4
 split at h
 ·exact absurd h (by decide)
 rename_i h5
 refine⟨by simpa using h1,fun hk=>?_,fun hk=>?_,fun hk=>?_⟩
 ·cases hb:known
  ·exact absurd ⟨hk,hb⟩ h3
  ·rfl
 ·rcases Int.lt_or_le t f with q|q
  ·exact absurd ⟨hk,q⟩ h4
  ·exact q
 ·cases hb:pair
  ·exact absurd ⟨hk,hb⟩ h5
  ·rfl
theorem Xl {M:List (List UInt8)} {pair:Bool} {k v f t:Int} {n:List UInt8} {len:Nat} (hs:Hs k v f t n len=true) (h2:k=2→n∈M) (h3:k=21∨k=22→f≤t) (h4:k=22→pair=true) :
  D8 (Dx M k v f t n) pair M.length=true:=by
 unfold Hs kdB at hs
 simp only [Bool.and_eq_true,decide_eq_true_eq] at hs
 obtain⟨⟨⟨k1,k2⟩,hl⟩,hf⟩:=hs
 unfold fldB at hf
 unfold Dx
 by_cases e1:k=1
 ·subst e1
  rw [if_pos rfl] at hf ⊢
  simp only [Bool.and_eq_true,decide_eq_true_eq] at hf
  simp only [D8,Aj,if_true,Bool.and_eq_true,decide_eq_true_eq,beq_self_eq_true,and_true]
  omega
 rw [if_neg e1] at hf ⊢
 by_cases e2:k=2
 ·subst e2
  rw [if_pos rfl]
  have:=Rm (h2 rfl)
  simp only [D8,if_neg (by decide : ¬(2:Int)=1),if_true,Bool.and_eq_true,decide_eq_true_eq,beq_self_eq_true,and_true]
  omega
 rw [if_neg e2] at hf ⊢
 by_cases e3:k=20
 ·subst e3
  rw [if_pos rfl] at hf ⊢
  simp only [Bool.and_eq_true,decide_eq_true_eq] at hf
  simp only [D8,Aj,if_neg (by decide : ¬(9:Int)=1),if_neg (by decide : ¬(9:Int)=2),if_neg (by decide : ¬((9:Int)=3∨(9:Int)=4)),if_true,Bool.and_eq_true,decide_eq_true_eq,beq_self_eq_true,and_true]
  omega
 rw [if_neg e3] at hf ⊢
 by_cases e4:k=21
 ·subst e4
  rw [if_pos (.inl rfl)] at hf
  rw [if_pos rfl]
  have:=h3 (.inl rfl)
  simp only [Bool.and_eq_true] at hf
  have a1:Jj f=true:=hf.1.1.1
  have a2:Jj t=true:=hf.1.1.2
  simp [D8,a1,a2,this]
 rw [if_neg e4]
 by_cases e5:k=22
 ·subst e5
  rw [if_pos (.inr rfl)] at hf
  rw [if_pos rfl]
  have:=h3 (.inr rfl)
  have hp:=h4 rfl
  simp only [Bool.and_eq_true] at hf
  have a1:Jj f=true:=hf.1.1.1
  have a2:Jj t=true:=hf.1.1.2
  simp [D8,a1,a2,hp,this]
 rw [if_neg e5]
 rcases (by omega:k=3∨k=4∨k=5∨k=6∨k=7∨k=8∨k=9∨k=10∨k=11∨k=12∨k=13∨k=14∨k=15∨k=16∨k=17∨k=18∨k=19) with rfl|rfl|rfl|rfl|rfl|rfl|rfl|rfl|rfl|rfl|rfl|rfl|rfl|rfl|rfl|rfl|rfl<;>rfl
theorem A08 {len:Nat} {pair:Bool} {i:Nat} {x:Ins} {m d st:Int} (hi:i+1<len) (h1:1≤x.op) (h2:x.op≤22) (hp:pt x.op=1) (hn:D8 x pair st=true) (hd:tk x.op≤d) :
  ∃m',Cm len pair i x (m,d,st)=some (m',d+(1-tk x.op),st):=by
 have hb:Eg len pair i x st=false:=by
  unfold Eg
  rw [hn,decide_eq_false (by omega : ¬x.op<1),decide_eq_false (by omega : ¬26<x.op),decide_eq_false (by omega : ¬x.op=26),decide_eq_false (by omega : ¬i+1=len)]
  rfl
 have hc:Cz x.op d=false:=by
  unfold Cz
  rw [decide_eq_false (by omega : ¬d<tk x.op),hp]
  rfl
 refine⟨max m (d+(1-tk x.op)),?_⟩
 unfold Cm
 simp only [hb,hc,Bool.false_eq_true,if_false,hp]
 rw [if_neg (by omega)]
namespace Xp
theorem infs_all {q:List UInt8→Bool} {pair:Bool} {w:Int} : ∀(xs:List Xp),(infs q pair w xs).1=0→∀x∈xs,(inf q pair x).2=0
 | [],_,x,h=>by cases h
 | y::xs,h,x,hx=>by
  rw [infs] at h
  split at h
  ·rename_i h1;exact absurd h h1
  ·rename_i h1
   rcases List.mem_cons.1 hx with rfl|hx
   ·simpa using h1
   ·exact infs_all xs h x hx
theorem props_mem {l:List Xp} (h:props l=true) : ∀x∈l,prop x=true:=by
 rw [props_all] at h
 intro x hx
 cases hb:prop x
 ·rw [List.any_eq_true.2 ⟨x,hx,by simp [hb]⟩] at h;cases h
 ·rfl
theorem run_x {len:Nat} {pair:Bool} {M:List (List UInt8)} : ∀x:Xp,x.prop=true→(x.inf (Cf M) pair).2=0→∀(i:Nat) (m d:Int),i+(codeX M x).length<len→0≤d→
  ∃m',El len pair i (codeX M x) (m,d,(M.length:Int))=some (m',d+1,(M.length:Int)):=by
 refine Xp.ind fun k v f t n xs ih hp hf i m d hi hd=>?_
 rw [prop,Bool.and_eq_true] at hp
 rw [inf] at hf
 obtain⟨f1,f2,f3,f4⟩:=Jv hf
 have hall:=infs_all xs f1
 have hpm:=props_mem hp.2
 have main : ∀(l:List Xp),(∀x∈l,x∈xs)→∀(i:Nat) (m d:Int),i+(codesX M l).length<len→0≤d→∃m',El len pair i (codesX M l) (m,d,(M.length:Int))=some (m',d+l.length,(M.length:Int)):=by
  intro l
  induction l with
  | nil=>intro _ i m d _ _;exact⟨m,by simp [codesX,El]⟩
  | cons y l ihl=>
   intro hl i m d hi hd
   rw [codesX,List.length_append] at hi
   obtain⟨m1,h1⟩:=ih y (hl y (by simp)) (hpm y (hl y (by simp))) (hall y (hl y (by simp))) i m d (by omega) hd
   obtain⟨m2,h2⟩:=ihl (fun x hx=>hl x (by simp [hx])) (i+(codeX M y).length) m1 (d+1) (by omega) (by omega)
   refine⟨m2,?_⟩
   rw [codesX,Ci,h1,Option.bind_some,h2]
   simp only [List.length_cons]
   push_cast
   rw [show d+1+(l.length:Int)=d+((l.length:Int)+1) by omega]
 rw [codeX,List.length_append] at hi
 simp only [List.length_cons,List.length_nil] at hi
 obtain⟨m1,h1⟩:=main xs (fun _ h=>h) i m d (by omega) hd
 have hk:1≤k∧k≤22∧(xs.length:Int)=Ch k:=by
  have:=hp.1
  unfold Hs kdB at this
  simp only [Bool.and_eq_true,decide_eq_true_eq,beq_iff_eq] at this
  exact⟨this.1.1.1,this.1.1.2,this.1.2⟩
 obtain⟨t1,t2,t3,t4⟩:=Ju hk.1 hk.2.1
 have hop:=Md M k v f t n
 have hnum:=Xl hp.1 (M:=M) (pair:=pair) (fun e=>by have:=f2 e;simpa [Cf] using this) f3 f4
 obtain⟨m2,h2⟩:=A08 (len:=len) (pair:=pair) (i:=i+(codesX M xs).length) (x:=Dx M k v f t n) (m:=m1) (d:=d+xs.length) (st:=(M.length:Int)) (by omega) (by rw [hop];omega) (by rw [hop];omega) (by rw [hop];exact t2) hnum (by rw [hop,t1];omega)
 refine⟨m2,?_⟩
 rw [codeX,Ci,h1,Option.bind_some,El,h2]
 simp only [El]
 rw [hop,t1,←hk.2.2,show d+(xs.length:Int)+(1-(xs.length:Int))=d+1 by omega]
end Xp
theorem A09 {len:Nat} {pair:Bool} {i:Nat} {x:Ins} {m st:Int} (hi:i+1<len) (h1:23≤x.op) (h2:x.op≤25) (hn:D8 x pair st=true) :
  ∃m',Cm len pair i x (m,1,st)=some (m',0,if x.op=23 then st+1 else st):=by
 have hb:Eg len pair i x st=false:=by
  unfold Eg
  rw [hn,decide_eq_false (by omega : ¬x.op<1),decide_eq_false (by omega : ¬26<x.op),decide_eq_false (by omega : ¬x.op=26),decide_eq_false (by omega : ¬i+1=len)]
  rfl
 have ht:tk x.op=1∧pt x.op=0:=by
  rcases (by omega:x.op=23∨x.op=24∨x.op=25) with h|h|h<;>rw [h]<;>decide
 have hc:Cz x.op 1=false:=by
  unfold Cz
  rw [ht.1,ht.2]
  rfl
 refine⟨max m (1+(pt x.op-tk x.op)),?_⟩
 unfold Cm
 simp only [hb,hc,Bool.false_eq_true,if_false]
 rw [ht.1,ht.2]
 rfl
theorem A0a {len:Nat} {pair:Bool} {known:Int→Bool} : ∀(ss:List Stm) (M:List (List UInt8)),(∀s∈ss,F2 s=true)→Bh known pair M ss=0→∀(i:Nat) (m:Int),i+(Az M ss).length<len→
  ∃m',El len pair i (Az M ss) (m,0,(M.length:Int))=some (m',0,((M++Af ss).length:Int))
 | [],M,_,_,i,m,_=>⟨m,by simp [Az,El,Af]⟩
 | s::ss,M,hb,he,i,m,hi=>by
  rw [Bh] at he
  split at he
  ·rename_i h1;exact absurd he h1
  rename_i h1
  have hs0:D9 known (Cf M) pair s=0:=by simpa using h1
  have hi0:(s.ex.inf (Cf M) pair).2=0:=by
   unfold D9 at hs0
   split at hs0
   ·rename_i q;exact absurd hs0 q
   ·rename_i q;simpa using q
  have hsb:=hb s (by simp)
  unfold F2 at hsb
  simp only [Bool.and_eq_true,decide_eq_true_eq] at hsb
  obtain⟨⟨hsh,_⟩,hpr⟩:=hsb
  rw [Az,List.length_append,List.length_append] at hi
  simp only [List.length_cons,List.length_nil] at hi
  obtain⟨m1,r1⟩:=Xp.run_x (len:=len) (pair:=pair) (M:=M) s.ex hpr hi0 i m 0 (by omega) (by omega)
  unfold Tw at hsh
  have hlast:23≤(Eh M s).op∧(Eh M s).op≤25∧D8 (Eh M s) pair (M.length:Int)=true∧(if (Eh M s).op=23 then (M.length:Int)+1 else (M.length:Int))=((M++Af [s]).length:Int):=by
   unfold Eh
   by_cases k1:s.kind=1
   ·rw [if_pos k1]
    refine⟨by simp,by simp,by simp [D8],?_⟩
    simp [Af,k1]
   rw [if_neg k1] at hsh ⊢
   have hn:Af [s]=[]:=by simp [Af,k1]
   rw [hn,List.append_nil]
   by_cases k2:s.kind=2
   ·rw [if_pos k2]
    exact⟨by simp,by simp,rfl,rfl⟩
   rw [if_neg k2] at hsh ⊢
   split at hsh
   ·simp only [Bool.and_eq_true] at hsh
    have ha:Jj s.acc=true:=hsh.2
    refine⟨by simp,by simp,?_,rfl⟩
    simp [D8,ha]
   ·cases hsh
  obtain⟨l1,l2,l3,l4⟩:=hlast
  obtain⟨m2,r2⟩:=A09 (len:=len) (pair:=pair) (i:=i+(s.ex.codeX M).length) (x:=Eh M s) (m:=m1) (st:=(M.length:Int)) (by omega) l1 l2 l3
  obtain⟨m3,r3⟩:=A0a (len:=len) (pair:=pair) (known:=known) ss (M++Af [s]) (fun x hx=>hb x (by simp [hx])) he (i+(s.ex.codeX M++[Eh M s]).length) m2 (by rw [List.length_append];simp only [List.length_cons,List.length_nil];omega)
  refine⟨m3,?_⟩
  rw [Az,Ci,Ci,r1,Option.bind_some]
  simp only [El,Int.zero_add]
  rw [r2]
  simp only [Option.bind_some]
  rw [l4,r3]
  congr 3
  unfold Af
  rw [List.append_assoc,←List.map_append,←List.filter_append]
  rfl
theorem Rn {known:Int→Bool} {r:Rul} (hb:D7 r=true) (he:Fy known r=0):(Bo (B5 r)).2=true:=by
 unfold D7 at hb
 simp only [Bool.and_eq_true,decide_eq_true_eq,List.all_eq_true] at hb
 obtain⟨⟨_,hto⟩,hst⟩:=hb
 have h0:Bh known r.pair [] r.stmts=0:=by
  unfold Fy at he
  split at he
  ·rename_i q;exact absurd he q
  ·rename_i q;simpa using q
 rw [Xk]
 unfold B5
 simp only []
 refine⟨by simp,?_⟩
 obtain⟨m1,r1⟩:=A0a (len:=(Az [] r.stmts++[(⟨26,r.to,0⟩:Ins)]).length) (pair:=r.pair) (known:=known) r.stmts [] hst h0 0 0 (by simp)
 have ha:Jj r.to=true:=hto
 rw [Ci]
 have e0:(([]:List (List UInt8)).length:Int)=0:=rfl
 rw [e0] at r1
 rw [r1,Option.bind_some,El]
 have hstep:Cm (Az [] r.stmts++[(⟨26,r.to,0⟩:Ins)]).length r.pair (0+(Az [] r.stmts).length) ⟨26,r.to,0⟩ (m1,0,((([]:List (List UInt8))++Af r.stmts).length:Int))=some (max m1 0,0,((([]:List (List UInt8))++Af r.stmts).length:Int)):=by
  have hbm:Eg (Az [] r.stmts++[(⟨26,r.to,0⟩:Ins)]).length r.pair (0+(Az [] r.stmts).length) ⟨26,r.to,0⟩ ((([]:List (List UInt8))++Af r.stmts).length:Int)=false:=by
   unfold Eg
   have hn:D8 ⟨26,r.to,0⟩ r.pair ((([]:List (List UInt8))++Af r.stmts).length:Int)=true:=by simp [D8,ha]
   rw [hn]
   simp
  unfold Cm
  simp only [hbm,Bool.false_eq_true,if_false]
  rfl
 rw [hstep]
 exact⟨_,rfl⟩
theorem A0b (p:List Rul) (hp:p.length≤1000) (hs : ∀r∈p,r.stmts.length≤1000) (hc : ∀r∈p,∀s∈r.stmts,s.ex.cnt≤100000):A7 Tryz.prog 15 [Rul.l p] (Rul.l p):=by
 (refine A7.of_code mix Tryz.call15 k_15 (by simp) (fun hB=>?_);(try simp at hB);(try simp -implicitDefEqProofs))
 refine Bb [(.slot 3,133,4)] (X:=Nat) (fun k=>k≤p.length) (fun k=>[(0,Rul.l p),(3,.own 0 133 4 ((p.take k).map Rul.c)),(4,vI k)])
  (fun k=>⟨[],[k]⟩) (fun k=>p.length-k) 0 (by omega) (by simp) ?_
 rintro k hk hbd
 clear hbd
 rcases Nat.lt_or_ge k p.length with h|h
 ·have hx:p[k]?=some p[k]:=by simp [h]
  have hmem:p[k]∈p:=List.getElem_mem h
  have hsk:=hs _ hmem
  have hck:=hc _ hmem
  have htk:=Ag hx
  have hmin:min k p.length=k:=by omega
  have e3:IntKind.i64.wrap ((k:Int)+1)=(k:Int)+1:=wrap64 (by omega) (by omega)
  obtain⟨nm,pr,ss,to,hr⟩ : ∃nm pr ss to,p[k]=⟨nm,pr,ss,to⟩:=⟨_,_,_,_,rfl⟩
  have hrk:(p.map Rul.c)[k]?=some [.str nm,.bool pr,.sl (ss.map Stm.c),.int .i64 to]:=by simp [h,hr,Rul.c]
  have hcc:p[k].c=[.str nm,.bool pr,.sl (ss.map Stm.c),.int .i64 to]:=by rw [hr];rfl
  rw [hr] at hsk hck htk
  simp only [] at hsk hck
  have hap:(p.map Rul.c).take (k+1)=(p.map Rul.c).take k++[[.str nm,.bool pr,.sl (ss.map Stm.c),.int .i64 to]]:=by rw [Ag hrk]
  ((try simp -implicitDefEqProofs [h,hrk,hcc,e3]);repeat' first|((with_reducible first|apply A5|apply A6|apply A3)<;>(intro hc;have hc':=hc;(try simp at hc');simp -implicitDefEqProofs [hc,hc',h,hrk,hcc,e3])))
  refine Bb [(.cell 0 2,139,9)] (X:=Nat) (fun j=>j≤ss.length) (fun j=>[(0,Rul.l p),(3,.own 0 133 4 ((p.take k).map Rul.c)),(4,vI k),(5,.ptr 0 0),(6,vI j)])
   (fun j=>⟨[.cells [vS nm,vB pr,.own 1 139 9 ((ss.take j).map Stm.c),vI to]],[k,j]⟩) (fun j=>ss.length-j) 0 (by omega) (by simp) ?_
  rintro j hj hbd
  clear hbd
  rcases Nat.lt_or_ge j ss.length with g|g
  ·have gx:ss[j]?=some ss[j]:=by simp [g]
   have hcj:=hck _ (List.getElem_mem g)
   have gtk:=Ag gx
   have gmin:min j ss.length=j:=by omega
   have g3:IntKind.i64.wrap ((j:Int)+1)=(j:Int)+1:=wrap64 (by omega) (by omega)
   obtain⟨sk,sa,sn,sx,gr⟩ : ∃sk sa sn sx,ss[j]=⟨sk,sa,sn,sx⟩:=⟨_,_,_,_,rfl⟩
   have gsj:(ss.map Stm.c)[j]?=some (.int .i64 sk::.int .i64 sa::.str sn::sx.c):=by simp [g,gr,Stm.c]
   have gcc:ss[j].c=.int .i64 sk::.int .i64 sa::.str sn::sx.c:=by rw [gr];rfl
   rw [gr] at hcj gtk
   simp only [] at hcj
   have how:=A1l sx hcj
   have hlc:=Dv sx
   have htc:=Cw sx
   have gap:(ss.map Stm.c).take (j+1)=(ss.map Stm.c).take j++[.int .i64 sk::.int .i64 sa::.str sn::sx.c]:=by rw [Ag gsj]
   ((try simp at how);(try simp -implicitDefEqProofs [h,hrk,hcc,g,gsj,gcc,g3,hlc,htc,gmin,hmin,maxLen]);repeat' first|((with_reducible first|apply A5|apply A6|apply A3)<;>(intro hc;have hc':=hc;(try simp at hc');simp -implicitDefEqProofs [hc,hc',h,hrk,hcc,g,gsj,gcc,g3,hlc,htc,gmin,hmin,maxLen]))|(with_reducible apply A0<;>first|(simp only [eras,era,A1];first|with_reducible assumption)|(simp -implicitDefEqProofs [h,hrk,hcc,g,gsj,gcc,g3,hlc,htc,gmin,hmin,maxLen])))
   exact⟨⟨by omega,by omega⟩,j+1,by omega,by omega,⟨by rw [gap];exact .inl rfl,rfl⟩,by push_cast;rfl⟩
  ·have:j=ss.length:=by omega
   subst this
   have gt:(ss.map Stm.c).take ss.length=ss.map Stm.c:=List.take_of_length_le (by simp)
   ((try simp -implicitDefEqProofs [h,hrk,hcc,g,e3,hmin,maxLen,gt]);repeat' first|((with_reducible first|apply A5|apply A6|apply A3)<;>(intro hc;have hc':=hc;(try simp at hc');simp -implicitDefEqProofs [hc,hc',h,hrk,hcc,g,e3,hmin,maxLen,gt])))
   exact⟨⟨by omega,by omega⟩,k+1,by omega,by omega,by omega,by rw [hap];exact .inl (.inl rfl),by push_cast;rfl⟩
 ·have:k=p.length:=by omega
  subst this
  have ht:(p.map Rul.c).take p.length=p.map Rul.c:=List.take_of_length_le (by simp)
  ((try simp -implicitDefEqProofs [ht]);repeat' first|((with_reducible first|apply A5|apply A6|apply A3)<;>(intro hc;have hc':=hc;(try simp at hc');simp -implicitDefEqProofs [hc,hc',ht])))
end Go.Proofs.YtmlpmdccfmmpoaaGreatDoor
