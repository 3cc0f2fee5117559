/- Chapter 34: what Compile returns, and plain laws of it: the codes are valid, and not without one of their instructions. -/
import Derived.Test.YtmlpmdccfmmpoaaGreatDoorMea
import Derived.Test.YtmlpmdccfmmpoaaGreatDoorTyp
set_option linter.unusedSimpArgs false
set_option linter.unusedVariables false
set_option maxHeartbeats 1000000
set_option maxRecDepth 4000
namespace Go.Proofs.YtmlpmdccfmmpoaaGreatDoor
open E

def Cj (k:Int):Int:=if k=1 then 1 else if k=2 then 2 else if k=3 then 5 else if k=4 then 6 else if k=5 then 7 else if k=6 then 8 else if k=20 then 9 else if k=21 then 3 else if k=22 then 4 else k+3
def G4 (s:List UInt8):Nat→List (List UInt8)→Int→Int
 | _,[],c=>c
 | i,y::l,c=>G4 s (i+1) l (if y=s then (i:Int) else c)
def P8 (M:List (List UInt8)) (s:List UInt8):Int:=G4 s 0 M 0
def Dc (M:List (List UInt8)) (k v f t:Int) (n:List UInt8):Ins:=
 if k=1 then ⟨1,v,0⟩ else if k=2 then ⟨2,P8 M n,0⟩ else if k=20 then ⟨9,v,0⟩ else if k=21 then ⟨3,f,t⟩ else if k=22 then ⟨4,f,t⟩ else ⟨Cj k,0,0⟩
namespace Xp
mutual
def codeX (M:List (List UInt8)):Xp→List Ins
 | .mk k v f t n xs=>codesX M xs++[Dc M k v f t n]
def codesX (M:List (List UInt8)):List Xp→List Ins
 | []=>[]
 | x::xs=>codeX M x++codesX M xs
end
theorem codesX_flat (M:List (List UInt8)) (l:List Xp):codesX M l=l.flatMap (codeX M):=by
 induction l with
 | nil=>rfl
 | cons x l ih=>rw [codesX,ih];rfl
mutual
theorem codeX_len (M:List (List UInt8)) : ∀x:Xp,(codeX M x).length=cnt x
 | .mk k v f t n xs=>by rw [codeX,cnt,List.length_append,codesX_len M xs];simp;omega
theorem codesX_len (M:List (List UInt8)) : ∀xs:List Xp,(codesX M xs).length=cnts xs
 | []=>rfl
 | x::xs=>by rw [codesX,cnts,List.length_append,codeX_len M x,codesX_len M xs]
end
end Xp
def Sb (M:List (List UInt8)) (s:Stm):Ins:=if s.kind=1 then ⟨23,M.length,0⟩ else if s.kind=2 then ⟨24,0,0⟩ else ⟨25,s.acc,0⟩
def C6:List (List UInt8)→List Stm→List Ins
 | _,[]=>[]
 | M,s::ss=>(s.ex.codeX M++[Sb M s])++C6 (M++Az [s]) ss
def P9 (r:Rul):Code:=⟨r.name,r.pair,C6 [] r.stmts++[⟨26,r.to,0⟩]⟩
theorem Pa {M:List (List UInt8)} {ss:List Stm} {k:Nat} {s:Stm} (h:ss[k]?=some s):C6 M (ss.take (k+1))=C6 M (ss.take k)++(s.ex.codeX (M++Az (ss.take k))++[Sb (M++Az (ss.take k)) s]):=by
 induction ss generalizing M k with
 | nil=>simp at h
 | cons y ss ih=>
  cases k with
  | zero=>
   simp at h
   subst h
   simp [C6,Az]
  | succ k=>
   have h':ss[k]?=some s:=by simpa using h
   rw [List.take_succ_cons,C6,List.take_succ_cons,C6,ih h']
   have e:M++Az [y]++Az (ss.take k)=M++Az (y::ss.take k):=by
    rw [List.append_assoc];congr 1
    unfold Az
    rw [←List.map_append,←List.filter_append];rfl
   rw [e]
   simp only [List.append_assoc]
def Kt (ss:List Stm):Nat:=(ss.map fun s=>s.ex.cnt).sum
theorem Kj : ∀(ss:List Stm) (M:List (List UInt8)),(C6 M ss).length=ss.length+Kt ss
 | [],M=>rfl
 | s::ss,M=>by
  rw [C6,List.length_append,List.length_append,Xp.codeX_len,Kj ss]
  simp [Kt];omega
def Ez (len:Nat) (pair:Bool):Nat→List Ins→Int×Int×Int→Option (Int×Int×Int)
 | _,[],s=>some s
 | i,x::l,s=>match Cz len pair i x s with
  | some s'=>Ez len pair (i+1) l s'
  | none=>none
theorem Cp {len:Nat} {pair:Bool} : ∀(a b:List Ins) (i:Nat) (s:Int×Int×Int),Ez len pair i (a++b) s=(Ez len pair i a s).bind fun s'=>Ez len pair (i+a.length) b s'
 | [],b,i,s=>by simp [Ez]
 | x::a,b,i,s=>by
  rw [List.cons_append,Ez,Ez]
  cases Cz len pair i x s with
  | none=>rfl
  | some s'=>
   simp only []
   rw [Cp a b (i+1) s',List.length_cons,show i+1+a.length=i+(a.length+1) by omega]
theorem Pb {s:List UInt8} : ∀(l:List (List UInt8)) (i:Nat) (c:Int),s∈l→(i:Int)≤G4 s i l c∧G4 s i l c<i+l.length
 | [],i,c,h=>by cases h
 | y::l,i,c,h=>by
  rw [G4]
  by_cases hl:s∈l
  ·have:=Pb l (i+1) (if y=s then (i:Int) else c) hl
   push_cast at this ⊢
   simp only [List.length_cons]
   push_cast
   omega
  ·have hy:y=s:=by
    rcases List.mem_cons.1 h with e|e
    ·exact e.symm
    ·exact absurd e hl
   have hno : ∀(l:List (List UInt8)) (j:Nat) (c:Int),s∉l→G4 s j l c=c:=by
    intro l
    induction l with
    | nil=>intros;rfl
    | cons z l ih=>
     intro j c hz
     rw [G4,if_neg (fun e=>hz (by rw [e];simp)),ih _ _ (fun e=>hz (by simp [e]))]
   rw [if_pos hy,hno l _ _ hl]
   simp only [List.length_cons]
   push_cast
   omega
theorem Xa {M:List (List UInt8)} {s:List UInt8} (h:s∈M):0≤P8 M s∧P8 M s<M.length:=by
 have:=Pb M 0 0 h
 unfold P8
 simpa using this
theorem I2 {k:Int} (h1:1≤k) (h2:k≤22):tk (Cj k)=B5 k∧pt (Cj k)=1∧1≤Cj k∧Cj k≤22:=by
 rcases (by omega:k=1∨k=2∨k=3∨k=4∨k=5∨k=6∨k=7∨k=8∨k=9∨k=10∨k=11∨k=12∨k=13∨k=14∨k=15∨k=16∨k=17∨k=18∨k=19∨k=20∨k=21∨k=22) with rfl|rfl|rfl|rfl|rfl|rfl|rfl|rfl|rfl|rfl|rfl|rfl|rfl|rfl|rfl|rfl|rfl|rfl|rfl|rfl|rfl|rfl<;>decide
theorem Kk (M:List (List UInt8)) (k v f t:Int) (n:List UInt8):(Dc M k v f t n).op=Cj k:=by
 unfold Dc
 by_cases e1:k=1
 ·subst e1;rfl
 rw [if_neg e1]
 by_cases e2:k=2
 ·subst e2;rfl
 rw [if_neg e2]
 by_cases e3:k=20
 ·subst e3;rfl
 rw [if_neg e3]
 by_cases e4:k=21
 ·subst e4;rfl
 rw [if_neg e4]
 by_cases e5:k=22
 ·subst e5;rfl
 rw [if_neg e5]
theorem I3 {known pair wrong:Bool} {e k f t:Int} (h:(Du known pair wrong e k f t).2=0):e=0∧(k=2→known=true)∧(k=21∨k=22→f≤t)∧(k=22→pair=true):=by
 unfold Du at h
 split at h
 ·rename_i h1;exact absurd h h1
 rename_i h1
 split at h
 ·exact absurd h (by decide)
 split at h
 ·exact absurd h (by decide)
 rename_i h3
 split at h
 ·exact absurd h (by decide)
 rename_i h4
 split at h
 ·exact absurd h (by decide)
 rename_i h5
 refine⟨by simpa using h1,fun hk=>?_,fun hk=>?_,fun hk=>?_⟩
 ·cases hb:known
  ·exact absurd ⟨hk,hb⟩ h3
  ·rfl
 ·rcases Int.lt_or_le t f with q|q
  ·exact absurd ⟨hk,q⟩ h4
  ·exact q
 ·cases hb:pair
  ·exact absurd ⟨hk,hb⟩ h5
  ·rfl
theorem Um {M:List (List UInt8)} {pair:Bool} {k v f t:Int} {n:List UInt8} {len:Nat} (hs:Gk k v f t n len=true) (h2:k=2→n∈M) (h3:k=21∨k=22→f≤t) (h4:k=22→pair=true) :
  Di (Dc M k v f t n) pair M.length=true:=by
 unfold Gk kdB at hs
 simp only [Bool.and_eq_true,decide_eq_true_eq] at hs
 obtain⟨⟨⟨k1,k2⟩,hl⟩,hf⟩:=hs
 unfold fldB at hf
 unfold Dc
 by_cases e1:k=1
 ·subst e1
  rw [if_pos rfl] at hf ⊢
  simp only [Bool.and_eq_true,decide_eq_true_eq] at hf
  simp only [Di,Ag,if_true,Bool.and_eq_true,decide_eq_true_eq,beq_self_eq_true,and_true]
  omega
 rw [if_neg e1] at hf ⊢
 by_cases e2:k=2
 ·subst e2
  rw [if_pos rfl]
  have:=Xa (h2 rfl)
  simp only [Di,if_neg (by decide : ¬(2:Int)=1),if_true,Bool.and_eq_true,decide_eq_true_eq,beq_self_eq_true,and_true]
  omega
 rw [if_neg e2] at hf ⊢
 by_cases e3:k=20
 ·subst e3
  rw [if_pos rfl] at hf ⊢
  simp only [Bool.and_eq_true,decide_eq_true_eq] at hf
  simp only [Di,Ag,if_neg (by decide : ¬(9:Int)=1),if_neg (by decide : ¬(9:Int)=2),if_neg (by decide : ¬((9:Int)=3∨(9:Int)=4)),if_true,Bool.and_eq_true,decide_eq_true_eq,beq_self_eq_true,and_true]
  omega
 rw [if_neg e3] at hf ⊢
 by_cases e4:k=21
 ·subst e4
  rw [if_pos (.inl rfl)] at hf
  rw [if_pos rfl]
  have:=h3 (.inl rfl)
  simp only [Bool.and_eq_true] at hf
  have a1:K1 f=true:=hf.1.1.1
  have a2:K1 t=true:=hf.1.1.2
  simp [Di,a1,a2,this]
 rw [if_neg e4]
 by_cases e5:k=22
 ·subst e5
  rw [if_pos (.inr rfl)] at hf
  rw [if_pos rfl]
  have:=h3 (.inr rfl)
  have hp:=h4 rfl
  simp only [Bool.and_eq_true] at hf
  have a1:K1 f=true:=hf.1.1.1
  have a2:K1 t=true:=hf.1.1.2
  simp [Di,a1,a2,hp,this]
 rw [if_neg e5]
 rcases (by omega:k=3∨k=4∨k=5∨k=6∨k=7∨k=8∨k=9∨k=10∨k=11∨k=12∨k=13∨k=14∨k=15∨k=16∨k=17∨k=18∨k=19) with rfl|rfl|rfl|rfl|rfl|rfl|rfl|rfl|rfl|rfl|rfl|rfl|rfl|rfl|rfl|rfl|rfl<;>rfl
theorem Xb {len:Nat} {pair:Bool} {i:Nat} {x:Ins} {m d st:Int} (hi:i+1<len) (h1:1≤x.op) (h2:x.op≤22) (hp:pt x.op=1) (hn:Di x pair st=true) (hd:tk x.op≤d) :
  ∃m',Cz len pair i x (m,d,st)=some (m',d+(1-tk x.op),st):=by
 have hb:Eu len pair i x st=false:=by
  unfold Eu
  rw [hn,decide_eq_false (by omega : ¬x.op<1),decide_eq_false (by omega : ¬26<x.op),decide_eq_false (by omega : ¬x.op=26),decide_eq_false (by omega : ¬i+1=len)]
  rfl
 have hc:Dq x.op d=false:=by
  unfold Dq
  rw [decide_eq_false (by omega : ¬d<tk x.op),hp]
  rfl
 refine⟨max m (d+(1-tk x.op)),?_⟩
 unfold Cz
 simp only [hb,hc,Bool.false_eq_true,if_false,hp]
 rw [if_neg (by omega)]
namespace Xp
theorem infs_all {q:List UInt8→Bool} {pair:Bool} {w:Int} : ∀(xs:List Xp),(infs q pair w xs).1=0→∀x∈xs,(inf q pair x).2=0
 | [],_,x,h=>by cases h
 | y::xs,h,x,hx=>by
  rw [infs] at h
  split at h
  ·rename_i h1;exact absurd h h1
  ·rename_i h1
   rcases List.mem_cons.1 hx with rfl|hx
   ·simpa using h1
   ·exact infs_all xs h x hx
theorem props_mem {l:List Xp} (h:props l=true) : ∀x∈l,prop x=true:=by
 rw [props_all] at h
 intro x hx
 cases hb:prop x
 ·rw [List.any_eq_true.2 ⟨x,hx,by simp [hb]⟩] at h;cases h
 ·rfl
theorem run_x {len:Nat} {pair:Bool} {M:List (List UInt8)} : ∀x:Xp,x.prop=true→(x.inf (F7 M) pair).2=0→∀(i:Nat) (m d:Int),i+(codeX M x).length<len→0≤d→
  ∃m',Ez len pair i (codeX M x) (m,d,(M.length:Int))=some (m',d+1,(M.length:Int)):=by
 refine Xp.ind fun k v f t n xs ih hp hf i m d hi hd=>?_
 rw [prop,Bool.and_eq_true] at hp
 rw [inf] at hf
 obtain⟨f1,f2,f3,f4⟩:=I3 hf
 have hall:=infs_all xs f1
 have hpm:=props_mem hp.2
 have main : ∀(l:List Xp),(∀x∈l,x∈xs)→∀(i:Nat) (m d:Int),i+(codesX M l).length<len→0≤d→∃m',Ez len pair i (codesX M l) (m,d,(M.length:Int))=some (m',d+l.length,(M.length:Int)):=by
  intro l
  induction l with
  | nil=>intro _ i m d _ _;exact⟨m,by simp [codesX,Ez]⟩
  | cons y l ihl=>
   intro hl i m d hi hd
   rw [codesX,List.length_append] at hi
   obtain⟨m1,h1⟩:=ih y (hl y (by simp)) (hpm y (hl y (by simp))) (hall y (hl y (by simp))) i m d (by omega) hd
   obtain⟨m2,h2⟩:=ihl (fun x hx=>hl x (by simp [hx])) (i+(codeX M y).length) m1 (d+1) (by omega) (by omega)
   refine⟨m2,?_⟩
   rw [codesX,Cp,h1,Option.bind_some,h2]
   simp only [List.length_cons]
   push_cast
   rw [show d+1+(l.length:Int)=d+((l.length:Int)+1) by omega]
 rw [codeX,List.length_append] at hi
 simp only [List.length_cons,List.length_nil] at hi
 obtain⟨m1,h1⟩:=main xs (fun _ h=>h) i m d (by omega) hd
 have hk:1≤k∧k≤22∧(xs.length:Int)=B5 k:=by
  have:=hp.1
  unfold Gk kdB at this
  simp only [Bool.and_eq_true,decide_eq_true_eq,beq_iff_eq] at this
  exact⟨this.1.1.1,this.1.1.2,this.1.2⟩
 obtain⟨t1,t2,t3,t4⟩:=I2 hk.1 hk.2.1
 have hop:=Kk M k v f t n
 have hnum:=Um hp.1 (M:=M) (pair:=pair) (fun e=>by have:=f2 e;simpa [F7] using this) f3 f4
 obtain⟨m2,h2⟩:=Xb (len:=len) (pair:=pair) (i:=i+(codesX M xs).length) (x:=Dc M k v f t n) (m:=m1) (d:=d+xs.length) (st:=(M.length:Int)) (by omega) (by rw [hop];omega) (by rw [hop];omega) (by rw [hop];exact t2) hnum (by rw [hop,t1];omega)
 refine⟨m2,?_⟩
 rw [codeX,Cp,h1,Option.bind_some,Ez,h2]
 simp only [Ez]
 rw [hop,t1,←hk.2.2,show d+(xs.length:Int)+(1-(xs.length:Int))=d+1 by omega]
end Xp
end Go.Proofs.YtmlpmdccfmmpoaaGreatDoor
