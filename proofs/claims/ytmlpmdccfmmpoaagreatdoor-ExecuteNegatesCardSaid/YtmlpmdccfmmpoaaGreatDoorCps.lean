/- Chapter 34: what Compile returns, and plain laws of it: the codes are valid, and not without one of their instructions. -/
import Derived.Test.YtmlpmdccfmmpoaaGreatDoorExp
import Derived.Test.YtmlpmdccfmmpoaaGreatDoorMaps
import Derived.Test.YtmlpmdccfmmpoaaGreatDoorCht
import Derived.Test.YtmlpmdccfmmpoaaGreatDoorIn6
set_option linter.unusedSimpArgs false
set_option linter.unusedVariables false
set_option maxHeartbeats 4000000
set_option maxRecDepth 8000
section
section
section
set_option linter.unusedSimpArgs false
set_option linter.unusedVariables false
set_option maxHeartbeats 4000000
set_option maxRecDepth 8000
namespace Go.Proofs.YtmlpmdccfmmpoaaGreatDoor
open E

theorem Xu (b:Nat) (B:List Bx) (hle : ∀n m,B.length≤n→A6 n m B B):FnS Tryz.prog 63 [.ptr b 0,.t .nili] ⟨B,[]⟩ (.tup []) ⟨B,[]⟩:=by
 have h0:=hle B.length 0 (Nat.le_refl _)
 (refine FnS.of_code mix Tryz.call63 k_63 (by simp) (fun hB=>?_);(try simp at hB);(try simp -implicitDefEqProofs))
 (try simp -implicitDefEqProofs [h0])
theorem Oa (b:Nat) (B:List Bx) (e0 e:Int) (hb:B[b]?=some (.cells [vI e0])) (hle : ∀n m,B.length≤n→A6 n m (B.set b (.cells [vI e])) (B.set b (.cells [vI e]))):FnS Tryz.prog 63 [.ptr b 0,F9 e] ⟨B,[]⟩ (.tup []) ⟨B.set b (.cells [vI e]),[]⟩:=by
 have h0:=hle B.length 0 (Nat.le_refl _)
 unfold F9
 (refine FnS.of_code mix Tryz.call63 k_63 (by simp) (fun hB=>?_);(try simp at hB);(try simp -implicitDefEqProofs))
 (try simp -implicitDefEqProofs [h0,hb])
end Go.Proofs.YtmlpmdccfmmpoaaGreatDoor
end

/- Chapter 33: check.Type (begun). -/
section
set_option linter.unusedSimpArgs false
set_option linter.unusedVariables false
set_option maxHeartbeats 4000000
set_option maxRecDepth 8000
namespace Go.Proofs.YtmlpmdccfmmpoaaGreatDoor
open E

end Go.Proofs.YtmlpmdccfmmpoaaGreatDoor
end

/- Chapter 33: both Types. -/
section
set_option linter.unusedSimpArgs false
set_option linter.unusedVariables false
set_option maxHeartbeats 4000000
set_option maxRecDepth 8000
namespace Go.Proofs.YtmlpmdccfmmpoaaGreatDoor
open E

end Go.Proofs.YtmlpmdccfmmpoaaGreatDoor
end
end

/- Chapter 33: what Check says: the errors of statements, rules and programs. -/
section
set_option linter.unusedSimpArgs false
set_option linter.unusedVariables false
set_option maxHeartbeats 1000000
set_option maxRecDepth 8000
namespace Go.Proofs.YtmlpmdccfmmpoaaGreatDoor
open E

def Aj (ss:List Stm):List (List UInt8):=(ss.filter fun s=>s.kind==1).map (·.name)
def Fh (known:Int→Bool) (q:List UInt8→Bool) (pair:Bool) (s:Stm):Int:=
 if (s.ex.inf q pair).2≠0 then (s.ex.inf q pair).2 else if ((s.ex.inf q pair).1==2) != (s.kind==2) then 16 else
 if s.kind=1∧q s.name=true then 9 else if s.kind=3∧known s.acc=false then 8 else 0
def Cs (M:List (List UInt8)):List UInt8→Bool:=fun s=>decide (s∈M)
def Bv (known:Int→Bool) (pair:Bool):List (List UInt8)→List Stm→Int
 | _,[]=>0
 | M,s::ss=>if Fh known (Cs M) pair s≠0 then Fh known (Cs M) pair s else Bv known pair (M++Aj [s]) ss
def Jy (known:Int→Bool) (r:Rul):Int:=if Bv known r.pair [] r.stmts≠0 then Bv known r.pair [] r.stmts else if known r.to=true then 0 else 8
def Hr (known:Int→Bool):List (List UInt8)→Nat→List Rul→Int×Int
 | _,_,[]=>(0,0)
 | M,i,r::rs=>if r.name∈M then ((i:Int),9) else if Jy known r≠0 then ((i:Int),Jy known r) else Hr known (M++[r.name]) (i+1) rs
def Bj (l:List Account) (code:Int):Bool:=(Cht.findS l code).isSome
def Uh (p:List Rul) (l:List Account):Int×Int:=if M7 p=true∧Cht.validR l true=true then Hr (Bj l) [] 0 p else (0,1)

theorem Pe {ss:List Stm} {k:Nat} {s:Stm} (h:ss[k]?=some s):Aj (ss.take (k+1))=Aj (ss.take k)++Aj [s]:=by
 rw [Ag h];simp [Aj]
theorem A0g {known:Int→Bool} {pair:Bool} {M:List (List UInt8)} {ss:List Stm} {k:Nat} {s:Stm} (h:ss[k]?=some s) :
  Bv known pair M (ss.drop k)=if Fh known (Cs M) pair s≠0 then Fh known (Cs M) pair s else Bv known pair (M++Aj [s]) (ss.drop (k+1)):=by
 obtain⟨hlt,rfl⟩:=List.getElem?_eq_some_iff.1 h
 rw [List.drop_eq_getElem_cons hlt,Bv]
theorem A0h {known:Int→Bool} {M:List (List UInt8)} {i:Nat} {p:List Rul} {k:Nat} {r:Rul} (h:p[k]?=some r) :
  Hr known M i (p.drop k)=if r.name∈M then ((i:Int),9) else if Jy known r≠0 then ((i:Int),Jy known r) else Hr known (M++[r.name]) (i+1) (p.drop (k+1)):=by
 obtain⟨hlt,rfl⟩:=List.getElem?_eq_some_iff.1 h
 rw [List.drop_eq_getElem_cons hlt,Hr]
end Go.Proofs.YtmlpmdccfmmpoaaGreatDoor
end
end
namespace Go.Proofs.YtmlpmdccfmmpoaaGreatDoor
open E
def Eb (k:Int):Int:=if k=1 then 1 else if k=2 then 2 else if k=3 then 5 else if k=4 then 6 else if k=5 then 7 else if k=6 then 8 else if k=20 then 9 else if k=21 then 3 else if k=22 then 4 else k+3
def Mp (s:List UInt8):Nat→List (List UInt8)→Int→Int
 | _,[],c=>c
 | i,y::l,c=>Mp s (i+1) l (if y=s then (i:Int) else c)
def Nd (M:List (List UInt8)) (s:List UInt8):Int:=Mp s 0 M 0
def Ep (M:List (List UInt8)) (k v f t:Int) (n:List UInt8):Ins:=
 if k=1 then ⟨1,v,0⟩ else if k=2 then ⟨2,Nd M n,0⟩ else if k=20 then ⟨9,v,0⟩ else if k=21 then ⟨3,f,t⟩ else if k=22 then ⟨4,f,t⟩ else ⟨Eb k,0,0⟩
namespace Xp
mutual
def codeX (M:List (List UInt8)):Xp→List Ins
 | .mk k v f t n xs=>codesX M xs++[Ep M k v f t n]
def codesX (M:List (List UInt8)):List Xp→List Ins
 | []=>[]
 | x::xs=>codeX M x++codesX M xs
end
theorem codesX_flat (M:List (List UInt8)) (l:List Xp):codesX M l=l.flatMap (codeX M):=by
 induction l with
 | nil=>rfl
 | cons x l ih=>rw [codesX,ih];rfl
mutual
theorem codeX_len (M:List (List UInt8)) : ∀x:Xp,(codeX M x).length=cnt x
 | .mk k v f t n xs=>by rw [codeX,cnt,List.length_append,codesX_len M xs];simp;omega
theorem codesX_len (M:List (List UInt8)) : ∀xs:List Xp,(codesX M xs).length=cnts xs
 | []=>rfl
 | x::xs=>by rw [codesX,cnts,List.length_append,codeX_len M x,codesX_len M xs]
end
end Xp
def Fa (M:List (List UInt8)) (s:Stm):Ins:=if s.kind=1 then ⟨23,M.length,0⟩ else if s.kind=2 then ⟨24,0,0⟩ else ⟨25,s.acc,0⟩
def Cf:List (List UInt8)→List Stm→List Ins
 | _,[]=>[]
 | M,s::ss=>(s.ex.codeX M++[Fa M s])++Cf (M++Aj [s]) ss
def Ak (r:Rul):Code:=⟨r.name,r.pair,Cf [] r.stmts++[⟨26,r.to,0⟩]⟩
def Xv (ss:List Stm):Nat:=(ss.map fun s=>s.ex.cnt).sum
theorem Mq : ∀(ss:List Stm) (M:List (List UInt8)),(Cf M ss).length=ss.length+Xv ss
 | [],M=>rfl
 | s::ss,M=>by
  rw [Cf,List.length_append,List.length_append,Xp.codeX_len,Mq ss]
  simp [Xv];omega
theorem Xw (r:Rul):(Ak r).ins.length=1+r.stmts.length+Xv r.stmts:=by
 simp only [Ak,List.length_append,Mq,List.length_cons,List.length_nil];omega

def Ey (len:Nat) (pair:Bool):Nat→List Ins→Int×Int×Int→Option (Int×Int×Int)
 | _,[],s=>some s
 | i,x::l,s=>match Cz len pair i x s with
  | some s'=>Ey len pair (i+1) l s'
  | none=>none
theorem Cg {len:Nat} {pair:Bool} : ∀(a b:List Ins) (i:Nat) (s:Int×Int×Int),Ey len pair i (a++b) s=(Ey len pair i a s).bind fun s'=>Ey len pair (i+a.length) b s'
 | [],b,i,s=>by simp [Ey]
 | x::a,b,i,s=>by
  rw [List.cons_append,Ey,Ey]
  cases Cz len pair i x s with
  | none=>rfl
  | some s'=>
   simp only []
   rw [Cg a b (i+1) s',List.length_cons,show i+1+a.length=i+(a.length+1) by omega]
theorem Ob (c:Code) : ∀k,k≤c.ins.length→Cl c k=Ey c.ins.length c.pair 0 (c.ins.take k) (0,0,0)
 | 0,_=>by simp [Cl,Ey]
 | k+1,h=>by
  have hk:k<c.ins.length:=h
  have hx:c.ins[k]?=some c.ins[k]:=by simp [hk]
  rw [Cl,Ob c k (by omega),Ag hx,Cg,hx]
  have hl:(c.ins.take k).length=k:=by simp;omega
  cases hr:Ey c.ins.length c.pair 0 (c.ins.take k) (0,0,0) with
  | none=>rfl
  | some s=>
   simp only [Option.bind_some,Ey,hl,Nat.zero_add]
   cases Cz c.ins.length c.pair k c.ins[k] s<;>rfl
theorem Xx (c:Code):(D7 c).2=true↔c.ins≠[]∧∃s,Ey c.ins.length c.pair 0 c.ins (0,0,0)=some s:=by
 have h:=Ob c c.ins.length (Nat.le_refl _)
 rw [List.take_length] at h
 unfold D7
 rw [h]
 by_cases he:c.ins=[]
 ·rw [if_pos he];simp [he]
 ·rw [if_neg he]
  cases Ey c.ins.length c.pair 0 c.ins (0,0,0) with
  | none=>simp
  | some s=>simp [he]
theorem Ry {s:List UInt8} : ∀(l:List (List UInt8)) (i:Nat) (c:Int),s∈l→(i:Int)≤Mp s i l c∧Mp s i l c<i+l.length
 | [],i,c,h=>by cases h
 | y::l,i,c,h=>by
  rw [Mp]
  by_cases hl:s∈l
  ·have:=Ry l (i+1) (if y=s then (i:Int) else c) hl
   push_cast at this ⊢
   simp only [List.length_cons]
   push_cast
   omega
  ·have hy:y=s:=by
    rcases List.mem_cons.1 h with e|e
    ·exact e.symm
    ·exact absurd e hl
   have hno : ∀(l:List (List UInt8)) (j:Nat) (c:Int),s∉l→Mp s j l c=c:=by
    intro l
    induction l with
    | nil=>intros;rfl
    | cons z l ih=>
     intro j c hz
     rw [Mp,if_neg (fun e=>hz (by rw [e];simp)),ih _ _ (fun e=>hz (by simp [e]))]
   rw [if_pos hy,hno l _ _ hl]
   simp only [List.length_cons]
   push_cast
   omega
theorem Rz {M:List (List UInt8)} {s:List UInt8} (h:s∈M):0≤Nd M s∧Nd M s<M.length:=by
 have:=Ry M 0 0 h
 unfold Nd
 simpa using this
theorem Jz {k:Int} (h1:1≤k) (h2:k≤22):tk (Eb k)=Cb k∧pt (Eb k)=1∧1≤Eb k∧Eb k≤22:=by
 rcases (by omega:k=1∨k=2∨k=3∨k=4∨k=5∨k=6∨k=7∨k=8∨k=9∨k=10∨k=11∨k=12∨k=13∨k=14∨k=15∨k=16∨k=17∨k=18∨k=19∨k=20∨k=21∨k=22) with rfl|rfl|rfl|rfl|rfl|rfl|rfl|rfl|rfl|rfl|rfl|rfl|rfl|rfl|rfl|rfl|rfl|rfl|rfl|rfl|rfl|rfl<;>decide
theorem Mr (M:List (List UInt8)) (k v f t:Int) (n:List UInt8):(Ep M k v f t n).op=Eb k:=by
 unfold Ep
 by_cases e1:k=1
 ·subst e1;rfl
 rw [if_neg e1]
 by_cases e2:k=2
 ·subst e2;rfl
 rw [if_neg e2]
 by_cases e3:k=20
 ·subst e3;rfl
 rw [if_neg e3]
 by_cases e4:k=21
 ·subst e4;rfl
 rw [if_neg e4]
 by_cases e5:k=22
 ·subst e5;rfl
 rw [if_neg e5]
theorem K0 {known pair wrong:Bool} {e k f t:Int} (h:(G8 known pair wrong e k f t).2=0):e=0∧(k=2→known=true)∧(k=21∨k=22→f≤t)∧(k=22→pair=true):=by
 unfold G8 at h
 split at h
 ·rename_i h1;exact absurd h h1
 rename_i h1
 split at h
 ·exact absurd h (by decide)
 split at h
 ·exact absurd h (by decide)
 rename_i h3
 split at h
 ·exact absurd h (by decide)
 rename_i h4
 split at h
 ·exact absurd h (by decide)
 rename_i h5
 refine⟨by simpa using h1,fun hk=>?_,fun hk=>?_,fun hk=>?_⟩
 ·cases hb:known
  ·exact absurd ⟨hk,hb⟩ h3
  ·rfl
 ·rcases Int.lt_or_le t f with q|q
  ·exact absurd ⟨hk,q⟩ h4
  ·exact q
 ·cases hb:pair
  ·exact absurd ⟨hk,hb⟩ h5
  ·rfl
theorem Xy {M:List (List UInt8)} {pair:Bool} {k v f t:Int} {n:List UInt8} {len:Nat} (hs:J0 k v f t n len=true) (h2:k=2→n∈M) (h3:k=21∨k=22→f≤t) (h4:k=22→pair=true) :
  E8 (Ep M k v f t n) pair M.length=true:=by
 unfold J0 kdB at hs
 simp only [Bool.and_eq_true,decide_eq_true_eq] at hs
 obtain⟨⟨⟨k1,k2⟩,hl⟩,hf⟩:=hs
 unfold fldB at hf
 unfold Ep
 by_cases e1:k=1
 ·subst e1
  rw [if_pos rfl] at hf ⊢
  simp only [Bool.and_eq_true,decide_eq_true_eq] at hf
  simp only [E8,Ah,if_true,Bool.and_eq_true,decide_eq_true_eq,beq_self_eq_true,and_true]
  omega
 rw [if_neg e1] at hf ⊢
 by_cases e2:k=2
 ·subst e2
  rw [if_pos rfl]
  have:=Rz (h2 rfl)
  simp only [E8,if_neg (by decide : ¬(2:Int)=1),if_true,Bool.and_eq_true,decide_eq_true_eq,beq_self_eq_true,and_true]
  omega
 rw [if_neg e2] at hf ⊢
 by_cases e3:k=20
 ·subst e3
  rw [if_pos rfl] at hf ⊢
  simp only [Bool.and_eq_true,decide_eq_true_eq] at hf
  simp only [E8,Ah,if_neg (by decide : ¬(9:Int)=1),if_neg (by decide : ¬(9:Int)=2),if_neg (by decide : ¬((9:Int)=3∨(9:Int)=4)),if_true,Bool.and_eq_true,decide_eq_true_eq,beq_self_eq_true,and_true]
  omega
 rw [if_neg e3] at hf ⊢
 by_cases e4:k=21
 ·subst e4
  rw [if_pos (.inl rfl)] at hf
  rw [if_pos rfl]
  have:=h3 (.inl rfl)
  simp only [Bool.and_eq_true] at hf
  have a1:Jo f=true:=hf.1.1.1
  have a2:Jo t=true:=hf.1.1.2
  simp [E8,a1,a2,this]
 rw [if_neg e4]
 by_cases e5:k=22
 ·subst e5
  rw [if_pos (.inr rfl)] at hf
  rw [if_pos rfl]
  have:=h3 (.inr rfl)
  have hp:=h4 rfl
  simp only [Bool.and_eq_true] at hf
  have a1:Jo f=true:=hf.1.1.1
  have a2:Jo t=true:=hf.1.1.2
  simp [E8,a1,a2,hp,this]
 rw [if_neg e5]
 rcases (by omega:k=3∨k=4∨k=5∨k=6∨k=7∨k=8∨k=9∨k=10∨k=11∨k=12∨k=13∨k=14∨k=15∨k=16∨k=17∨k=18∨k=19) with rfl|rfl|rfl|rfl|rfl|rfl|rfl|rfl|rfl|rfl|rfl|rfl|rfl|rfl|rfl|rfl|rfl<;>rfl
theorem A0i {len:Nat} {pair:Bool} {i:Nat} {x:Ins} {m d st:Int} (hi:i+1<len) (h1:1≤x.op) (h2:x.op≤22) (hp:pt x.op=1) (hn:E8 x pair st=true) (hd:tk x.op≤d) :
  ∃m',Cz len pair i x (m,d,st)=some (m',d+(1-tk x.op),st):=by
 have hb:Ev len pair i x st=false:=by
  unfold Ev
  rw [hn,decide_eq_false (by omega : ¬x.op<1),decide_eq_false (by omega : ¬26<x.op),decide_eq_false (by omega : ¬x.op=26),decide_eq_false (by omega : ¬i+1=len)]
  rfl
 have hc:E1 x.op d=false:=by
  unfold E1
  rw [decide_eq_false (by omega : ¬d<tk x.op),hp]
  rfl
 refine⟨max m (d+(1-tk x.op)),?_⟩
 unfold Cz
 simp only [hb,hc,Bool.false_eq_true,if_false,hp]
 rw [if_neg (by omega)]
namespace Xp
theorem infs_all {q:List UInt8→Bool} {pair:Bool} {w:Int} : ∀(xs:List Xp),(infs q pair w xs).1=0→∀x∈xs,(inf q pair x).2=0
 | [],_,x,h=>by cases h
 | y::xs,h,x,hx=>by
  rw [infs] at h
  split at h
  ·rename_i h1;exact absurd h h1
  ·rename_i h1
   rcases List.mem_cons.1 hx with rfl|hx
   ·simpa using h1
   ·exact infs_all xs h x hx
theorem props_mem {l:List Xp} (h:props l=true) : ∀x∈l,prop x=true:=by
 rw [props_all] at h
 intro x hx
 cases hb:prop x
 ·rw [List.any_eq_true.2 ⟨x,hx,by simp [hb]⟩] at h;cases h
 ·rfl
theorem run_x {len:Nat} {pair:Bool} {M:List (List UInt8)} : ∀x:Xp,x.prop=true→(x.inf (Cs M) pair).2=0→∀(i:Nat) (m d:Int),i+(codeX M x).length<len→0≤d→
  ∃m',Ey len pair i (codeX M x) (m,d,(M.length:Int))=some (m',d+1,(M.length:Int)):=by
 refine Xp.ind fun k v f t n xs ih hp hf i m d hi hd=>?_
 rw [prop,Bool.and_eq_true] at hp
 rw [inf] at hf
 obtain⟨f1,f2,f3,f4⟩:=K0 hf
 have hall:=infs_all xs f1
 have hpm:=props_mem hp.2
 have main : ∀(l:List Xp),(∀x∈l,x∈xs)→∀(i:Nat) (m d:Int),i+(codesX M l).length<len→0≤d→∃m',Ey len pair i (codesX M l) (m,d,(M.length:Int))=some (m',d+l.length,(M.length:Int)):=by
  intro l
  induction l with
  | nil=>intro _ i m d _ _;exact⟨m,by simp [codesX,Ey]⟩
  | cons y l ihl=>
   intro hl i m d hi hd
   rw [codesX,List.length_append] at hi
   obtain⟨m1,h1⟩:=ih y (hl y (by simp)) (hpm y (hl y (by simp))) (hall y (hl y (by simp))) i m d (by omega) hd
   obtain⟨m2,h2⟩:=ihl (fun x hx=>hl x (by simp [hx])) (i+(codeX M y).length) m1 (d+1) (by omega) (by omega)
   refine⟨m2,?_⟩
   rw [codesX,Cg,h1,Option.bind_some,h2]
   simp only [List.length_cons]
   push_cast
   rw [show d+1+(l.length:Int)=d+((l.length:Int)+1) by omega]
 rw [codeX,List.length_append] at hi
 simp only [List.length_cons,List.length_nil] at hi
 obtain⟨m1,h1⟩:=main xs (fun _ h=>h) i m d (by omega) hd
 have hk:1≤k∧k≤22∧(xs.length:Int)=Cb k:=by
  have:=hp.1
  unfold J0 kdB at this
  simp only [Bool.and_eq_true,decide_eq_true_eq,beq_iff_eq] at this
  exact⟨this.1.1.1,this.1.1.2,this.1.2⟩
 obtain⟨t1,t2,t3,t4⟩:=Jz hk.1 hk.2.1
 have hop:=Mr M k v f t n
 have hnum:=Xy hp.1 (M:=M) (pair:=pair) (fun e=>by have:=f2 e;simpa [Cs] using this) f3 f4
 obtain⟨m2,h2⟩:=A0i (len:=len) (pair:=pair) (i:=i+(codesX M xs).length) (x:=Ep M k v f t n) (m:=m1) (d:=d+xs.length) (st:=(M.length:Int)) (by omega) (by rw [hop];omega) (by rw [hop];omega) (by rw [hop];exact t2) hnum (by rw [hop,t1];omega)
 refine⟨m2,?_⟩
 rw [codeX,Cg,h1,Option.bind_some,Ey,h2]
 simp only [Ey]
 rw [hop,t1,←hk.2.2,show d+(xs.length:Int)+(1-(xs.length:Int))=d+1 by omega]
end Xp
theorem A0j {len:Nat} {pair:Bool} {i:Nat} {x:Ins} {m st:Int} (hi:i+1<len) (h1:23≤x.op) (h2:x.op≤25) (hn:E8 x pair st=true) :
  ∃m',Cz len pair i x (m,1,st)=some (m',0,if x.op=23 then st+1 else st):=by
 have hb:Ev len pair i x st=false:=by
  unfold Ev
  rw [hn,decide_eq_false (by omega : ¬x.op<1),decide_eq_false (by omega : ¬26<x.op),decide_eq_false (by omega : ¬x.op=26),decide_eq_false (by omega : ¬i+1=len)]
  rfl
 have ht:tk x.op=1∧pt x.op=0:=by
  rcases (by omega:x.op=23∨x.op=24∨x.op=25) with h|h|h<;>rw [h]<;>decide
 have hc:E1 x.op 1=false:=by
  unfold E1
  rw [ht.1,ht.2]
  rfl
 refine⟨max m (1+(pt x.op-tk x.op)),?_⟩
 unfold Cz
 simp only [hb,hc,Bool.false_eq_true,if_false]
 rw [ht.1,ht.2]
 rfl
theorem A0k {len:Nat} {pair:Bool} {known:Int→Bool} : ∀(ss:List Stm) (M:List (List UInt8)),(∀s∈ss,Eu s=true)→Bv known pair M ss=0→∀(i:Nat) (m:Int),i+(Cf M ss).length<len→
  ∃m',Ey len pair i (Cf M ss) (m,0,(M.length:Int))=some (m',0,((M++Aj ss).length:Int))
 | [],M,_,_,i,m,_=>⟨m,by simp [Cf,Ey,Aj]⟩
 | s::ss,M,hb,he,i,m,hi=>by
  rw [Bv] at he
  split at he
  ·rename_i h1;exact absurd he h1
  rename_i h1
  have hs0:Fh known (Cs M) pair s=0:=by simpa using h1
  have hi0:(s.ex.inf (Cs M) pair).2=0:=by
   unfold Fh at hs0
   split at hs0
   ·rename_i q;exact absurd hs0 q
   ·rename_i q;simpa using q
  have hsb:=hb s (by simp)
  unfold Eu at hsb
  simp only [Bool.and_eq_true,decide_eq_true_eq] at hsb
  obtain⟨⟨hsh,_⟩,hpr⟩:=hsb
  rw [Cf,List.length_append,List.length_append] at hi
  simp only [List.length_cons,List.length_nil] at hi
  obtain⟨m1,r1⟩:=Xp.run_x (len:=len) (pair:=pair) (M:=M) s.ex hpr hi0 i m 0 (by omega) (by omega)
  unfold Qv at hsh
  have hlast:23≤(Fa M s).op∧(Fa M s).op≤25∧E8 (Fa M s) pair (M.length:Int)=true∧(if (Fa M s).op=23 then (M.length:Int)+1 else (M.length:Int))=((M++Aj [s]).length:Int):=by
   unfold Fa
   by_cases k1:s.kind=1
   ·rw [if_pos k1]
    refine⟨by simp,by simp,by simp [E8],?_⟩
    simp [Aj,k1]
   rw [if_neg k1] at hsh ⊢
   have hn:Aj [s]=[]:=by simp [Aj,k1]
   rw [hn,List.append_nil]
   by_cases k2:s.kind=2
   ·rw [if_pos k2]
    exact⟨by simp,by simp,rfl,rfl⟩
   rw [if_neg k2] at hsh ⊢
   split at hsh
   ·simp only [Bool.and_eq_true] at hsh
    have ha:Jo s.acc=true:=hsh.2
    refine⟨by simp,by simp,?_,rfl⟩
    simp [E8,ha]
   ·cases hsh
  obtain⟨l1,l2,l3,l4⟩:=hlast
  obtain⟨m2,r2⟩:=A0j (len:=len) (pair:=pair) (i:=i+(s.ex.codeX M).length) (x:=Fa M s) (m:=m1) (st:=(M.length:Int)) (by omega) l1 l2 l3
  obtain⟨m3,r3⟩:=A0k (len:=len) (pair:=pair) (known:=known) ss (M++Aj [s]) (fun x hx=>hb x (by simp [hx])) he (i+(s.ex.codeX M++[Fa M s]).length) m2 (by rw [List.length_append];simp only [List.length_cons,List.length_nil];omega)
  refine⟨m3,?_⟩
  rw [Cf,Cg,Cg,r1,Option.bind_some]
  simp only [Ey,Int.zero_add]
  rw [r2]
  simp only [Option.bind_some]
  rw [l4,r3]
  congr 3
  unfold Aj
  rw [List.append_assoc,←List.map_append,←List.filter_append]
  rfl
theorem S4 {known:Int→Bool} {r:Rul} (hb:D1 r=true) (he:Jy known r=0):(D7 (Ak r)).2=true:=by
 unfold D1 at hb
 simp only [Bool.and_eq_true,decide_eq_true_eq,List.all_eq_true] at hb
 obtain⟨⟨_,hto⟩,hst⟩:=hb
 have h0:Bv known r.pair [] r.stmts=0:=by
  unfold Jy at he
  split at he
  ·rename_i q;exact absurd he q
  ·rename_i q;simpa using q
 rw [Xx]
 unfold Ak
 simp only []
 refine⟨by simp,?_⟩
 obtain⟨m1,r1⟩:=A0k (len:=(Cf [] r.stmts++[(⟨26,r.to,0⟩:Ins)]).length) (pair:=r.pair) (known:=known) r.stmts [] hst h0 0 0 (by simp)
 have ha:Jo r.to=true:=hto
 rw [Cg]
 have e0:(([]:List (List UInt8)).length:Int)=0:=rfl
 rw [e0] at r1
 rw [r1,Option.bind_some,Ey]
 have hstep:Cz (Cf [] r.stmts++[(⟨26,r.to,0⟩:Ins)]).length r.pair (0+(Cf [] r.stmts).length) ⟨26,r.to,0⟩ (m1,0,((([]:List (List UInt8))++Aj r.stmts).length:Int))=some (max m1 0,0,((([]:List (List UInt8))++Aj r.stmts).length:Int)):=by
  have hbm:Ev (Cf [] r.stmts++[(⟨26,r.to,0⟩:Ins)]).length r.pair (0+(Cf [] r.stmts).length) ⟨26,r.to,0⟩ ((([]:List (List UInt8))++Aj r.stmts).length:Int)=false:=by
   unfold Ev
   have hn:E8 ⟨26,r.to,0⟩ r.pair ((([]:List (List UInt8))++Aj r.stmts).length:Int)=true:=by simp [E8,ha]
   rw [hn]
   simp
  unfold Cz
  simp only [hbm,Bool.false_eq_true,if_false]
  rfl
 rw [hstep]
 exact⟨_,rfl⟩
end Go.Proofs.YtmlpmdccfmmpoaaGreatDoor
