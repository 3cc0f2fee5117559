/- Limbs: plain. -/
import Derived.Test.YtmlpmdccfmmpoaaGreatDoorApi
set_option linter.unusedSimpArgs false
set_option linter.unusedVariables false
namespace Go.Proofs.YtmlpmdccfmmpoaaGreatDoor
open E

def lvl (B:Nat):List Nat→Nat
 | []=>0
 | x::l=>x+B*lvl B l
def A9 (B n:Nat):List Nat:=if h:n=0∨B<2 then [] else n % B::A9 B (n / B)
termination_by n
decreasing_by exact Nat.div_lt_self (by omega) (by omega)
def Lim (B:Nat) (l:List Nat):Prop:=∀x∈l,x<B
theorem B1 (B:Nat):A9 B 0=[]:=by rw [A9];simp
theorem Cp {B n:Nat} (hB:2≤B) (hn:n≠0):A9 B n=n % B::A9 B (n / B):=by
 rw [A9,dif_neg (by omega)]
theorem I6 {B n:Nat} (hn:0<n) (h:n<B):A9 B n=[n]:=by
 rw [Cp (by omega) (by omega),Nat.mod_eq_of_lt h,Nat.div_eq_of_lt h,B1]
theorem An {B:Nat} (hB:2≤B) (n:Nat):lvl B (A9 B n)=n:=by
 induction n using Nat.strongRecOn with
 | _ n ih=>
  by_cases hn:n=0
  ·subst hn;rw [B1];rfl
  ·rw [Cp hB hn,lvl,ih _ (Nat.div_lt_self (by omega) (by omega))]
   have:=Nat.mod_add_div n B
   omega
theorem Ar {B:Nat} (hB:2≤B) (n:Nat):Lim B (A9 B n):=by
 induction n using Nat.strongRecOn with
 | _ n ih=>
  by_cases hn:n=0
  ·subst hn;rw [B1];intro x hx;simp at hx
  ·rw [Cp hB hn]
   intro x hx
   rcases List.mem_cons.1 hx with rfl|hx
   ·exact Nat.mod_lt _ (by omega)
   ·exact ih _ (Nat.div_lt_self (by omega) (by omega)) x hx
theorem C4 (B:Nat) (a b:List Nat):lvl B (a++b)=lvl B a+B ^ a.length*lvl B b:=by
 induction a with
 | nil=>simp [lvl]
 | cons x l ih=>
  rw [List.cons_append,lvl,lvl,ih,Nat.mul_add,←Nat.mul_assoc,List.length_cons,Nat.pow_succ]
  rw [Nat.mul_comm (B ^ l.length) B];omega
theorem Jl (B n:Nat):lvl B (List.replicate n 0)=0:=by
 induction n with
 | zero=>rfl
 | succ n ih=>rw [List.replicate_succ,lvl,ih];simp
theorem Jm {B:Nat} {l:List Nat} (h:Lim B l):lvl B l<B ^ l.length:=by
 induction l with
 | nil=>simp [lvl]
 | cons x l ih=>
  have h1:=h x (by simp)
  have h2:=ih fun y hy=>h y (by simp [hy])
  rw [lvl,List.length_cons,Nat.pow_succ]
  have h3:B*(lvl B l+1)≤B*B ^ l.length:=Nat.mul_le_mul_left _ h2
  rw [Nat.mul_add,Nat.mul_comm B (B ^ l.length)] at h3
  omega
theorem X2 {B:Nat} (hB:2≤B) {l:List Nat} (h:Lim B l) (hl : ∀x,l.getLast?=some x→x≠0):A9 B (lvl B l)=l:=by
 induction l with
 | nil=>exact B1 B
 | cons x l ih=>
  have h1:=h x (by simp)
  have ih':=ih (fun y hy=>h y (by simp [hy])) (fun y hy=>hl y (by
   cases l with
   | nil=>simp at hy
   | cons z l=>rw [List.getLast?_cons_cons];exact hy))
  have hne:lvl B (x::l)≠0:=by
   intro e
   rw [lvl] at e
   have e1:x=0:=by omega
   have e2:B*lvl B l=0:=by omega
   have e3:lvl B l=0:=by rcases Nat.mul_eq_zero.1 e2 with h|h<;>omega
   rw [e3,B1] at ih'
   subst ih'
   exact hl x rfl e1
  rw [Cp hB hne,lvl,Nat.add_mul_mod_self_left,Nat.mod_eq_of_lt h1,Nat.add_mul_div_left _ _ (by omega),Nat.div_eq_of_lt h1,Nat.zero_add,ih']
theorem Hb {B:Nat} (hB:2≤B) {l:List Nat} (h:Lim B l) (k:Nat) (hk:k≤l.length) (hz : ∀j,k≤j→j<l.length→l[j]?=some 0) (hl:k=0∨l[k-1]?≠some 0):A9 B (lvl B l)=l.take k:=by
 have e:l=l.take k++List.replicate (l.length-k) 0:=by
  apply List.ext_getElem?
  intro j
  by_cases hj:j<k
  ·rw [List.getElem?_append_left (by simp;omega),List.getElem?_take,if_pos hj]
  ·rw [List.getElem?_append_right (by simp;omega)]
   by_cases hj2:j<l.length
   ·rw [hz j (by omega) hj2,List.getElem?_replicate,if_pos (by simp;omega)]
   ·rw [List.getElem?_eq_none (by omega),List.getElem?_eq_none (by simp;omega)]
 have e2:lvl B l=lvl B (l.take k):=by
  conv=>lhs;rw [e,C4,Jl]
  simp
 rw [e2]
 refine X2 hB (fun x hx=>h x (List.mem_of_mem_take hx)) ?_
 intro x hx hx0
 subst hx0
 rcases hl with rfl|hl
 ·simp at hx
 ·apply hl
  rw [List.getLast?_eq_getElem?,List.length_take,Nat.min_eq_left hk] at hx
  by_cases hk0:k=0
  ·subst hk0;simp at hx
  ·rw [List.getElem?_take,if_pos (by omega)] at hx
   exact hx
theorem D3 {B n k:Nat} (hB:2≤B) (h:n<B ^ k):(A9 B n).length≤k:=by
  induction k generalizing n with
  | zero => rw [Nat.pow_zero] at h; have : n = 0 := by omega
            subst this;rw [B1];simp
  | succ k ih=>
    by_cases hn:n=0
    · subst hn;rw [B1];simp
    · rw [Cp hB hn,List.length_cons]
      have:n / B<B ^ k:=by
        rw [Nat.div_lt_iff_lt_mul (by omega),←Nat.pow_succ];exact h
      have:=ih this
      omega
theorem F7 {B a b:Nat} (hB:2≤B) (h:a≤b):(A9 B a).length≤(A9 B b).length:=by
 apply D3 hB
 have h1:=Jm (Ar hB b)
 rw [An hB] at h1
 omega
theorem Ej {B a b:Nat} (hB:2≤B) (h:(A9 B a).length<(A9 B b).length):a<b:=by
 rcases Nat.lt_or_ge a b with h1|h1
 ·exact h1
 ·have:=F7 hB h1;omega
theorem Vc {B:Nat} {a b:List Nat} (ha:Lim B a) (hl:a.length=b.length) (k:Nat) (hk:k<a.length) (he : ∀j,k<j→a[j]?=b[j]?) {x y:Nat} (hx:a[k]?=some x) (hy:b[k]?=some y) (hxy:x<y):lvl B a<lvl B b:=by
 have e1 : ∀(l:List Nat) (z:Nat),l[k]?=some z→l=l.take k++z::l.drop (k+1):=by
  intro l z hz
  have hlt:k<l.length:=by
   rcases Nat.lt_or_ge k l.length with h|h
   ·exact h
   ·rw [List.getElem?_eq_none h] at hz;cases hz
  have:l[k]=z:=by rw [List.getElem?_eq_getElem hlt] at hz;exact Option.some.inj hz
  rw [←this,←List.drop_eq_getElem_cons hlt,List.take_append_drop]
 have e2:a.drop (k+1)=b.drop (k+1):=by
  apply List.ext_getElem?
  intro j
  rw [List.getElem?_drop,List.getElem?_drop]
  exact he _ (by omega)
 rw [e1 a x hx,e1 b y hy,e2,C4,C4,lvl,lvl]
 have h1:lvl B (a.take k)<B ^ k:=by
  have:=Jm (B:=B) (l:=a.take k) fun z hz=>ha z (List.mem_of_mem_take hz)
  rwa [List.length_take,Nat.min_eq_left (by omega)] at this
 have hbk:(b.take k).length=k:=by rw [List.length_take];omega
 have hak:(a.take k).length=k:=by rw [List.length_take];omega
 rw [hak,hbk]
 generalize lvl B (b.drop (k+1))=d
 have h2:B ^ k*(x+1+B*d)≤B ^ k*(y+B*d):=Nat.mul_le_mul_left _ (by omega)
 have h3:B ^ k*(x+1+B*d)=B ^ k*(x+B*d)+B ^ k:=by
  rw [show x+1+B*d=(x+B*d)+1 by omega,Nat.mul_add,Nat.mul_one]
 omega
theorem L8 {B:Nat} : ∀{l:List Nat} {j v w:Nat},l[j]?=some w→lvl B (l.set j v)+B ^ j*w=lvl B l+B ^ j*v
 | [],_,_,_,h=>by simp at h
 | x::l,0,v,w,h=>by simp at h;subst h;simp [lvl];omega
 | x::l,j+1,v,w,h=>by
  have h1:=L8 (B:=B) (l:=l) (j:=j) (v:=v) (w:=w) (by simpa using h)
  simp only [List.set_cons_succ,lvl]
  have h2:B*(lvl B (l.set j v)+B ^ j*w)=B*(lvl B l+B ^ j*v):=by rw [h1]
  rw [Nat.mul_add,Nat.mul_add,←Nat.mul_assoc,←Nat.mul_assoc] at h2
  rw [Nat.pow_succ,Nat.mul_comm (B ^ j) B]
  omega
theorem Bg {B:Nat} {l:List Nat} {k x:Nat} (h:l[k]?=some x):lvl B (l.take (k+1))=lvl B (l.take k)+B ^ k*x:=by
 have hlt:=(List.getElem?_eq_some_iff.1 h).1
 rw [Ag h,C4,List.length_take,Nat.min_eq_left (by omega)]
 simp [lvl]
theorem Dj {B:Nat} {l:List Nat} {k x:Nat} (h:l[k]?=some x):lvl B (l.drop k)=x+B*lvl B (l.drop (k+1)):=by
 obtain⟨hlt,he⟩:=List.getElem?_eq_some_iff.1 h
 rw [List.drop_eq_getElem_cons hlt,lvl,he]
theorem Fm (B:Nat) (l:List Nat) {k:Nat} (hk:k≤l.length):lvl B l=lvl B (l.take k)+B ^ k*lvl B (l.drop k):=by
 have:=C4 B (l.take k) (l.drop k)
 rwa [List.take_append_drop,List.length_take,Nat.min_eq_left hk] at this
theorem Lim.set {B:Nat} {l:List Nat} (h:Lim B l) {v:Nat} (hv:v<B) (j:Nat):Lim B (l.set j v):=fun x hx=>by
 rcases List.mem_or_eq_of_mem_set hx with h1|h1
 ·exact h x h1
 ·exact h1▸hv
theorem Lim.app {B:Nat} {a b:List Nat} (ha:Lim B a) (hb:Lim B b):Lim B (a++b):=fun x hx=>by
 rcases List.mem_append.1 hx with h|h
 ·exact ha x h
 ·exact hb x h
theorem Lim.take {B:Nat} {l:List Nat} (h:Lim B l) (k:Nat):Lim B (l.take k):=fun x hx=>h x (List.mem_of_mem_take hx)
theorem Lim.drop {B:Nat} {l:List Nat} (h:Lim B l) (k:Nat):Lim B (l.drop k):=fun x hx=>h x (List.mem_of_mem_drop hx)
theorem Lim.one {B x:Nat} (h:x<B):Lim B [x]:=fun y hy=>by simp at hy;omega
theorem Lim.zeros {B:Nat} (hB:0<B) (n:Nat):Lim B (List.replicate n 0):=fun x hx=>by rw [(List.mem_replicate.1 hx).2];exact hB
theorem Lim.at {B:Nat} {l:List Nat} (h:Lim B l) {k x:Nat} (hx:l[k]?=some x):x<B:=h x (List.mem_of_getElem? hx)
def Cq (x y:Nat):Int:=if x<y then -1 else if y<x then 1 else 0
theorem Qx {B:Nat} (hB:2≤B) {x y:Nat} (hl:(A9 B x).length=(A9 B y).length) (k:Nat) (he : ∀j,k<j→(A9 B x)[j]?=(A9 B y)[j]?) {u v:Nat} (hu:(A9 B x)[k]?=some u) (hv:(A9 B y)[k]?=some v) (hne:u≠v):Cq x y=if u<v then -1 else 1:=by
 have hk:=(List.getElem?_eq_some_iff.1 hu).1
 have h1:=fun h=>Vc (Ar hB x) hl k hk he hu hv h
 have h2:=fun h=>Vc (Ar hB y) hl.symm k (by omega) (fun j hj=>(he j hj).symm) hv hu h
 rw [An hB,An hB] at h1 h2
 unfold Cq
 by_cases h:u<v
 ·rw [if_pos (h1 h),if_pos h]
 ·have h3:=h2 (by omega)
  rw [if_neg (by omega),if_pos h3,if_neg h]
theorem Qy {B:Nat} (hB:2≤B) {x y:Nat} (hl:(A9 B x).length≠(A9 B y).length):Cq x y=if (A9 B x).length<(A9 B y).length then -1 else 1:=by
 unfold Cq
 by_cases h:(A9 B x).length<(A9 B y).length
 ·rw [if_pos (Ej hB h),if_pos h]
 ·have:=Ej hB (a:=y) (b:=x) (by omega)
  rw [if_neg (by omega),if_pos this,if_neg h]
theorem Qz {B:Nat} (hB:2≤B) {x y:Nat} (h:A9 B x=A9 B y):Cq x y=0:=by
 have:x=y:=by rw [←An hB x,←An hB y,h]
 subst this
 simp [Cq]
def pad (B k n:Nat):List Nat:=(List.range k).map fun i=>n / B ^ i % B
@[simp] theorem A27 (B k n:Nat):(pad B k n).length=k:=by simp [pad]
theorem A28 {B k n i:Nat} (h:i<k):(pad B k n)[i]?=some (n / B ^ i % B):=by simp [pad,h]
theorem Oz {B:Nat} (hB:0<B) (k n:Nat):Lim B (pad B k n):=fun x hx=>by
 obtain⟨i,_,rfl⟩:=List.mem_map.1 hx
 exact Nat.mod_lt _ hB
theorem Za {B:Nat} (hB:0<B) : ∀{l:List Nat} {i x:Nat},Lim B l→l[i]?=some x→lvl B l / B ^ i % B=x
 | [],i,x,_,h=>by simp at h
 | y::l,0,x,hL,h=>by
  simp at h
  subst h
  rw [Nat.pow_zero,Nat.div_one,lvl,Nat.add_mul_mod_self_left,Nat.mod_eq_of_lt (hL y (by simp))]
 | y::l,i+1,x,hL,h=>by
  have h1:=Za hB (l:=l) (i:=i) (x:=x) (fun z hz=>hL z (by simp [hz])) (by simpa using h)
  rw [lvl,Nat.pow_succ,Nat.mul_comm (B ^ i) B,←Nat.div_div_eq_div_mul,Nat.add_mul_div_left _ _ hB,Nat.div_eq_of_lt (hL y (by simp)),Nat.zero_add,h1]
theorem P0 {B k n:Nat} {l:List Nat} (hB:0<B) (h:Lim B l) (hl:l.length=k) (hv:lvl B l=n):l=pad B k n:=by
 subst hl hv
 apply List.ext_getElem?
 intro i
 rcases Nat.lt_or_ge i l.length with hi|hi
 ·rw [A28 hi,Za hB h (List.getElem?_eq_getElem hi),List.getElem?_eq_getElem hi]
 ·rw [List.getElem?_eq_none hi,List.getElem?_eq_none (by simpa using hi)]
theorem L9 {B:Nat} (hB:0<B) (k n:Nat):lvl B (pad B k n)=n % B ^ k:=by
 induction k with
 | zero=>simp [pad,lvl,Nat.mod_one]
 | succ k ih=>
  have e:pad B (k+1) n=pad B k n++[n / B ^ k % B]:=by simp [pad,List.range_succ]
  rw [e,C4,ih,A27,lvl,lvl,Nat.mul_zero,Nat.add_zero,Nat.pow_succ,Nat.mod_mul]
theorem X3 {B:Nat} (hB:2≤B) (i:Nat) : ∀n,(A9 B n).drop i=A9 B (n / B ^ i):=by
 induction i with
 | zero=>intro n;simp
 | succ i ih=>
  intro n
  by_cases hn:n=0
  ·subst hn;simp [B1]
  ·rw [Cp hB hn,List.drop_succ_cons,ih,Nat.div_div_eq_div_mul,Nat.pow_succ,Nat.mul_comm]
theorem Hc {B:Nat} (hB:2≤B) (n:Nat):n<B ^ (A9 B n).length:=by
 have:=Jm (Ar hB n)
 rwa [An hB] at this
theorem Nz (B p n:Nat):B ^ p*n=B ^ p*(n % B)+n / B*B ^ (p+1):=by
 have h:=Nat.mod_add_div n B
 have h2:B ^ p*(n % B+B*(n / B))=B ^ p*(n % B)+n / B*B ^ (p+1):=by
  rw [Nat.mul_add,←Nat.mul_assoc,←Nat.pow_succ,Nat.mul_comm (B ^ (p+1))]
 rw [←h2,h]
theorem Zb {B p m u c L:Nat} {o:List Nat} (ho:o[p]?=some u) (E:lvl B o+c*B ^ p=L):lvl B (o.set p ((m+u+c) % B))+(m+u+c) / B*B ^ (p+1)=L+B ^ p*m:=by
 have h1:=L8 (B:=B) (v:=(m+u+c) % B) ho
 have h2:=Nz B p (m+u+c)
 rw [Nat.mul_add,Nat.mul_add,Nat.mul_comm (B ^ p) c] at h2
 omega
theorem R1 {B i x y c L:Nat} {o:List Nat} (hl:o.length=i) (E:lvl B o+c*B ^ i=L):lvl B (o++[(c+x+y) % B])+(c+x+y) / B*B ^ (i+1)=L+B ^ i*(x+y):=by
 have h2:=Nz B i (c+x+y)
 rw [show c+x+y=c+(x+y) by omega] at h2 ⊢
 rw [Nat.mul_add,Nat.mul_comm (B ^ i) c] at h2
 rw [C4,hl,lvl,lvl,Nat.mul_zero,Nat.add_zero]
 omega
theorem Zc {B i x y r r' d LA LB:Nat} {o:List Nat} (hl:o.length=i) (E:lvl B o+LB=LA+r*B ^ i) (hd:d+r+y=x+r'*B):lvl B (o++[d])+(LB+B ^ i*y)=LA+B ^ i*x+r'*B ^ (i+1):=by
 have hd':=hd
 have h3:B ^ i*(d+r+y)=B ^ i*x+r'*B ^ (i+1):=by
  rw [hd',Nat.mul_add,Nat.pow_succ,←Nat.mul_assoc,Nat.mul_comm (B ^ i) r',Nat.mul_assoc]
 rw [Nat.mul_add,Nat.mul_add,Nat.mul_comm (B ^ i) r] at h3
 rw [C4,hl,lvl,lvl,Nat.mul_zero,Nat.add_zero]
 omega
theorem M9 {B d r x Q A:Nat} (hd:0<d) (hr:r<d) (hA:A=d*Q+r):(x+B*A) / d=(r*B+x) / d+B*Q∧(x+B*A) % d=(r*B+x) % d:=by
 have e:x+B*A=(r*B+x)+d*(B*Q):=by
  rw [hA,Nat.mul_add,Nat.mul_comm B r,←Nat.mul_assoc,Nat.mul_comm B d,Nat.mul_assoc];omega
 rw [e,Nat.add_mul_div_left _ _ hd,Nat.add_mul_mod_self_left]
 exact⟨rfl,rfl⟩
theorem U1 {B d r x:Nat} (hd:0<d) (hr:r<d) (hx:x<B):(r*B+x) / d<B:=by
 rw [Nat.div_lt_iff_lt_mul hd]
 have:(r+1)*B≤d*B:=Nat.mul_le_mul_right _ hr
 rw [Nat.add_mul,Nat.one_mul] at this
 rw [Nat.mul_comm B d]
 omega
theorem Cr {l:List Nat} {i v:Nat} (h:i<l.length):(l.set i v).drop i=v::l.drop (i+1):=by
 rw [List.drop_set,if_neg (by omega),Nat.sub_self,List.drop_eq_getElem_cons h];rfl
def Na (B a b:Nat):List Nat:=
 let k:=max (A9 B a).length (A9 B b).length
 if a+b<B ^ k then pad B k (a+b) else pad B (k+1) (a+b)
theorem Zd {B:Nat} (hB:0<B) (a b:Nat):Lim B (Na B a b):=by
 unfold Na;simp only [];split<;>exact Oz hB _ _
theorem A5d {B:Nat} (hB:2≤B) (a b:Nat):a+b<B ^ (max (A9 B a).length (A9 B b).length+1):=by
 have h1:=Hc hB a
 have h2:=Hc hB b
 have h3:B ^ (A9 B a).length≤B ^ max (A9 B a).length (A9 B b).length:=Nat.pow_le_pow_right (by omega) (by omega)
 have h4:B ^ (A9 B b).length≤B ^ max (A9 B a).length (A9 B b).length:=Nat.pow_le_pow_right (by omega) (by omega)
 have h5:B ^ max (A9 B a).length (A9 B b).length*2≤B ^ max (A9 B a).length (A9 B b).length*B:=Nat.mul_le_mul_left _ hB
 rw [Nat.pow_succ]
 omega
theorem Ze {B:Nat} (hB:2≤B) (a b:Nat):lvl B (Na B a b)=a+b:=by
 unfold Na;simp only [];split
 ·rename_i h;rw [L9 (by omega),Nat.mod_eq_of_lt h]
 ·rw [L9 (by omega),Nat.mod_eq_of_lt (A5d hB a b)]
def X4 (B a b:Nat):List Nat:=pad B ((A9 B a).length+(A9 B b).length) (a*b)
theorem A5e {B:Nat} (hB:2≤B) (a b:Nat):a*b<B ^ ((A9 B a).length+(A9 B b).length):=by
 rw [Nat.pow_add]
 have h1:=Hc hB a
 have h2:=Hc hB b
 rcases Nat.eq_zero_or_pos b with h|h
 ·subst h;rw [Nat.mul_zero];exact Nat.mul_pos (Nat.pow_pos (by omega)) (Nat.pow_pos (by omega))
 ·exact Nat.lt_of_lt_of_le (Nat.mul_lt_mul_of_pos_right h1 h) (Nat.mul_le_mul_left _ (Nat.le_of_lt h2))
theorem Zf {B:Nat} (hB:2≤B) (a b:Nat):lvl B (X4 B a b)=a*b:=by
 unfold X4;rw [L9 (by omega),Nat.mod_eq_of_lt (A5e hB a b)]
def U2 (B a d:Nat):List Nat:=pad B (A9 B a).length (a / d)
theorem Zg {B:Nat} (hB:2≤B) (a d:Nat):lvl B (U2 B a d)=a / d:=by
 unfold U2;rw [L9 (by omega),Nat.mod_eq_of_lt (Nat.lt_of_le_of_lt (Nat.div_le_self _ _) (Hc hB a))]
def P1 (B a d:Nat):List Nat:=if a<d then [] else U2 B a d
def P2 (B a d:Nat):List Nat:=if a<d then A9 B a else [a % d]
theorem Zh {B:Nat} (hB:2≤B) (a d:Nat):lvl B (P1 B a d)=a / d:=by
 unfold P1;split
 ·rename_i h;rw [Nat.div_eq_of_lt h];rfl
 ·exact Zg hB a d
theorem R2 {B:Nat} (hB:2≤B) (a d:Nat):lvl B (P2 B a d)=a % d:=by
 unfold P2;split
 ·rename_i h;rw [Nat.mod_eq_of_lt h,An hB]
 ·simp [lvl]
theorem Zi {B:Nat} (hB:0<B) (a d:Nat):Lim B (P1 B a d):=by
 unfold P1;split
 ·intro x hx;simp at hx
 ·exact Oz hB _ _
theorem R3 {B:Nat} (hB:2≤B) {a d:Nat} (h0:0<d) (hd:d<B):Lim B (P2 B a d):=by
 unfold P2;split
 ·exact Ar hB a
 ·exact Lim.one (Nat.lt_trans (Nat.mod_lt _ h0) hd)
end Go.Proofs.YtmlpmdccfmmpoaaGreatDoor
