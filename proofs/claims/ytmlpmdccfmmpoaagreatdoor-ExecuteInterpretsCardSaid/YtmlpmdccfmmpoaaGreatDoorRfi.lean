/- Chapter 35's reference: fine. -/
import Derived.Test.YtmlpmdccfmmpoaaGreatDoorExp
import Derived.Test.YtmlpmdccfmmpoaaGreatDoorInP
import Derived.Test.YtmlpmdccfmmpoaaGreatDoorCht
import Derived.Test.YtmlpmdccfmmpoaaGreatDoorInf
set_option linter.unusedSimpArgs false
set_option linter.unusedVariables false
set_option maxHeartbeats 4000000
set_option maxRecDepth 8000
section
section
section
set_option linter.unusedSimpArgs false
set_option linter.unusedVariables false
set_option maxHeartbeats 4000000
set_option maxRecDepth 8000
namespace Go.Proofs.YtmlpmdccfmmpoaaGreatDoor
open E

theorem Xm (b:Nat) (B:List Bx) (hle : ∀n m,B.length≤n→Ab n m B B):FnS Tryz.prog 63 [.ptr b 0,.t .nili] ⟨B,[]⟩ (.tup []) ⟨B,[]⟩:=by
 have h0:=hle B.length 0 (Nat.le_refl _)
 (refine FnS.of_code mix Tryz.call63 k_63 (by simp) (fun hB=>?_);(try simp at hB);(try simp -implicitDefEqProofs))
 (try simp -implicitDefEqProofs [h0])
theorem Ny (b:Nat) (B:List Bx) (e0 e:Int) (hb:B[b]?=some (.cells [vI e0])) (hle : ∀n m,B.length≤n→Ab n m (B.set b (.cells [vI e])) (B.set b (.cells [vI e]))):FnS Tryz.prog 63 [.ptr b 0,Fc e] ⟨B,[]⟩ (.tup []) ⟨B.set b (.cells [vI e]),[]⟩:=by
 have h0:=hle B.length 0 (Nat.le_refl _)
 unfold Fc
 (refine FnS.of_code mix Tryz.call63 k_63 (by simp) (fun hB=>?_);(try simp at hB);(try simp -implicitDefEqProofs))
 (try simp -implicitDefEqProofs [h0,hb])
end Go.Proofs.YtmlpmdccfmmpoaaGreatDoor
end

/- Chapter 33: check.Type (begun). -/
section
set_option linter.unusedSimpArgs false
set_option linter.unusedVariables false
set_option maxHeartbeats 4000000
set_option maxRecDepth 8000
namespace Go.Proofs.YtmlpmdccfmmpoaaGreatDoor
open E

end Go.Proofs.YtmlpmdccfmmpoaaGreatDoor
end

/- Chapter 33: both Types. -/
section
set_option linter.unusedSimpArgs false
set_option linter.unusedVariables false
set_option maxHeartbeats 4000000
set_option maxRecDepth 8000
namespace Go.Proofs.YtmlpmdccfmmpoaaGreatDoor
open E

end Go.Proofs.YtmlpmdccfmmpoaaGreatDoor
end
end

/- Chapter 33: what Check says: the errors of statements, rules and programs. -/
section
set_option linter.unusedSimpArgs false
set_option linter.unusedVariables false
set_option maxHeartbeats 1000000
set_option maxRecDepth 8000
namespace Go.Proofs.YtmlpmdccfmmpoaaGreatDoor
open E

def Af (ss:List Stm):List (List UInt8):=(ss.filter fun s=>s.kind==1).map (·.name)
def F1 (known:Int→Bool) (q:List UInt8→Bool) (pair:Bool) (s:Stm):Int:=
 if (s.ex.inf q pair).2≠0 then (s.ex.inf q pair).2 else if ((s.ex.inf q pair).1==2) != (s.kind==2) then 16 else
 if s.kind=1∧q s.name=true then 9 else if s.kind=3∧known s.acc=false then 8 else 0
def C9 (M:List (List UInt8)):List UInt8→Bool:=fun s=>decide (s∈M)
def Bo (known:Int→Bool) (pair:Bool):List (List UInt8)→List Stm→Int
 | _,[]=>0
 | M,s::ss=>if F1 known (C9 M) pair s≠0 then F1 known (C9 M) pair s else Bo known pair (M++Af [s]) ss
def K4 (known:Int→Bool) (r:Rul):Int:=if Bo known r.pair [] r.stmts≠0 then Bo known r.pair [] r.stmts else if known r.to=true then 0 else 8
def Hu (known:Int→Bool):List (List UInt8)→Nat→List Rul→Int×Int
 | _,_,[]=>(0,0)
 | M,i,r::rs=>if r.name∈M then ((i:Int),9) else if K4 known r≠0 then ((i:Int),K4 known r) else Hu known (M++[r.name]) (i+1) rs
def Bh (l:List Account) (code:Int):Bool:=(Cht.findS l code).isSome
def U5 (p:List Rul) (l:List Account):Int×Int:=if Ho p=true∧Cht.validR l true=true then Hu (Bh l) [] 0 p else (0,1)

theorem Gd {ss:List Stm} {k:Nat} {s:Stm} (h:ss[k]?=some s):Af (ss.take (k+1))=Af (ss.take k)++Af [s]:=by
 rw [Ae h];simp [Af]
theorem Rq {known:Int→Bool} {pair:Bool} {M:List (List UInt8)} {ss:List Stm} {k:Nat} {s:Stm} (h:ss[k]?=some s) :
  Bo known pair M (ss.drop k)=if F1 known (C9 M) pair s≠0 then F1 known (C9 M) pair s else Bo known pair (M++Af [s]) (ss.drop (k+1)):=by
 obtain⟨hlt,rfl⟩:=List.getElem?_eq_some_iff.1 h
 rw [List.drop_eq_getElem_cons hlt,Bo]
theorem A0d {known:Int→Bool} {M:List (List UInt8)} {i:Nat} {p:List Rul} {k:Nat} {r:Rul} (h:p[k]?=some r) :
  Hu known M i (p.drop k)=if r.name∈M then ((i:Int),9) else if K4 known r≠0 then ((i:Int),K4 known r) else Hu known (M++[r.name]) (i+1) (p.drop (k+1)):=by
 obtain⟨hlt,rfl⟩:=List.getElem?_eq_some_iff.1 h
 rw [List.drop_eq_getElem_cons hlt,Hu]
end Go.Proofs.YtmlpmdccfmmpoaaGreatDoor
end
end
namespace Go.Proofs.YtmlpmdccfmmpoaaGreatDoor
open E
def Ee (ss:List Stm):List Int:=(ss.filter fun s=>s.kind==3).map (·.acc)
def Bj (p:List Rul):List Int:=p.flatMap fun r=>r.to::Ee r.stmts
def ddA:Int→List Int→List Int
 | _,[]=>[]
 | p,x::l=>if x=p then ddA p l else x::ddA x l
def ddL:List Int→List Int
 | []=>[]
 | x::l=>x::ddA x l
def Asc (l:List Int):Prop:=l.Pairwise (· < ·)

theorem Xn {ss:List Stm} {k:Nat} {s:Stm} (h:ss[k]?=some s):Ee (ss.take (k+1))=Ee (ss.take k)++Ee [s]:=by
 rw [Ae h];simp [Ee]
theorem U6 {p:List Rul} {k:Nat} {r:Rul} (h:p[k]?=some r):Bj (p.take (k+1))=Bj (p.take k)++(r.to::Ee r.stmts):=by
 rw [Ae h];simp [Bj]
theorem Jk (ss:List Stm):(Ee ss).length≤ss.length:=by
 unfold Ee;rw [List.length_map];exact List.length_filter_le _ _
theorem K5 : ∀(p:List Rul) (m:Nat),(∀r∈p,r.stmts.length≤m)→(Bj p).length≤p.length*(m+1)
 | [],m,_=>by simp [Bj]
 | r::p,m,h=>by
  have h1:=K5 p m (fun x hx=>h x (by simp [hx]))
  have h2:=Jk r.stmts
  have h3:=h r (by simp)
  simp only [Bj,List.flatMap_cons,List.length_append,List.length_cons] at h1 ⊢
  rw [Nat.add_mul];omega
theorem P6 : ∀(l:List Int) (p x:Int),x∈ddA p l∨x=p↔x∈l∨x=p
 | [],p,x=>by simp [ddA]
 | y::l,p,x=>by
  rw [ddA]
  split
  ·rename_i h
   subst h
   rw [P6 l y x,List.mem_cons]
   constructor
   ·rintro (h|h)
    ·exact .inl (.inr h)
    ·exact .inr h
   ·rintro ((h|h)|h)
    ·exact .inr h
    ·exact .inl h
    ·exact .inr h
  ·have:=P6 l y x
   simp only [List.mem_cons]
   constructor
   ·rintro ((h|h)|h)
    ·exact .inl (.inl h)
    ·rcases this.1 (.inl h) with h|h
     ·exact .inl (.inr h)
     ·exact .inl (.inl h)
    ·exact .inr h
   ·rintro ((h|h)|h)
    ·exact .inl (.inl h)
    ·rcases this.2 (.inl h) with h|h
     ·exact .inl (.inr h)
     ·exact .inl (.inl h)
    ·exact .inr h
theorem A30 (l:List Int) (x:Int):x∈ddL l↔x∈l:=by
 cases l with
 | nil=>simp [ddL]
 | cons y l=>
  have:=P6 l y x
  simp only [ddL,List.mem_cons]
  constructor
  ·rintro (h|h)
   ·exact .inl h
   ·exact (this.1 (.inl h)).symm
  ·rintro (h|h)
   ·exact .inl h
   ·exact (this.2 (.inl h)).symm
theorem P7 : ∀{l:List Int} {p:Int},(p::l).Pairwise (·≤·)→Asc (p::ddA p l)
 | [],p,h=>by simp [ddA,Asc]
 | y::l,p,h=>by
  have h1:=List.pairwise_cons.1 h
  have h2:=List.pairwise_cons.1 h1.2
  rw [ddA]
  split
  ·rename_i e
   subst e
   exact P7 (List.pairwise_cons.2 ⟨h2.1,h2.2⟩)
  ·rename_i e
   have hr:=P7 (l:=l) (p:=y) h1.2
   have hpy:p<y:=by have:=h1.1 y (by simp);omega
   refine List.pairwise_cons.2 ⟨fun z hz=>?_,hr⟩
   rcases List.mem_cons.1 hz with rfl|hz
   ·exact hpy
   ·exact Int.lt_trans hpy ((List.pairwise_cons.1 hr).1 z hz)
theorem A31 {l:List Int} (h:l.Pairwise (·≤·)):Asc (ddL l):=by
 cases l with
 | nil=>simp [ddL,Asc]
 | cons y l=>exact P7 h
def E7 (l:List Int):List Int:=l.mergeSort fun x y=>decide (x≤y)
theorem A0e (l:List Int) (x:Int):x∈E7 l↔x∈l:=List.mem_mergeSort
theorem Fq (l:List Int):(E7 l).length=l.length:=List.length_mergeSort l
theorem A32 (l:List Int):(E7 l).Pairwise (·≤·):=by
 have:=List.pairwise_mergeSort (le:=fun x y:Int=>decide (x≤y)) (fun a b c h1 h2=>by simp at h1 h2 ⊢;omega) (fun a b=>by simp;omega) l
 exact this.imp (fun h=>by simpa using h)
theorem Ia : ∀(a:List Int) (p x:Int),ddA p (a++[x])=ddA p a++(if x=(p::a).getLast (by simp) then [] else [x])
 | [],p,x=>by by_cases h:x=p<;>simp [ddA,h]
 | y::a,p,x=>by
  rw [List.cons_append,ddA,ddA,Ia a p x,Ia a y x]
  have e1:(p::y::a).getLast (by simp)=(y::a).getLast (by simp):=by rw [List.getLast_cons (by simp)]
  rw [e1]
  by_cases h:y=p
  ·subst h;rw [if_pos rfl,if_pos rfl]
  ·rw [if_neg h,if_neg h];rfl
theorem Rr {l:List Int} {m:Nat} {x y:Int} (hx:l[m+1]?=some x) (hy:l[m]?=some y):ddL (l.take (m+2))=ddL (l.take (m+1))++(if x=y then [] else [x]):=by
 rw [Ae hx]
 cases l with
 | nil=>simp at hx
 | cons z l=>
  rw [List.take_succ_cons,List.cons_append,ddL,ddL,Ia]
  have hm:m<(z::l.take m).length:=by
   have:=(List.getElem?_eq_some_iff.1 hx).1
   simp only [List.length_cons,List.length_take] at this ⊢
   omega
  have hlen:(z::l.take m).length-1=m:=by
   have:=(List.getElem?_eq_some_iff.1 hx).1
   simp only [List.length_cons,List.length_take] at this ⊢
   omega
  have:(z::l.take m).getLast (by simp)=y:=by
   have h2:(z::l.take m)[m]?=some y:=by
    rw [←List.take_succ_cons,List.getElem?_take,if_pos (by omega)]
    exact hy
   rw [List.getLast_eq_getElem]
   rw [List.getElem?_eq_getElem hm] at h2
   have h3:=Option.some.inj h2
   simp only [hlen]
   exact h3
  rw [this];rfl
theorem Vj (l:List Int):(ddL l).length≤l.length:=by
 cases l with
 | nil=>simp [ddL]
 | cons z l=>
  have : ∀(l:List Int) (p:Int),(ddA p l).length≤l.length:=by
   intro l
   induction l with
   | nil=>intro p;simp [ddA]
   | cons y l ih=>
    intro p
    rw [ddA]
    split
    ·have:=ih p;simp;omega
    ·have:=ih y;simp;omega
  have:=this l z
  simp [ddL];omega
def Dk (r:Rul):Bool:=decide (Bo (fun _=>true) r.pair [] r.stmts=0)
def Ei (p:List Rul):Bool:=Ho p&&p.all Dk&&decide ((p.map (·.name)).Nodup)
def C6 (l:List Int):List Account:=l.map fun c=>⟨c,1,1,0⟩
theorem A0f (l:List Int) (c:Int):(Cht.findS (C6 l) c).isSome=decide (c∈l):=by
 unfold Cht.findS C6
 rw [Bool.eq_iff_iff,List.find?_isSome,decide_eq_true_eq]
 constructor
 ·rintro ⟨x,hx,h⟩
  obtain⟨y,hy,rfl⟩:=List.mem_map.1 hx
  have:y=c:=by simpa using h
  rw [←this];exact hy
 ·intro h
  exact⟨_,List.mem_map.2 ⟨c,h,rfl⟩,by simp⟩
theorem Xo {l:List Int} (h:Asc l) (hl:l.length≤200) (ha : ∀c∈l,1≤c∧c≤99999):Cht.validR (C6 l) true=true:=by
 rw [←Cht.valid_agree]
 unfold Cht.validP
 rw [Bool.and_eq_true,Cht.steps_all]
 refine⟨by simpa [C6] using hl,fun k hk=>?_,fun a hm=>?_⟩
 ·unfold Cht.incB
  rcases Nat.eq_zero_or_pos k with rfl|h0
  ·rfl
  ·have hk':k<l.length:=by simpa [C6] using hk
   have hp:=List.pairwise_iff_getElem.1 h (k-1) k (by omega) hk' (by omega)
   have e : ∀j (hj:j<l.length),((C6 l).getD j Cht.acc0).code=l[j]:=fun j hj=>by
    rw [List.getD_eq_getElem?_getD];simp [C6,hj]
   rw [e _ hk',e _ (by omega),decide_eq_true hp,Bool.or_true]
 ·obtain⟨c,hc,rfl⟩:=List.mem_map.1 hm
  obtain⟨h1,h2⟩:=ha c hc
  simp [Cht.goodP,Cht.okB,Cht.fldB,h1,h2]
theorem U7 {known:Int→Bool} {q:List UInt8→Bool} {pair:Bool} {s:Stm} (h:s.kind=3→known s.acc=true):F1 known q pair s=F1 (fun _=>true) q pair s:=by
 unfold F1
 have:(s.kind=3∧known s.acc=false)↔(s.kind=3∧(true=false)):=by
  constructor
  ·rintro ⟨a,b⟩;rw [h a] at b;cases b
  ·rintro ⟨_,b⟩;cases b
 simp only [this]
theorem Kp {known:Int→Bool} {pair:Bool} : ∀{ss:List Stm} {M:List (List UInt8)},(∀s∈ss,s.kind=3→known s.acc=true)→Bo known pair M ss=Bo (fun _=>true) pair M ss
 | [],M,_=>rfl
 | s::ss,M,h=>by
  rw [Bo,Bo,U7 (h s (by simp)),Kp fun x hx=>h x (by simp [hx])]
theorem A33 {r:Rul} (h:Cs r=true):U5 [r] (C6 (ddL (E7 (Bj [r]))))=(0,Bo (fun _=>true) r.pair [] r.stmts):=by
 have hb:=h
 unfold Cs at hb
 simp only [Bool.and_eq_true,decide_eq_true_eq,List.all_eq_true] at hb
 obtain⟨⟨⟨_,hlen⟩,hto⟩,hst⟩:=hb
 have hm : ∀c,c∈ddL (E7 (Bj [r]))↔c=r.to∨c∈Ee r.stmts:=fun c=>by
  rw [A30,A0e];simp [Bj]
 have hkn : ∀c,Bh (C6 (ddL (E7 (Bj [r])))) c=decide (c=r.to∨c∈Ee r.stmts):=fun c=>by
  unfold Bh;rw [A0f,decide_eq_decide];exact hm c
 have hacc : ∀s∈r.stmts,s.kind=3→s.acc∈Ee r.stmts:=fun s hs hk=>List.mem_map.2 ⟨s,List.mem_filter.2 ⟨hs,by simp [hk]⟩,rfl⟩
 have hval:Cht.validR (C6 (ddL (E7 (Bj [r])))) true=true:=by
  refine Xo (A31 (A32 _)) ?_ fun c hc=>?_
  ·have h1:=Vj (E7 (Bj [r]))
   have h2:=Jk r.stmts
   rw [Fq] at h1
   simp [Bj] at h1 ⊢
   omega
  ·rcases (hm c).1 hc with rfl|hc
   ·simpa [acB] using hto
   ·obtain⟨s,hs,rfl⟩:=List.mem_map.1 hc
    obtain⟨hs,hk⟩:=List.mem_filter.1 hs
    have hk:s.kind=3:=by simpa using hk
    have:=hst s hs
    unfold Dl Ly at this
    rw [if_neg (by omega),if_neg (by omega),if_pos hk] at this
    simp only [Bool.and_eq_true] at this
    simpa [acB] using this.1.1.2
 unfold U5
 rw [if_pos ⟨by unfold Ho;simp [h],hval⟩]
 have hrul:K4 (Bh (C6 (ddL (E7 (Bj [r]))))) r=Bo (fun _=>true) r.pair [] r.stmts:=by
  have h1:=Kp (known:=Bh (C6 (ddL (E7 (Bj [r]))))) (pair:=r.pair) (ss:=r.stmts) (M:=[]) fun s hs hk=>by rw [hkn];simp [hacc s hs hk]
  have h2:Bh (C6 (ddL (E7 (Bj [r])))) r.to=true:=by rw [hkn];simp
  unfold K4
  rw [h1,if_pos h2]
  split
  ·rfl
  ·rename_i q;exact (Classical.not_not.1 q).symm
 rw [Hu,if_neg (by simp),hrul,Hu]
 by_cases he:Bo (fun _=>true) r.pair [] r.stmts=0
 ·rw [if_neg (fun q=>q he),he]
 ·rw [if_pos he];rfl
theorem A0g (M:List (List UInt8)):inS M=C9 M:=by
 funext s
 unfold inS C9
 rw [Bool.eq_iff_iff]
 simp
@[simp] abbrev Ml (i:Nat) (l:List (List UInt8)):V:=.own i 9 1 (l.map fun y=>[T.str y])
theorem A65 (r:Rul) (hss:r.stmts.length≤1000):A4 Tryz.prog 88 [r.v] (vB (Dk r)):=by
 obtain⟨nm,pair,ss,to⟩:=r
 simp only [] at hss
 generalize hR:Dk ⟨nm,pair,ss,to⟩=R
 unfold Dk at hR
 simp only [] at hR
 have hrc:Rul.c ⟨nm,pair,ss,to⟩=[T.str nm,T.bool pair,T.sl (ss.map Stm.c),T.int .i64 to]:=rfl
 (refine A4.of_code mix Tryz.call88 k_88 (by simp) (fun hB=>?_);(try simp at hB);(try simp -implicitDefEqProofs))
 (try simp -implicitDefEqProofs [hrc])
 refine Av [(.slot 3,9,1)] (X:=Nat) (fun k=>k≤ss.length∧Bo (fun _=>true) pair (Af (ss.take k)) (ss.drop k)=Bo (fun _=>true) pair [] ss) (fun k=>[(1,.ptr 0 0),(3,Ml 0 (Af (ss.take k))),(4,vI k)])
  (fun k=>⟨[.cells [vS nm,vB pair,Stm.l ss,vI to]],[(Af (ss.take k)).length]⟩) (fun k=>ss.length-k) 0 ⟨by simp,by simp [Af]⟩ (by simp [Af,Ml]) ?_
 rintro k ⟨hk,hi⟩ hbd
 clear hbd
 rcases Nat.lt_or_ge k ss.length with h|h
 ·have hx:ss[k]?=some ss[k]:=by simp [h]
  have e3:IntKind.i64.wrap ((k:Int)+1)=(k:Int)+1:=wrap64 (by omega) (by omega)
  have hn:=Gd hx
  rw [Rq hx] at hi
  have hlen:(Af (ss.take k)).length≤1000:=by
   have:(Af (ss.take k)).length≤(ss.take k).length:=by unfold Af;rw [List.length_map];exact List.length_filter_le _ _
   simp at this;omega
  generalize hM:Af (ss.take k)=M at *
  obtain⟨kd,acc,sn,x,hs⟩ : ∃kd acc sn x,ss[k]=⟨kd,acc,sn,x⟩:=⟨_,_,_,_,rfl⟩
  have hsk:(ss.map Stm.c)[k]?=some (.int .i64 kd::.int .i64 acc::.str sn::x.c):=by simp [h,hs,Stm.c]
  have hcc:Stm.c ⟨kd,acc,sn,x⟩=(.int .i64 kd::.int .i64 acc::.str sn::x.c):=rfl
  have hlc:=D5 x
  have htc:=C3 x
  have hinf:=A2t M pair x
  rw [A0g] at hinf
  rw [hs] at hi hn
  unfold F1 at hi
  simp only [] at hi
  generalize x.inf (C9 M) pair=te at *
  obtain⟨t,e⟩:=te
  simp only [] at hi hinf
  simp only [vSL] at hinf
  by_cases he:e=0
  case neg=>
   have he':(e != 0)=true:=by simpa using he
   have he2:(e==0)=false:=by simpa using he
   rw [if_pos he,if_pos he] at hi
   rw [←hi,decide_eq_false he] at hR
   subst hR
   ((try simp at hinf);(try simp -implicitDefEqProofs [h,hs,hsk,hcc,hlc,htc,he',he2]);repeat' first|(with_reducible apply A0<;>first|(simp only [eras,era,A1];first|with_reducible assumption)|(simp -implicitDefEqProofs [h,hs,hsk,hcc,hlc,htc,he',he2])))
  subst he
  simp only [ne_eq,not_true_eq_false,if_false,bne_iff_ne] at hi
  have big:(M.length+1≤maxLen∧(M.length+1)*16≤140737488355328):=⟨by unfold maxLen;omega,by omega⟩
  by_cases ht:(t==2)=(kd==2)
  case neg=>
   have ht':(!((t==2)==(kd==2)))=true:=by simpa using ht
   rw [if_pos ht,if_pos (by decide)] at hi
   rw [←hi] at hR
   subst hR
   ((try simp at hinf);(try simp -implicitDefEqProofs [h,hs,hsk,hcc,hlc,htc,e3,ht']);repeat' first|(with_reducible apply A0<;>first|(simp only [eras,era,A1];first|with_reducible assumption)|(simp -implicitDefEqProofs [h,hs,hsk,hcc,hlc,htc,e3,ht'])))
  have ht':(!((t==2)==(kd==2)))=false:=by simpa using ht
  rw [if_neg (show ¬¬(t==2)=(kd==2) from fun q=>q ht),if_neg (show ¬(kd=3∧true=false) from fun q=>by cases q.2)] at hi
  have hokc : ∀a b,okNs a b (x.c.map V.t)=true:=fun a b=>At (fun v hv=>by obtain⟨t,_,rfl⟩:=List.mem_map.1 hv;rfl)
  by_cases k1:kd=1
  ·subst k1
   have hN:Af [⟨1,acc,sn,x⟩]=[sn]:=rfl
   rw [hN] at hn hi
   have ht2:(t==2)=false:=by simpa using ht
   have ht3 : ¬t=2:=by simpa using ht2
   ((try simp at hinf);(try simp -implicitDefEqProofs [h,hs,hsk,hcc,hlc,htc,e3,ht2,ht3]);repeat' first|(with_reducible apply A0<;>first|(simp only [eras,era,A1];first|with_reducible assumption)|(simp -implicitDefEqProofs [h,hs,hsk,hcc,hlc,htc,e3,ht2,ht3])))
   refine A9 (X:=Nat) (fun j=>j≤M.length∧sn∉M.take j) (fun j=>[(1,.ptr 0 0),(3,Ml 0 M),(4,vI k),(5,.ptr 1 0),(8,vI j)])
    (fun j=>⟨[.cells [vS nm,vB pair,Stm.l ss,vI to],.cells (vI 1::vI acc::vS sn::x.c.map V.t)],[M.length]⟩) (fun j=>M.length-j) 0 ⟨by simp,by simp⟩ (by simp [hokc,Ml]) ?_
   rintro j ⟨hj,hjn⟩ hbd
   clear hbd
   rcases Nat.lt_or_ge j M.length with g|g
   ·obtain⟨y,gx⟩:=Ad g
    have g3:IntKind.i64.wrap ((j:Int)+1)=(j:Int)+1:=wrap64 (by omega) (by omega)
    have gs:(M.map fun s=>[T.str s])[j]?=some [.str y]:=by simp [gx]
    have gs' : ∀h,(M.map fun s=>[T.str s])[j]'h=[.str y]:=fun h=>by rw [List.getElem?_eq_getElem h] at gs;exact Option.some.inj gs
    by_cases hy:y=sn
    ·subst hy
     rw [if_pos (show (1:Int)=1∧C9 M y=true from ⟨rfl,by simpa [C9] using List.mem_of_getElem? gx⟩),if_pos (show ¬(9:Int)=0 by decide)] at hi
     rw [←hi] at hR
     subst hR
     (try simp -implicitDefEqProofs [g,gs,gs',Ml])
    ·have hy':(y==sn)=false:=by simpa using hy
     (try simp -implicitDefEqProofs [g,gs,gs',g3,hy',Ml])
     exact⟨j+1,⟨by omega,by rw [Ae gx,List.mem_append];exact fun q=>q.elim hjn (fun q=>hy (List.mem_singleton.1 q).symm)⟩,by omega,by push_cast;rfl⟩
   ·have hjl:j=M.length:=by omega
    subst hjl
    rw [List.take_length] at hjn
    rw [if_neg (show ¬((1:Int)=1∧C9 M sn=true) from fun q=>by have:=q.2;rw [C9,decide_eq_true_eq] at this;exact hjn this),if_neg (show ¬¬(0:Int)=0 by simp)] at hi
    (try simp -implicitDefEqProofs [g,e3,Ml])
    exact⟨big,k+1,⟨by omega,by rw [hn];exact hi⟩,by omega,by rw [hn];simp,by rw [hn,List.map_append];exact leA.refl _,by push_cast;rfl⟩
  ·have k1':(kd==1)=false:=by simpa using k1
   have hN:Af [⟨kd,acc,sn,x⟩]=[]:=by simp [Af,k1]
   rw [hN,List.append_nil] at hn hi
   rw [if_neg (show ¬(kd=1∧C9 M sn=true) from fun q=>k1 q.1),if_neg (show ¬¬(0:Int)=0 by simp)] at hi
   ((try simp at hinf);(try simp -implicitDefEqProofs [h,hs,hsk,hcc,hlc,htc,e3,ht']);repeat' first|(with_reducible apply A0<;>first|(simp only [eras,era,A1];first|with_reducible assumption)|(simp -implicitDefEqProofs [h,hs,hsk,hcc,hlc,htc,e3,ht'])))
   refine A9 (X:=Nat) (fun j=>j=0) (fun j=>[(1,.ptr 0 0),(3,Ml 0 M),(4,vI k),(5,.ptr 1 0),(8,vI j)])
    (fun j=>⟨[.cells [vS nm,vB pair,Stm.l ss,vI to],.cells (vI kd::vI acc::vS sn::x.c.map V.t)],[M.length]⟩) (fun j=>M.length-j) 0 rfl (by simp [hokc,Ml]) ?_
   rintro j rfl hbd
   clear hbd
   have hand:(decide (0<M.length)&&false)=false:=by simp
   rcases Nat.eq_zero_or_pos M.length with g|g
   ·(try simp -implicitDefEqProofs [g,k1',k1,e3,Ml])
    exact⟨k+1,⟨by omega,by rw [hn];exact hi⟩,by omega,by rw [hn,g],by rw [hn];exact leA.refl _,by push_cast;rfl⟩
   ·(try simp -implicitDefEqProofs [g,k1',k1,e3,Ml])
    exact⟨k+1,⟨by omega,by rw [hn];exact hi⟩,by omega,by rw [hn],by rw [hn];exact leA.refl _,by push_cast;rfl⟩
 ·have:k=ss.length:=by omega
  subst this
  rw [List.drop_length,Bo] at hi
  rw [←hi] at hR
  subst hR
  (try simp -implicitDefEqProofs [h])
end Go.Proofs.YtmlpmdccfmmpoaaGreatDoor
