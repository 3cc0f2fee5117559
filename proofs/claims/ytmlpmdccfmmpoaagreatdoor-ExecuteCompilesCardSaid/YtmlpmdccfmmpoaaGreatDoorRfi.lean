/- Chapter 35's reference: fine. -/
import Derived.Test.YtmlpmdccfmmpoaaGreatDoorExp
import Derived.Test.YtmlpmdccfmmpoaaGreatDoorSyf
import Derived.Test.YtmlpmdccfmmpoaaGreatDoorCht
import Derived.Test.YtmlpmdccfmmpoaaGreatDoorInf
set_option linter.unusedSimpArgs false
set_option linter.unusedVariables false
set_option maxHeartbeats 4000000
set_option maxRecDepth 8000
section
section
section
set_option linter.unusedSimpArgs false
set_option linter.unusedVariables false
set_option maxHeartbeats 4000000
set_option maxRecDepth 8000
namespace Go.Proofs.YtmlpmdccfmmpoaaGreatDoor
open E

theorem Xg (b:Nat) (B:List Bx) (hle : ∀n m,B.length≤n→Aa n m B B):FnS Tryz.prog 63 [.ptr b 0,.t .nili] ⟨B,[]⟩ (.tup []) ⟨B,[]⟩:=by
 have h0:=hle B.length 0 (Nat.le_refl _)
 (refine FnS.of_code mix Tryz.call63 k_63 (by simp) (fun hB=>?_);(try simp at hB);(try simp -implicitDefEqProofs))
 (try simp -implicitDefEqProofs [h0])
theorem Nq (b:Nat) (B:List Bx) (e0 e:Int) (hb:B[b]?=some (.cells [vI e0])) (hle : ∀n m,B.length≤n→Aa n m (B.set b (.cells [vI e])) (B.set b (.cells [vI e]))):FnS Tryz.prog 63 [.ptr b 0,Ev e] ⟨B,[]⟩ (.tup []) ⟨B.set b (.cells [vI e]),[]⟩:=by
 have h0:=hle B.length 0 (Nat.le_refl _)
 unfold Ev
 (refine FnS.of_code mix Tryz.call63 k_63 (by simp) (fun hB=>?_);(try simp at hB);(try simp -implicitDefEqProofs))
 (try simp -implicitDefEqProofs [h0,hb])
end Go.Proofs.YtmlpmdccfmmpoaaGreatDoor
end

/- Chapter 33: check.Type (begun). -/
section
set_option linter.unusedSimpArgs false
set_option linter.unusedVariables false
set_option maxHeartbeats 4000000
set_option maxRecDepth 8000
namespace Go.Proofs.YtmlpmdccfmmpoaaGreatDoor
open E

end Go.Proofs.YtmlpmdccfmmpoaaGreatDoor
end

/- Chapter 33: both Types. -/
section
set_option linter.unusedSimpArgs false
set_option linter.unusedVariables false
set_option maxHeartbeats 4000000
set_option maxRecDepth 8000
namespace Go.Proofs.YtmlpmdccfmmpoaaGreatDoor
open E

end Go.Proofs.YtmlpmdccfmmpoaaGreatDoor
end
end

/- Chapter 33: what Check says: the errors of statements, rules and programs. -/
section
set_option linter.unusedSimpArgs false
set_option linter.unusedVariables false
set_option maxHeartbeats 1000000
set_option maxRecDepth 8000
namespace Go.Proofs.YtmlpmdccfmmpoaaGreatDoor
open E

def Af (ss:List Stm):List (List UInt8):=(ss.filter fun s=>s.kind==1).map (·.name)
def D9 (known:Int→Bool) (q:List UInt8→Bool) (pair:Bool) (s:Stm):Int:=
 if (s.ex.inf q pair).2≠0 then (s.ex.inf q pair).2 else if ((s.ex.inf q pair).1==2) != (s.kind==2) then 16 else
 if s.kind=1∧q s.name=true then 9 else if s.kind=3∧known s.acc=false then 8 else 0
def Cf (M:List (List UInt8)):List UInt8→Bool:=fun s=>decide (s∈M)
def Bh (known:Int→Bool) (pair:Bool):List (List UInt8)→List Stm→Int
 | _,[]=>0
 | M,s::ss=>if D9 known (Cf M) pair s≠0 then D9 known (Cf M) pair s else Bh known pair (M++Af [s]) ss
def Fy (known:Int→Bool) (r:Rul):Int:=if Bh known r.pair [] r.stmts≠0 then Bh known r.pair [] r.stmts else if known r.to=true then 0 else 8
def Ew (known:Int→Bool):List (List UInt8)→Nat→List Rul→Int×Int
 | _,_,[]=>(0,0)
 | M,i,r::rs=>if r.name∈M then ((i:Int),9) else if Fy known r≠0 then ((i:Int),Fy known r) else Ew known (M++[r.name]) (i+1) rs
def Be (l:List Account) (code:Int):Bool:=(Cht.findS l code).isSome
def G8 (p:List Rul) (l:List Account):Int×Int:=if Kn p=true∧Cht.validR l true=true then Ew (Be l) [] 0 p else (0,1)

theorem J5 {ss:List Stm} {k:Nat} {s:Stm} (h:ss[k]?=some s):Af (ss.take (k+1))=Af (ss.take k)++Af [s]:=by
 rw [Ag h];simp [Af]
theorem Ri {known:Int→Bool} {pair:Bool} {M:List (List UInt8)} {ss:List Stm} {k:Nat} {s:Stm} (h:ss[k]?=some s) :
  Bh known pair M (ss.drop k)=if D9 known (Cf M) pair s≠0 then D9 known (Cf M) pair s else Bh known pair (M++Af [s]) (ss.drop (k+1)):=by
 obtain⟨hlt,rfl⟩:=List.getElem?_eq_some_iff.1 h
 rw [List.drop_eq_getElem_cons hlt,Bh]
theorem A04 {known:Int→Bool} {M:List (List UInt8)} {i:Nat} {p:List Rul} {k:Nat} {r:Rul} (h:p[k]?=some r) :
  Ew known M i (p.drop k)=if r.name∈M then ((i:Int),9) else if Fy known r≠0 then ((i:Int),Fy known r) else Ew known (M++[r.name]) (i+1) (p.drop (k+1)):=by
 obtain⟨hlt,rfl⟩:=List.getElem?_eq_some_iff.1 h
 rw [List.drop_eq_getElem_cons hlt,Ew]
end Go.Proofs.YtmlpmdccfmmpoaaGreatDoor
end
end
namespace Go.Proofs.YtmlpmdccfmmpoaaGreatDoor
open E
def E4 (ss:List Stm):List Int:=(ss.filter fun s=>s.kind==3).map (·.acc)
def Bi (p:List Rul):List Int:=p.flatMap fun r=>r.to::E4 r.stmts
def ddA:Int→List Int→List Int
 | _,[]=>[]
 | p,x::l=>if x=p then ddA p l else x::ddA x l
def ddL:List Int→List Int
 | []=>[]
 | x::l=>x::ddA x l
def Asc (l:List Int):Prop:=l.Pairwise (· < ·)

theorem Xh {ss:List Stm} {k:Nat} {s:Stm} (h:ss[k]?=some s):E4 (ss.take (k+1))=E4 (ss.take k)++E4 [s]:=by
 rw [Ag h];simp [E4]
theorem Tz {p:List Rul} {k:Nat} {r:Rul} (h:p[k]?=some r):Bi (p.take (k+1))=Bi (p.take k)++(r.to::E4 r.stmts):=by
 rw [Ag h];simp [Bi]
theorem J6 (ss:List Stm):(E4 ss).length≤ss.length:=by
 unfold E4;rw [List.length_map];exact List.length_filter_le _ _
theorem Js : ∀(p:List Rul) (m:Nat),(∀r∈p,r.stmts.length≤m)→(Bi p).length≤p.length*(m+1)
 | [],m,_=>by simp [Bi]
 | r::p,m,h=>by
  have h1:=Js p m (fun x hx=>h x (by simp [hx]))
  have h2:=J6 r.stmts
  have h3:=h r (by simp)
  simp only [Bi,List.flatMap_cons,List.length_append,List.length_cons] at h1 ⊢
  rw [Nat.add_mul];omega
theorem Oy : ∀(l:List Int) (p x:Int),x∈ddA p l∨x=p↔x∈l∨x=p
 | [],p,x=>by simp [ddA]
 | y::l,p,x=>by
  rw [ddA]
  split
  ·rename_i h
   subst h
   rw [Oy l y x,List.mem_cons]
   constructor
   ·rintro (h|h)
    ·exact .inl (.inr h)
    ·exact .inr h
   ·rintro ((h|h)|h)
    ·exact .inr h
    ·exact .inl h
    ·exact .inr h
  ·have:=Oy l y x
   simp only [List.mem_cons]
   constructor
   ·rintro ((h|h)|h)
    ·exact .inl (.inl h)
    ·rcases this.1 (.inl h) with h|h
     ·exact .inl (.inr h)
     ·exact .inl (.inl h)
    ·exact .inr h
   ·rintro ((h|h)|h)
    ·exact .inl (.inl h)
    ·rcases this.2 (.inl h) with h|h
     ·exact .inl (.inr h)
     ·exact .inl (.inl h)
    ·exact .inr h
theorem A2q (l:List Int) (x:Int):x∈ddL l↔x∈l:=by
 cases l with
 | nil=>simp [ddL]
 | cons y l=>
  have:=Oy l y x
  simp only [ddL,List.mem_cons]
  constructor
  ·rintro (h|h)
   ·exact .inl h
   ·exact (this.1 (.inl h)).symm
  ·rintro (h|h)
   ·exact .inl h
   ·exact (this.2 (.inl h)).symm
theorem Oz : ∀{l:List Int} {p:Int},(p::l).Pairwise (·≤·)→Asc (p::ddA p l)
 | [],p,h=>by simp [ddA,Asc]
 | y::l,p,h=>by
  have h1:=List.pairwise_cons.1 h
  have h2:=List.pairwise_cons.1 h1.2
  rw [ddA]
  split
  ·rename_i e
   subst e
   exact Oz (List.pairwise_cons.2 ⟨h2.1,h2.2⟩)
  ·rename_i e
   have hr:=Oz (l:=l) (p:=y) h1.2
   have hpy:p<y:=by have:=h1.1 y (by simp);omega
   refine List.pairwise_cons.2 ⟨fun z hz=>?_,hr⟩
   rcases List.mem_cons.1 hz with rfl|hz
   ·exact hpy
   ·exact Int.lt_trans hpy ((List.pairwise_cons.1 hr).1 z hz)
theorem A2r {l:List Int} (h:l.Pairwise (·≤·)):Asc (ddL l):=by
 cases l with
 | nil=>simp [ddL,Asc]
 | cons y l=>exact Oz h
def Dw (l:List Int):List Int:=l.mergeSort fun x y=>decide (x≤y)
theorem A05 (l:List Int) (x:Int):x∈Dw l↔x∈l:=List.mem_mergeSort
theorem Fe (l:List Int):(Dw l).length=l.length:=List.length_mergeSort l
theorem A2s (l:List Int):(Dw l).Pairwise (·≤·):=by
 have:=List.pairwise_mergeSort (le:=fun x y:Int=>decide (x≤y)) (fun a b c h1 h2=>by simp at h1 h2 ⊢;omega) (fun a b=>by simp;omega) l
 exact this.imp (fun h=>by simpa using h)
theorem I1 : ∀(a:List Int) (p x:Int),ddA p (a++[x])=ddA p a++(if x=(p::a).getLast (by simp) then [] else [x])
 | [],p,x=>by by_cases h:x=p<;>simp [ddA,h]
 | y::a,p,x=>by
  rw [List.cons_append,ddA,ddA,I1 a p x,I1 a y x]
  have e1:(p::y::a).getLast (by simp)=(y::a).getLast (by simp):=by rw [List.getLast_cons (by simp)]
  rw [e1]
  by_cases h:y=p
  ·subst h;rw [if_pos rfl,if_pos rfl]
  ·rw [if_neg h,if_neg h];rfl
theorem Rj {l:List Int} {m:Nat} {x y:Int} (hx:l[m+1]?=some x) (hy:l[m]?=some y):ddL (l.take (m+2))=ddL (l.take (m+1))++(if x=y then [] else [x]):=by
 rw [Ag hx]
 cases l with
 | nil=>simp at hx
 | cons z l=>
  rw [List.take_succ_cons,List.cons_append,ddL,ddL,I1]
  have hm:m<(z::l.take m).length:=by
   have:=(List.getElem?_eq_some_iff.1 hx).1
   simp only [List.length_cons,List.length_take] at this ⊢
   omega
  have hlen:(z::l.take m).length-1=m:=by
   have:=(List.getElem?_eq_some_iff.1 hx).1
   simp only [List.length_cons,List.length_take] at this ⊢
   omega
  have:(z::l.take m).getLast (by simp)=y:=by
   have h2:(z::l.take m)[m]?=some y:=by
    rw [←List.take_succ_cons,List.getElem?_take,if_pos (by omega)]
    exact hy
   rw [List.getLast_eq_getElem]
   rw [List.getElem?_eq_getElem hm] at h2
   have h3:=Option.some.inj h2
   simp only [hlen]
   exact h3
  rw [this];rfl
theorem V7 (l:List Int):(ddL l).length≤l.length:=by
 cases l with
 | nil=>simp [ddL]
 | cons z l=>
  have : ∀(l:List Int) (p:Int),(ddA p l).length≤l.length:=by
   intro l
   induction l with
   | nil=>intro p;simp [ddA]
   | cons y l ih=>
    intro p
    rw [ddA]
    split
    ·have:=ih p;simp;omega
    ·have:=ih y;simp;omega
  have:=this l z
  simp [ddL];omega
def G6 (r:Rul):Bool:=decide (Bh (fun _=>true) r.pair [] r.stmts=0)
def Jt (p:List Rul):Bool:=Kn p&&p.all G6&&decide ((p.map (·.name)).Nodup)
def Bz (l:List Int):List Account:=l.map fun c=>⟨c,1,1,0⟩
theorem A06 (l:List Int) (c:Int):(Cht.findS (Bz l) c).isSome=decide (c∈l):=by
 unfold Cht.findS Bz
 rw [Bool.eq_iff_iff,List.find?_isSome,decide_eq_true_eq]
 constructor
 ·rintro ⟨x,hx,h⟩
  obtain⟨y,hy,rfl⟩:=List.mem_map.1 hx
  have:y=c:=by simpa using h
  rw [←this];exact hy
 ·intro h
  exact⟨_,List.mem_map.2 ⟨c,h,rfl⟩,by simp⟩
theorem Xi {l:List Int} (h:Asc l) (hl:l.length≤200) (ha : ∀c∈l,1≤c∧c≤99999):Cht.validR (Bz l) true=true:=by
 rw [←Cht.valid_agree]
 unfold Cht.validP
 rw [Bool.and_eq_true,Cht.steps_all]
 refine⟨by simpa [Bz] using hl,fun k hk=>?_,fun a hm=>?_⟩
 ·unfold Cht.incB
  rcases Nat.eq_zero_or_pos k with rfl|h0
  ·rfl
  ·have hk':k<l.length:=by simpa [Bz] using hk
   have hp:=List.pairwise_iff_getElem.1 h (k-1) k (by omega) hk' (by omega)
   have e : ∀j (hj:j<l.length),((Bz l).getD j Cht.acc0).code=l[j]:=fun j hj=>by
    rw [List.getD_eq_getElem?_getD];simp [Bz,hj]
   rw [e _ hk',e _ (by omega),decide_eq_true hp,Bool.or_true]
 ·obtain⟨c,hc,rfl⟩:=List.mem_map.1 hm
  obtain⟨h1,h2⟩:=ha c hc
  simp [Cht.goodP,Cht.okB,Cht.fldB,h1,h2]
theorem U0 {known:Int→Bool} {q:List UInt8→Bool} {pair:Bool} {s:Stm} (h:s.kind=3→known s.acc=true):D9 known q pair s=D9 (fun _=>true) q pair s:=by
 unfold D9
 have:(s.kind=3∧known s.acc=false)↔(s.kind=3∧(true=false)):=by
  constructor
  ·rintro ⟨a,b⟩;rw [h a] at b;cases b
  ·rintro ⟨_,b⟩;cases b
 simp only [this]
theorem Ke {known:Int→Bool} {pair:Bool} : ∀{ss:List Stm} {M:List (List UInt8)},(∀s∈ss,s.kind=3→known s.acc=true)→Bh known pair M ss=Bh (fun _=>true) pair M ss
 | [],M,_=>rfl
 | s::ss,M,h=>by
  rw [Bh,Bh,U0 (h s (by simp)),Ke fun x hx=>h x (by simp [hx])]
theorem A2t {r:Rul} (h:D7 r=true):G8 [r] (Bz (ddL (Dw (Bi [r]))))=(0,Bh (fun _=>true) r.pair [] r.stmts):=by
 have hb:=h
 unfold D7 at hb
 simp only [Bool.and_eq_true,decide_eq_true_eq,List.all_eq_true] at hb
 obtain⟨⟨⟨_,hlen⟩,hto⟩,hst⟩:=hb
 have hm : ∀c,c∈ddL (Dw (Bi [r]))↔c=r.to∨c∈E4 r.stmts:=fun c=>by
  rw [A2q,A05];simp [Bi]
 have hkn : ∀c,Be (Bz (ddL (Dw (Bi [r])))) c=decide (c=r.to∨c∈E4 r.stmts):=fun c=>by
  unfold Be;rw [A06,decide_eq_decide];exact hm c
 have hacc : ∀s∈r.stmts,s.kind=3→s.acc∈E4 r.stmts:=fun s hs hk=>List.mem_map.2 ⟨s,List.mem_filter.2 ⟨hs,by simp [hk]⟩,rfl⟩
 have hval:Cht.validR (Bz (ddL (Dw (Bi [r])))) true=true:=by
  refine Xi (A2r (A2s _)) ?_ fun c hc=>?_
  ·have h1:=V7 (Dw (Bi [r]))
   have h2:=J6 r.stmts
   rw [Fe] at h1
   simp [Bi] at h1 ⊢
   omega
  ·rcases (hm c).1 hc with rfl|hc
   ·simpa [acB] using hto
   ·obtain⟨s,hs,rfl⟩:=List.mem_map.1 hc
    obtain⟨hs,hk⟩:=List.mem_filter.1 hs
    have hk:s.kind=3:=by simpa using hk
    have:=hst s hs
    unfold F2 Tw at this
    rw [if_neg (by omega),if_neg (by omega),if_pos hk] at this
    simp only [Bool.and_eq_true] at this
    simpa [acB] using this.1.1.2
 unfold G8
 rw [if_pos ⟨by unfold Kn;simp [h],hval⟩]
 have hrul:Fy (Be (Bz (ddL (Dw (Bi [r]))))) r=Bh (fun _=>true) r.pair [] r.stmts:=by
  have h1:=Ke (known:=Be (Bz (ddL (Dw (Bi [r]))))) (pair:=r.pair) (ss:=r.stmts) (M:=[]) fun s hs hk=>by rw [hkn];simp [hacc s hs hk]
  have h2:Be (Bz (ddL (Dw (Bi [r])))) r.to=true:=by rw [hkn];simp
  unfold Fy
  rw [h1,if_pos h2]
  split
  ·rfl
  ·rename_i q;exact (Classical.not_not.1 q).symm
 rw [Ew,if_neg (by simp),hrul,Ew]
 by_cases he:Bh (fun _=>true) r.pair [] r.stmts=0
 ·rw [if_neg (fun q=>q he),he]
 ·rw [if_pos he];rfl
@[simp] abbrev A87 (i:Nat) (l:List (List UInt8)):V:=.own i 9 1 (l.map fun y=>[T.str y])

end Go.Proofs.YtmlpmdccfmmpoaaGreatDoor
