/- Chapter 35: a folded code posts what the code posts; plain. -/
import Derived.Test.YtmlpmdccfmmpoaaGreatDoorPsa
import Derived.Test.YtmlpmdccfmmpoaaGreatDoorRfi
import Derived.Test.YtmlpmdccfmmpoaaGreatDoorRul
import Derived.Test.YtmlpmdccfmmpoaaGreatDoorRco
import Derived.Test.YtmlpmdccfmmpoaaGreatDoorIpX
import Derived.Test.YtmlpmdccfmmpoaaGreatDoorLba
import Derived.Test.YtmlpmdccfmmpoaaGreatDoorPrg
import Derived.Test.YtmlpmdccfmmpoaaGreatDoorExV
import Derived.Test.YtmlpmdccfmmpoaaGreatDoorExQ
set_option linter.unusedSimpArgs false
set_option linter.unusedVariables false
set_option maxHeartbeats 4000000
set_option maxRecDepth 8000
namespace Go.Proofs.YtmlpmdccfmmpoaaGreatDoor
open E
theorem A30 (p:List Rul) (hc : ∀r∈p,∀s∈r.stmts,s.ex.cnt≤100000):A7 Tryz.prog 37 [Rul.l p] (vB (Jt p)):=by
 generalize hR:Jt p=R
 have hv:=V5 p hc
 unfold Jt at hR
 by_cases h1:Kn p=true
 case neg=>
  rw [Bool.not_eq_true] at h1
  rw [h1] at hv hR
  simp only [Bool.false_and] at hR
  subst hR
  (refine A7.of_code mix Tryz.call37 k_37 (by simp) (fun hB=>?_);(try simp at hB);(try simp -implicitDefEqProofs))
  ((try simp at hv);(try simp -implicitDefEqProofs);repeat' first|(with_reducible apply A0<;>first|(simp only [eras,era,A1];first|with_reducible assumption)|(simp -implicitDefEqProofs)))
 have h3:=h1
 rw [h1] at hv hR
 rw [Bool.true_and] at hR
 unfold Kn at h3
 simp only [Bool.and_eq_true,decide_eq_true_eq,List.all_eq_true] at h3
 obtain⟨hrs,hpl⟩:=h3
 (refine A7.of_code mix Tryz.call37 k_37 (by simp) (fun hB=>?_);(try simp at hB);(try simp -implicitDefEqProofs))
 ((try simp at hv);(try simp -implicitDefEqProofs);repeat' first|(with_reducible apply A0<;>first|(simp only [eras,era,A1];first|with_reducible assumption)|(simp -implicitDefEqProofs)))
 refine Ac (X:=Nat) (fun k=>k≤p.length∧(p.take k).all G6=true∧((p.map (·.name)).take k).Nodup) (fun k=>[(3,.mp 0),(15,Rul.l p),(16,vI p.length),(17,vI k)])
  (fun k=>⟨[.mp (mS D6 (Bm ((p.map (·.name)).take k)))],[]⟩) (fun k=>p.length-k) 0 ⟨by simp,by simp,by simp⟩ (by simp [Bm]) ?_
 rintro k ⟨hk,hfi,hnd⟩ hbd
 clear hbd
 rcases Nat.lt_or_ge k p.length with h|h
 ·have hx:p[k]?=some p[k]:=by simp [h]
  have e3:IntKind.i64.wrap ((k:Int)+1)=(k:Int)+1:=wrap64 (by omega) (by omega)
  have hmem:=List.getElem_mem h
  have hrb:=hrs _ hmem
  have hone:=A2t hrb
  have hN:(p.map (·.name)).take (k+1)=(p.map (·.name)).take k++[p[k].name]:=Ag (by simp [h])
  have hlen:((p.map (·.name)).take k).length≤1000:=by simp;omega
  have hsl:p[k].stmts.length≤30:=by
   unfold D7 at hrb
   simp only [Bool.and_eq_true,decide_eq_true_eq] at hrb
   exact hrb.1.1.2
  have hpost:=A2z [p[k]] rfl (fun r hr=>by rw [List.mem_singleton.1 hr];omega)
  obtain⟨L,hL⟩ : ∃L,L=ddL (Dw (Bi [p[k]])):=⟨_,rfl⟩
  have hLl:L.length≤31:=by
   have h1:=V7 (Dw (Bi [p[k]]))
   have h2:=J6 p[k].stmts
   rw [Fe] at h1
   rw [hL]
   simp [Bi] at h1 ⊢
   omega
  rw [←hL] at hpost hone
  have hchk:=P0 [p[k]] (Bz L) (fun r hr=>by rw [List.mem_singleton.1 hr];exact hc _ hmem) (by simp [Bz];omega)
  rw [hone] at hchk
  have hall:(p.take (k+1)).all G6=G6 p[k]:=by rw [Ag hx,List.all_append,hfi];simp
  have hno:G6 p[k]=false→p.all G6=false:=fun hf=>by
   rw [Bool.eq_false_iff];intro h0
   rw [List.all_eq_true] at h0
   rw [h0 _ hmem] at hf;cases hf
  have hfd:G6 p[k]=decide (Bh (fun _=>true) p[k].pair [] p[k].stmts=0):=rfl
  obtain⟨nm,pr,ss,to,hr⟩ : ∃nm pr ss to,p[k]=⟨nm,pr,ss,to⟩:=⟨_,_,_,_,rfl⟩
  have hrk:(p.map Rul.c)[k]?=some [.str nm,.bool pr,.sl (ss.map Stm.c),.int .i64 to]:=by simp [h,hr,Rul.c]
  have hcc:p[k].c=[.str nm,.bool pr,.sl (ss.map Stm.c),.int .i64 to]:=by rw [hr];rfl
  have hdup:nm∈(p.map (·.name)).take k→¬(p.map (·.name)).Nodup:=fun hm hn=>by
   have e:(p.map (·.name))=(p.map (·.name)).take (k+1)++(p.map (·.name)).drop (k+1):=(List.take_append_drop _ _).symm
   rw [e] at hn
   have:=(List.nodup_append.1 hn).1
   rw [hN,hr] at this
   exact (List.nodup_append.1 this).2.2 nm hm nm (by simp) rfl
  rw [hr] at hN hall hno hfd hchk hpost
  generalize hE:Bh (fun _=>true) pr [] ss=E at *
  simp only [] at hN hfd hchk
  clear hone hL
  rw [hfd] at hall hno
  simp only [Rul.l,List.map_cons,List.map_nil,Rul.c] at hpost hchk
  generalize hM:(p.map (·.name)).take k=M at *
  have hfm:=Fp D6 nm (Bm M)
  rw [Ed] at hfm
  have hsm:=Lz D6 nm true (Bm M)
  have hcl:(Bz L).length=L.length:=by simp [Bz]
  ((try simp at hpost);(try simp -implicitDefEqProofs [h,hrk,hcc]);repeat' first|(with_reducible apply A0<;>first|(simp only [eras,era,A1];first|with_reducible assumption)|(simp -implicitDefEqProofs [h,hrk,hcc])))
  refine Bb [(.slot 6,189,4)] (X:=Nat) (fun j=>j≤L.length) (fun j=>[(3,.mp 0),(5,.ptr 1 0),(6,.own 0 189 4 (((Bz L).map Account.c).take j)),(15,Rul.l p),(16,vI p.length),(17,vI k),(23,A0p L),(24,vI L.length),(25,vI j)])
   (fun j=>⟨[.mp (mS D6 (Bm M)),.cells [vS nm,vB pr,Stm.l ss,vI to]],[j]⟩) (fun j=>L.length-j) 0 (by omega) ?_ ?_
  ·simp
   exact⟨Ak (fun v hv=>by obtain⟨p,_,rfl⟩:=List.mem_map.1 hv;rfl),Ak (fun v hv=>by obtain⟨p,_,rfl⟩:=List.mem_map.1 hv;rfl)⟩
  rintro j hj hbd
  clear hbd
  rcases Nat.lt_or_ge j L.length with g|g
  ·obtain⟨c,gx⟩:=Ad g
   have g3:IntKind.i64.wrap ((j:Int)+1)=(j:Int)+1:=wrap64 (by omega) (by omega)
   have gc:(L.map fun n=>[T.int .i64 n])[j]?=some [T.int .i64 c]:=by simp [gx]
   have gc' : ∀h,(L.map fun n=>[T.int .i64 n])[j]'h=[T.int .i64 c]:=fun h=>by rw [List.getElem?_eq_getElem h] at gc;exact Option.some.inj gc
   have gap:=Ag (l:=(Bz L).map Account.c) (k:=j) (x:=[.int .i64 c,.int .i64 1,.int .i64 1,.int .i64 0]) (by simp [Bz,gx,Account.c])
   have gl:(((Bz L).map Account.c).take j).length=j:=by simp [Bz];omega
   generalize ((Bz L).map Account.c).take j=A at *
   (try simp -implicitDefEqProofs [g,gc,gc',g3,gl,maxLen])
   exact⟨⟨by omega,by omega⟩,j+1,by omega,by omega,⟨⟨Ak (fun v hv=>by obtain⟨p,_,rfl⟩:=List.mem_map.1 hv;rfl),Ak (fun v hv=>by obtain⟨p,_,rfl⟩:=List.mem_map.1 hv;rfl)⟩,rfl⟩,by rw [gap];exact leA.refl _,by push_cast;rfl⟩
  ·have hj':j=L.length:=by omega
   subst hj'
   have gt:((Bz L).map Account.c).take L.length=(Bz L).map Account.c:=List.take_of_length_le (by simp [Bz])
   rw [gt]
   simp only [Account.l] at hchk
   generalize (Bz L).map Account.c=A at *
   by_cases he:E=0
   ·rw [decide_eq_true he] at hall
    subst he
    by_cases hin:nm∈M
    ·rw [if_pos hin] at hfm
     have hRf:R=false:=by
      rw [←hR,Bool.and_eq_false_iff];right;exact decide_eq_false (hdup hin)
     subst hRf
     ((try simp at hchk);(try simp -implicitDefEqProofs [h,hfm]);repeat' first|(with_reducible apply A0<;>first|(simp only [eras,era,A1];first|with_reducible assumption)|(simp -implicitDefEqProofs [h,hfm])))
    ·rw [if_neg hin] at hfm
     rw [Ht hin] at hsm
     ((try simp at hchk);(try simp -implicitDefEqProofs [h,hfm,hsm,e3]);repeat' first|(with_reducible apply A0<;>first|(simp only [eras,era,A1];first|with_reducible assumption)|(simp -implicitDefEqProofs [h,hfm,hsm,e3])))
     exact⟨by unfold maxLen;omega,k+1,⟨by omega,List.all_eq_true.1 hall,by rw [hN,List.nodup_append];exact⟨hnd,by simp,fun a ha b hb=>by rw [List.mem_singleton.1 hb];exact fun e=>hin (e▸ha)⟩⟩,by omega,⟨by rw [hN],Ak (fun v hv=>by obtain⟨p,_,rfl⟩:=List.mem_map.1 hv;rfl),Ak (fun v hv=>by obtain⟨p,_,rfl⟩:=List.mem_map.1 hv;rfl)⟩,by push_cast;rfl⟩
   ·have he':(E==0)=false:=by simpa using he
    have he2:(E != 0)=true:=by simpa using he
    have hRf:R=false:=by
     rw [←hR,Bool.and_eq_false_iff];left;exact hno (decide_eq_false he)
    subst hRf
    ((try simp at hchk);(try simp -implicitDefEqProofs [h,he,he',he2]);repeat' first|(with_reducible apply A0<;>first|(simp only [eras,era,A1];first|with_reducible assumption)|(simp -implicitDefEqProofs [h,he,he',he2])))
 ·have:k=p.length:=by omega
  subst this
  have hRt:R=true:=by
   rw [List.take_length] at hfi
   rw [List.take_of_length_le (by simp)] at hnd
   rw [←hR,hfi,decide_eq_true hnd];rfl
  subst hRt
  (try simp -implicitDefEqProofs [h])
theorem A0r (p:List Rul) (l:List Src) (hfw:Mx p=true) (hl:l.length≤13) (hs : ∀s∈l,s.num.natAbs≤100000∧0<s.den∧s.den≤100000∧s.items.length≤1000) :
  A7 Tryz.prog 14 [Rul.l p,Src.l l] (psV (if Jt p=true then Hy (p.map B5) l else ([],1))):=by
 obtain⟨f1,f2,f3⟩:=L3 hfw
 have hfi:Jt p=true→∀r∈p,G6 r=true:=fun h=>by
  unfold Jt at h
  simp only [Bool.and_eq_true,List.all_eq_true] at h
  exact h.1.2
 exact P5 p l (Jt p) (A30 p fun r hr s h=>by have:=f3 r hr s h;omega) (fun h r hr=>⟨Gu h r hr,fun _=>true,by have:=hfi h r hr;unfold G6 at this;simpa using this⟩)
  (fun h r hr=>Mg (Gu h r hr) (hfi h r hr)) hl (by omega) hs
theorem P6 (p:List Rul) (L:List Src) (hfw:Mx p=true) : ∀q∈(if Jt p=true then Hy (p.map B5) L else ([],1)).1,q.parts.length≤1000000:=by
 intro q hq
 split at hq
 ·rename_i hsn
  unfold Hy at hq
  split at hq
  ·rename_i g
   cases hrr:Hd (p.map B5) L with
   | none=>rw [hrr] at hq;simp at hq
   | some w=>
    rw [hrr] at hq
    have:=(A2w (fun c hc=>by
     obtain⟨r,hr,rfl⟩:=List.mem_map.1 hc
     exact Nw hfw hr (Rr (Gu hsn r hr))) g.1 hrr hq).len
    omega
  ·simp at hq
 ·simp at hq
def Nx (out:List Ins) (t:Nat):Option (Int×Int):=
 let l:=out.drop (out.length-t)
 if (l.any fun y=>y.op != 1)=true then none else some ((l.headD ⟨0,0,0⟩).a,if t=2 then ((l.drop 1).headD ⟨0,0,0⟩).a else 0)
def Aq (out:List Ins) (x:Ins):List Ins:=
 let t:=(tk x.op).toNat
 if pt x.op=0∨t=0∨out.length<t then out++[x]
 else match Nx out t with
  | none=>out++[x]
  | some (a,b)=>if (opC x.op x.a a b).2=true then out.take (out.length-t)++[⟨1,(opC x.op x.a a b).1,0⟩] else out++[x]
def B6 (l:List Ins):List Ins:=l.foldl Aq []
theorem Di (l:List Ins) (x:Ins):B6 (l++[x])=Aq (B6 l) x:=by simp [B6]
theorem Kp (out:List Ins) (x:Ins):(Aq out x).length≤out.length+1:=by
 unfold Aq
 simp only []
 split
 ·simp
 split
 ·simp
 ·split
  ·simp
  ·simp
theorem J9 (l:List Ins):(B6 l).length≤l.length:=by
 suffices h : ∀(l:List Ins) (o:List Ins),(l.foldl Aq o).length≤o.length+l.length by simpa [B6] using h l []
 intro l
 induction l with
 | nil=>simp
 | cons x l ih=>
  intro o
  have h1:=ih (Aq o x)
  have h2:=Kp o x
  simp only [List.foldl_cons,List.length_cons]
  omega

theorem Kh {c:Code} {k m:Nat} {s:Int×Int×Int} (h:Bu c m=some s) (hk:k≤m) : ∃s',Bu c k=some s':=by
 cases hr:Bu c k with
 | some s'=>exact⟨s',rfl⟩
 | none=>
  have:=Jk hr (m-k)
  rw [show k+(m-k)=m from by omega,h] at this
  cases this
theorem Vc {c:Code} (h:(Bo c).2=true) {k:Nat} {x:Ins} (hx:c.ins[k]?=some x):1≤x.op∧x.op≤26:=by
 have hk:=Ab hx
 unfold Bo at h
 split at h
 ·cases h
 split at h
 ·rename_i s hs
  obtain⟨s1,h1⟩:=Kh hs (Nat.le_of_lt hk)
  obtain⟨s2,h2⟩:=Kh hs (show k+1≤_ from hk)
  rw [H6 h1 hx] at h2
  have:=Oo h2
  exact⟨this.1,this.2.1⟩
 ·cases h
abbrev S3:=Int×Int×Int
def Hi (pair:Bool) (x:Ins) (s:S3):Option S3:=
 if (decide (x.op<1)||decide (26<x.op) || !D8 x pair s.2.2||Cz x.op s.2.1)=true then none
 else some (max s.1 (s.2.1+(pt x.op-tk x.op)),s.2.1+(pt x.op-tk x.op),if x.op=23 then s.2.2+1 else s.2.2)
def E5 (pair:Bool) (l:List Ins):Option S3:=l.foldl (fun o x=>o.bind (Hi pair x)) (some (0,0,0))
theorem Dj (pair:Bool) (l:List Ins) (x:Ins):E5 pair (l++[x])=(E5 pair l).bind (Hi pair x):=by simp [E5]
theorem Ny {len:Nat} {pair:Bool} {i:Nat} {x:Ins} {s s':S3} : Cm len pair i x s=some s'↔Hi pair x s=some s'∧(x.op=26↔i+1=len):=by
 unfold Cm Hi Eg
 by_cases h26:(x.op=26↔i+1=len)
 ·have:(decide (x.op=26) != decide (i+1=len))=false:=by simp [h26]
  simp only [this,Bool.or_false,h26,and_true]
  generalize (decide (x.op<1)||decide (26<x.op))=a
  generalize (!D8 x pair s.2.2)=b
  generalize Cz x.op s.2.1=d
  cases a<;>cases b<;>cases d<;>simp
 ·have:(decide (x.op=26) != decide (i+1=len))=true:=by
   rw [bne_iff_ne,ne_eq,decide_eq_decide];exact h26
  simp [this,h26]
theorem Ja {c:Code} : ∀{k:Nat} {s:S3},k≤c.ins.length→(Bu c k=some s↔E5 c.pair (c.ins.take k)=some s∧∀i x,i<k→c.ins[i]?=some x→(x.op=26↔i+1=c.ins.length))
 | 0,s,_=>by simp [Bu,E5]
 | k+1,s,hk=>by
  have hx:c.ins[k]?=some (c.ins[k]'hk):=by simp
  generalize c.ins[k]'hk=x at hx
  rw [Ag hx,Dj]
  constructor
  ·intro h
   simp only [Bu,hx] at h
   split at h
   ·rename_i s0 x0 h1 h2
    cases h2
    obtain⟨h3,h4⟩:=(Ja (Nat.le_of_succ_le hk)).1 h1
    obtain⟨h5,h6⟩:=Ny.1 h
    refine⟨by rw [h3];exact h5,fun i y hi hy=>?_⟩
    rcases Nat.lt_or_ge i k with h7|h7
    ·exact h4 i y h7 hy
    ·have:i=k:=by omega
     subst this
     rw [hx] at hy;cases hy
     exact h6
   ·cases h
  ·rintro ⟨h1,h2⟩
   cases h3:E5 c.pair (c.ins.take k) with
   | none=>rw [h3] at h1;cases h1
   | some s0=>
    rw [h3] at h1
    have h4:=(Ja (Nat.le_of_succ_le hk)).2 ⟨h3,fun i y hi hy=>h2 i y (by omega) hy⟩
    simp only [Bu,h4,hx]
    exact Ny.2 ⟨h1,h2 k x (by omega) hx⟩
theorem Vd {c:Code} {n:Int} : Bo c=(n,true)↔c.ins≠[]∧∃d st,E5 c.pair c.ins=some (n,d,st)∧∀i x,c.ins[i]?=some x→(x.op=26↔i+1=c.ins.length):=by
 unfold Bo
 constructor
 ·intro h
  split at h
  ·cases h
  ·rename_i h0
   split at h
   ·rename_i s hs
    obtain⟨a,d,st⟩:=s
    simp only [Prod.mk.injEq,and_true] at h
    subst h
    obtain⟨h1,h2⟩:=(Ja (Nat.le_refl _)).1 hs
    rw [List.take_length] at h1
    exact⟨h0,d,st,h1,fun i x hx=>h2 i x (Ab hx) hx⟩
   ·cases h
 ·rintro ⟨h0,d,st,h1,h2⟩
  have:=(Ja (c:=c) (s:=(n,d,st)) (Nat.le_refl _)).2 ⟨by rw [List.take_length];exact h1,fun i x _ hx=>h2 i x hx⟩
  rw [if_neg h0,this]

theorem G1 (o:List Ins) (x:Ins) (h1:1≤x.op) (h2:x.op≤26):Aq o x=o++[x]∨∃t:Nat,1≤t∧(t:Int)=tk x.op∧pt x.op=1∧t≤o.length∧(∀y∈o.drop (o.length-t),y.op=1)∧∃v,Aj v=true∧Aq o x=o.take (o.length-t)++[⟨1,v,0⟩]:=by
 obtain⟨n,hn⟩ : ∃n:Nat,x.op=n:=⟨x.op.toNat,by omega⟩
 have hpk:=M5 (n:=n) (by omega)
 rw [←hn] at hpk
 unfold Aq
 simp only []
 split
 ·exact .inl rfl
 ·rename_i hc
  unfold Nx
  simp only []
  split
  ·rename_i h0
   split at h0
   ·exact .inl rfl
   ·cases h0
  ·rename_i a b h0
   split at h0
   ·cases h0
   ·rename_i hany
    split
    ·rename_i hop
     refine .inr ⟨(tk x.op).toNat,by omega,by omega,by omega,by omega,fun y hy=>?_,_,Fw hop,rfl⟩
     have h9 : ¬∃y∈o.drop (o.length-(tk x.op).toNat),(y.op != 1)=true:=fun ⟨y,h3,h4⟩=>hany (List.any_eq_true.2 ⟨y,h3,h4⟩)
     have:=fun h4=>h9 ⟨y,hy,h4⟩
     simpa using this
    ·exact .inl rfl

def okJ (l:List Ins):Prop:=∀y∈l,1≤y.op∧y.op≤26
theorem Dy {l:List Ins} {x:Ins} : okJ (l++[x])↔okJ l∧1≤x.op∧x.op≤26:=by
 constructor
 ·intro h;exact⟨fun y hy=>h y (by simp [hy]),h x (by simp)⟩
 ·rintro ⟨h1,h2⟩ y hy
  rcases List.mem_append.1 hy with h|h
  ·exact h1 y h
  ·simp at h;subst h;exact h2
theorem Ej {α:Type} {P:List α→Prop} (h0:P []) (h1 : ∀l x,P l→P (l++[x])) : ∀l,P l:=by
 intro l
 rw [←List.reverse_reverse l]
 induction l.reverse with
 | nil=>exact h0
 | cons x l ih=>rw [List.reverse_cons];exact h1 _ _ ih
theorem A0s {l:List Ins} : okJ l→okJ (B6 l):=by
 refine Ej (P:=fun l=>okJ l→okJ (B6 l)) (fun h=>h) (fun l x ih h=>?_) l
 obtain⟨h1,h2,h3⟩:=Dy.1 h
 rw [Di]
 rcases G1 (B6 l) x h2 h3 with e|⟨t,_,_,_,_,_,v,_,e⟩
 ·rw [e];exact Dy.2 ⟨ih h1,h2,h3⟩
 ·rw [e];exact Dy.2 ⟨fun y hy=>ih h1 y (List.mem_of_mem_take hy),Int.le_refl 1,by show (1:Int)≤26;decide⟩

theorem Xv {pair:Bool} : ∀{r l:List Ins} {s:S3},E5 pair (l++r)=some s→∃s0,E5 pair l=some s0:=by
 intro r
 refine Ej (P:=fun r=>∀{l:List Ins} {s:S3},E5 pair (l++r)=some s→∃s0,E5 pair l=some s0) (fun {l s} h=>⟨s,by simpa using h⟩) (fun r x ih l s h=>?_) r
 rw [←List.append_assoc,Dj] at h
 cases h1:E5 pair (l++r) with
 | none=>rw [h1] at h;cases h
 | some s1=>exact ih h1
theorem U7 {pair:Bool} {x:Ins} {s s':S3} (hx:x.op=1) (h:Hi pair x s=some s'):s'=(max s.1 (s.2.1+1),s.2.1+1,s.2.2):=by
 unfold Hi at h
 split at h
 ·cases h
 ·rw [hx] at h
  have e:pt 1-tk 1=1:=by decide
  rw [e,if_neg (by decide)] at h
  exact (Option.some.inj h).symm
theorem Ru {pair:Bool} : ∀(r:List Ins) (l:List Ins) (s s':S3),(∀y∈r,y.op=1)→E5 pair l=some s→E5 pair (l++r)=some s'→s'.2.1=s.2.1+r.length∧s'.2.2=s.2.2∧s.1≤s'.1∧(0<r.length→s.2.1+r.length≤s'.1):=by
 intro r
 refine Ej (P:=fun r=>∀(l:List Ins) (s s':S3),(∀y∈r,y.op=1)→E5 pair l=some s→E5 pair (l++r)=some s'→s'.2.1=s.2.1+r.length∧s'.2.2=s.2.2∧s.1≤s'.1∧(0<r.length→s.2.1+r.length≤s'.1)) (fun l s s' _ h1 h2=>?_) (fun r x ih l s s' hr h1 h2=>?_) r
 ·simp only [List.append_nil] at h2
  rw [h1] at h2;cases h2
  simp
 ·rw [←List.append_assoc,Dj] at h2
  cases h3:E5 pair (l++r) with
  | none=>rw [h3] at h2;cases h2
  | some s1=>
   rw [h3] at h2
   have h4:=ih l s s1 (fun y hy=>hr y (by simp [hy])) h1 h3
   have h5:=U7 (hr x (by simp)) h2
   subst h5
   simp only [List.length_append,List.length_cons,List.length_nil] at *
   refine⟨?_,h4.2.1,by omega,fun _=>?_⟩<;>push_cast<;>omega
theorem A31 {pair:Bool} {l:List Ins} : ∀{s:S3},E5 pair l=some s→okJ l→0≤s.2.1:=by
 refine Ej (P:=fun l=>∀{s:S3},E5 pair l=some s→okJ l→0≤s.2.1) (fun {s} h _=>by cases h;simp) (fun l x ih s h hok=>?_) l
 obtain⟨h1,h2,h3⟩:=Dy.1 hok
 rw [Dj] at h
 cases hl:E5 pair l with
 | none=>rw [hl] at h;cases h
 | some s0=>
  rw [hl] at h
  have i0:=ih hl h1
  simp only [Option.bind_some,Hi] at h
  split at h
  ·cases h
  rename_i hc
  simp only [Bool.or_eq_true,not_or,Bool.not_eq_true] at hc
  have hb:=hc.2
  simp only [Cz,Bool.or_eq_false_iff,decide_eq_false_iff_not] at hb
  obtain⟨n,hn⟩ : ∃n:Nat,x.op=n:=⟨x.op.toNat,by omega⟩
  have hpk:=M5 (n:=n) (by omega)
  rw [←hn] at hpk
  cases h
  simp only []
  omega
theorem A0t {pair:Bool} {l:List Ins} : ∀{sz d st:Int},E5 pair l=some (sz,d,st)→okJ l→∃sz',E5 pair (B6 l)=some (sz',d,st)∧sz'≤sz:=by
 refine Ej (P:=fun l=>∀{sz d st:Int},E5 pair l=some (sz,d,st)→okJ l→∃sz',E5 pair (B6 l)=some (sz',d,st)∧sz'≤sz) (fun {sz d st} h _=>⟨sz,h,Int.le_refl _⟩) (fun l x ih sz d st h hok=>?_) l
 obtain⟨h1,h2,h3⟩:=Dy.1 hok
 rw [Dj] at h
 cases hl:E5 pair l with
 | none=>rw [hl] at h;cases h
 | some s0=>
  obtain⟨sz0,d0,st0⟩:=s0
  rw [hl] at h
  simp only [Option.bind_some] at h
  obtain⟨sz1,hr,hle⟩:=ih hl h1
  rw [Di]
  unfold Hi at h
  split at h
  ·cases h
  rename_i hcond
  simp only [Option.some.injEq,Prod.mk.injEq] at h
  obtain⟨e1,e2,e3⟩:=h
  rcases G1 (B6 l) x h2 h3 with e|⟨t,t1,t2,t3,t4,t5,v,hv,e⟩
  ·rw [e,Dj,hr]
   refine⟨max sz1 (d0+(pt x.op-tk x.op)),?_,by omega⟩
   simp only [Option.bind_some,Hi]
   simp only [] at hcond
   rw [if_neg hcond,e2,e3]
  ·rw [e,Dj]
   have hsp:(B6 l).take ((B6 l).length-t)++(B6 l).drop ((B6 l).length-t)=B6 l:=List.take_append_drop _ _
   rw [←hsp] at hr
   obtain⟨⟨szA,dA,stA⟩,hA⟩:=Xv hr
   have hp:=Ru _ _ _ _ t5 hA hr
   simp only [List.length_drop] at hp
   obtain⟨p1,p2,p3,p4⟩:=hp
   rw [hA]
   have h23:x.op≠23:=fun h=>by rw [h] at t3;exact absurd t3 (by decide)
   rw [if_neg h23] at e3
   simp only [Option.bind_some,Hi]
   have e4:pt 1-tk 1=1:=by decide
   have hnum:D8 ⟨1,v,0⟩ pair stA=true:=by simp [D8,hv]
   have hbd:Cz 1 dA=false:=by
    have hd:0≤dA:=A31 hA (fun y hy=>A0s h1 y (List.mem_of_mem_take hy))
    have hp1:pt 1=1:=by decide
    have ht1:tk 1=0:=by decide
    simp [Cz,hp1,ht1,hd]
   rw [if_neg (by simp [hnum,hbd]),e4,if_neg (by decide)]
   refine⟨max szA (dA+1),?_,?_⟩
   ·have:dA+1=d:=by omega
    rw [this,←p2,e3]
   ·have:=p4 (by omega)
    omega

theorem U8 {l:List Ins} : okJ l→(∀y∈l,y.op≠26)→∀y∈B6 l,y.op≠26:=by
 refine Ej (P:=fun l=>okJ l→(∀y∈l,y.op≠26)→∀y∈B6 l,y.op≠26) (fun _ h=>h) (fun l x ih h hn=>?_) l
 obtain⟨h1,h2,h3⟩:=Dy.1 h
 have i0:=ih h1 (fun y hy=>hn y (by simp [hy]))
 have hx:=hn x (by simp)
 rw [Di]
 rcases G1 (B6 l) x h2 h3 with e|⟨t,_,_,_,_,_,v,_,e⟩
 ·rw [e]
  intro y hy
  rcases List.mem_append.1 hy with h|h
  ·exact i0 y h
  ·simp at h;subst h;exact hx
 ·rw [e]
  intro y hy
  rcases List.mem_append.1 hy with h|h
  ·exact i0 y (List.mem_of_mem_take h)
  ·simp at h;subst h;simp
theorem Ml {c:Code} {n:Int} (h:Bo c=(n,true)):okJ c.ins∧∃m,Bo ⟨c.name,c.pair,B6 c.ins⟩=(m,true)∧m≤n:=by
 obtain⟨h0,d,st,h1,h2⟩:=Vd.1 h
 have hok:okJ c.ins:=fun y hy=>by
  obtain⟨k,hk,rfl⟩:=List.mem_iff_getElem.1 hy
  have hx:c.ins[k]?=some c.ins[k]:=by simp [hk]
  exact Vc (c:=c) (by rw [h]) hx
 obtain⟨m,hm,hle⟩:=A0t h1 hok
 refine⟨hok,m,Vd.2 ⟨?_,d,st,hm,?_⟩,hle⟩
 all_goals
  obtain⟨l,x,e⟩ : ∃l x,c.ins=l++[x]:=⟨_,_,(List.dropLast_concat_getLast h0).symm⟩
  obtain⟨cn,pair,ins⟩:=c
  simp only [] at *
  subst e
  obtain⟨k1,k2,k3⟩:=Dy.1 hok
  have hx26:x.op=26:=(h2 l.length x (by simp)).2 (by simp)
  have hno : ∀y∈l,y.op≠26:=fun y hy h26=>by
   obtain⟨k,hk,rfl⟩:=List.mem_iff_getElem.1 hy
   have:=(h2 k l[k] (by rw [List.getElem?_append_left hk];simp [hk])).1 h26
   simp at this
   omega
  have hno2:=U8 k1 hno
  have e2:B6 (l++[x])=B6 l++[x]:=by
   rw [Di]
   rcases G1 (B6 l) x k2 k3 with e|⟨t,_,_,h3,_⟩
   ·exact e
   ·rw [hx26] at h3;exact absurd h3 (by decide)
  rw [e2]
 ·simp
 ·intro i y hy
  rcases Nat.lt_or_ge i (B6 l).length with hi|hi
  ·rw [List.getElem?_append_left hi] at hy
   have:=hno2 y (List.mem_of_getElem? hy)
   simp only [this,List.length_append,List.length_cons,List.length_nil,false_iff]
   omega
  ·rw [List.getElem?_append_right hi] at hy
   have hi0:i-(B6 l).length=0:=by
    have:=Ab hy
    simp at this
    omega
   rw [hi0] at hy
   simp at hy
   subst hy
   simp only [hx26,List.length_append,List.length_cons,List.length_nil,true_iff]
   omega
theorem Nz {s:Src} {oth:Int} {A B:List Ins} (h : ∀st loc ps,Am s oth A st loc ps=Am s oth B st loc ps) : ∀(o:List Ins) (st loc:List Int) (ps:List Part),Am s oth (o++A) st loc ps=Am s oth (o++B) st loc ps
 | [],st,loc,ps=>h st loc ps
 | x::o,st,loc,ps=>by
  have ih:=Nz h o
  simp only [List.cons_append,Am,ih]
theorem A32 {op a x y:Int} (h:tk op=2) (h1:1≤op) (h2:op≤26):opC op a x y=opC op 0 x y:=by
 have h9:op≠9:=fun e=>by subst e;exact absurd h (by decide)
 unfold opC opG
 rw [if_neg h9,if_neg h9]
theorem A7f {n x y:Int} : opC 7 n x y=(0,false):=by
 unfold opC opG
 cases Aj x
 ·rfl
 ·cases Aj y<;>rfl
theorem A33 {op a x y:Int} (h:(opC op a x y).2=true):op≠7:=fun e=>by
 subst e
 rw [A7f] at h;cases h
theorem Rv {s:Src} {oth:Int} {x:Ins} (h1:1≤x.op) (h2:x.op≤26) (hp:pt x.op=1) {P rest:List Ins} {t:Nat} (ht0:1≤t) (htk:(t:Int)=tk x.op) (hl:P.length=t) (hP : ∀y∈P,y.op=1) {a b:Int} (ha:a=(P.headD ⟨0,0,0⟩).a) (hb:b=if t=2 then ((P.drop 1).headD ⟨0,0,0⟩).a else 0)
  (hok:(opC x.op x.a a b).2=true) (st loc:List Int) (ps:List Part):Am s oth (P++x::rest) st loc ps=Am s oth (⟨1,(opC x.op x.a a b).1,0⟩::rest) st loc ps:=by
 have h7:=A33 hok
 have hne : ∀n:Int,tk n≠t→x.op≠n:=fun n hn e=>hn (by rw [←e];exact htk.symm)
 have e1:=hne 1 (by rw [show tk 1=0 from rfl];omega)
 have e2:=hne 2 (by rw [show tk 2=0 from rfl];omega)
 have e3:=hne 3 (by rw [show tk 3=0 from rfl];omega)
 have e4:=hne 4 (by rw [show tk 4=0 from rfl];omega)
 have hpn : ∀n:Int,pt n=0→x.op≠n:=fun n hn e=>by rw [e,hn] at hp;cases hp
 have e23:=hpn 23 rfl
 have e24:=hpn 24 rfl
 have e25:=hpn 25 rfl
 have e26:=hpn 26 rfl
 have hpush : ∀(v w:Int) (l:List Ins) (st:List Int),Am s oth (⟨1,v,w⟩::l) st loc ps=Am s oth l (v::st) loc ps:=fun v w l st=>by
  simp [Am,Ca,show (tk 1).toNat=0 from rfl]
 have ht2:t≤2:=by
  have:=M5 (n:=x.op.toNat) (by omega)
  rw [show ((x.op.toNat:Nat):Int)=x.op by omega] at this
  omega
 rcases (by omega:t=1∨t=2) with rfl|rfl
 ·obtain⟨p,rfl⟩:=List.length_eq_one_iff.1 hl
  obtain⟨po,pa,pb⟩:=p
  have:po=1:=hP ⟨po,pa,pb⟩ (by simp)
  subst this
  simp only [List.headD_cons] at ha
  rw [if_neg (by decide)] at hb
  subst ha hb
  rw [List.singleton_append,hpush,hpush]
  have htk1:tk x.op=1:=by omega
  have hv:Ca s oth x (a::st) loc=opC x.op x.a a 0:=by
   unfold Ca
   rw [if_neg e1,if_neg e2,if_neg e3,if_neg e4,if_neg h7,if_pos htk1];rfl
  rw [Am,if_neg e23,if_neg e24,if_neg e25,if_neg e26,hv,if_pos hok,htk1];rfl
 ·obtain⟨p,q,rfl⟩ : ∃p q,P=[p,q]:=by
   match P,hl with
   | [p,q],_=>exact⟨p,q,rfl⟩
  obtain⟨po,pa,pb⟩:=p
  obtain⟨qo,qa,qb⟩:=q
  have:po=1:=hP ⟨po,pa,pb⟩ (by simp)
  subst this
  have:qo=1:=hP ⟨qo,qa,qb⟩ (by simp)
  subst this
  simp only [List.headD_cons] at ha
  rw [if_pos rfl] at hb
  simp only [List.drop_succ_cons,List.drop_zero,List.headD_cons] at hb
  subst ha hb
  have htk2:tk x.op=2:=by omega
  rw [List.cons_append,List.singleton_append,hpush,hpush,hpush]
  have hv:Ca s oth x (b::a::st) loc=opC x.op x.a a b:=by
   unfold Ca
   rw [if_neg e1,if_neg e2,if_neg e3,if_neg e4,if_neg h7,if_neg (by rw [htk2];decide)];exact (A32 htk2 h1 h2).symm
  rw [Am,if_neg e23,if_neg e24,if_neg e25,if_neg e26,hv,if_pos hok,htk2];rfl
theorem U9 {s:Src} {oth:Int} {x:Ins} (h1:1≤x.op) (h2:x.op≤26) (o rest:List Ins) (st loc:List Int) (ps:List Part):Am s oth (Aq o x++rest) st loc ps=Am s oth (o++x::rest) st loc ps:=by
 have h0:Am s oth ((o++[x])++rest) st loc ps=Am s oth (o++x::rest) st loc ps:=by rw [List.append_assoc];rfl
 have hpk:=M5 (n:=x.op.toNat) (by omega)
 rw [show ((x.op.toNat:Nat):Int)=x.op by omega] at hpk
 unfold Aq
 simp only []
 split
 ·exact h0
 ·rename_i hc
  unfold Nx
  simp only []
  split
  ·exact h0
  ·rename_i a b hab
   split at hab
   ·cases hab
   ·rename_i hany
    obtain⟨ha,hb⟩:=Prod.mk.inj (Option.some.inj hab)
    split
    ·rename_i hop
     have hsplit:o++x::rest=o.take (o.length-(tk x.op).toNat)++(o.drop (o.length-(tk x.op).toNat)++x::rest):=by rw [←List.append_assoc,List.take_append_drop]
     rw [hsplit,List.append_assoc]
     refine (Nz (fun st loc ps=>?_) _ st loc ps).symm
     refine Rv h1 h2 (by omega) (t:=(tk x.op).toNat) (by omega) (by omega) (by simp;omega) (fun y hy=>?_) ha.symm hb.symm hop st loc ps
     have h9 : ¬∃y∈o.drop (o.length-(tk x.op).toNat),(y.op != 1)=true:=fun ⟨y,h3,h4⟩=>hany (List.any_eq_true.2 ⟨y,h3,h4⟩)
     have:=fun h4=>h9 ⟨y,hy,h4⟩
     simpa using this
    ·exact h0
theorem Rw {s:Src} {oth:Int} : ∀(l:List Ins),okJ l→∀(rest:List Ins) (st loc:List Int) (ps:List Part),Am s oth (B6 l++rest) st loc ps=Am s oth (l++rest) st loc ps:=by
 refine Ej (fun _ rest st loc ps=>rfl) fun l x ih hok rest st loc ps=>?_
 obtain⟨hl,h1,h2⟩:=Dy.1 hok
 rw [Di,U9 h1 h2,ih hl]
 simp
theorem Ua {c:Code} {n:Int} (h:Bo c=(n,true)) (s:Src) (oth rule:Int):Cy ⟨c.name,c.pair,B6 c.ins⟩ s oth rule=Cy c s oth rule:=by
 have:=Rw (s:=s) (oth:=oth) c.ins (Ml h).1 [] [] [] []
 unfold Cy
 rw [List.append_nil,List.append_nil] at this
 simp only [this]
def Ki (c:Code):Code:=⟨c.name,c.pair,B6 c.ins⟩
theorem Xw {cs:List Code} (h : ∀c∈cs,(Bo c).2=true) (l:List Src):Hy (cs.map Ki) l=Hy cs l:=by
 have h1 : ∀c∈cs,∃n,Bo c=(n,true):=fun c hc=>⟨(Bo c).1,by rw [←h c hc]⟩
 have e1:((cs.map Ki).all fun x=>(Bo x).2)=(cs.all fun x=>(Bo x).2):=by
  rw [Bool.eq_iff_iff,List.all_eq_true,List.all_eq_true]
  refine⟨fun _ c hc=>h c hc,fun _ c hc=>?_⟩
  obtain⟨d,hd,rfl⟩:=List.mem_map.1 hc
  obtain⟨n,hn⟩:=h1 d hd
  obtain⟨_,m,hm,_⟩:=Ml hn
  show (Bo ⟨d.name,d.pair,B6 d.ins⟩).2=true
  rw [hm]
 have e2:Hd (cs.map Ki) l=Hd cs l:=by
  unfold Hd
  congr 2
  rw [List.zipIdx_map,List.map_map]
  refine List.map_congr_left fun x hx=>?_
  have hm:x.1∈cs:=by
   obtain⟨i,hi,e⟩:=List.mem_iff_getElem.1 hx
   rw [←e];simp
  obtain⟨n,hn⟩:=h1 x.1 hm
  simp only [Function.comp,Prod.map]
  refine Prod.ext rfl ?_
  funext s o
  exact Ua hn s o x.2
 unfold Hy
 rw [e1,e2]
end Go.Proofs.YtmlpmdccfmmpoaaGreatDoor
