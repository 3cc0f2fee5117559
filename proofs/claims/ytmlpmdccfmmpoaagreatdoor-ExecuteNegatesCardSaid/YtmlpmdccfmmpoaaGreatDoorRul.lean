/- Chapter 33: the checker's statements and rules. -/
import Derived.Test.YtmlpmdccfmmpoaaGreatDoorCps
import Derived.Test.YtmlpmdccfmmpoaaGreatDoorPrg
import Derived.Test.YtmlpmdccfmmpoaaGreatDoorMaps
section
set_option linter.unusedSimpArgs false
set_option linter.unusedVariables false
set_option maxHeartbeats 4000000
set_option maxRecDepth 8000
namespace Go.Proofs.YtmlpmdccfmmpoaaGreatDoor
open E

theorem Ui (b:Nat) (M:List (List UInt8)) (pair:Bool) (code:Int) (l:List Account) (B:List Bx) (hB:Hlds b M B) :
  (Bj l code=true→FnS Tryz.prog 101 [vC b pair,vI code,Account.l l] ⟨B,[]⟩ (.tup []) ⟨B,[]⟩)∧
  (Bj l code=false→FnP Tryz.prog 101 [vC b pair,vI code,Account.l l] ⟨B,[]⟩ (F9 8) ⟨B,[]⟩):=by
 have hg:=hB.app
 have hg0:=Pc B
 have hg1:=Rt B
 have hle:=fun l l' n m h=>A6.app' (l:=l) (l':=l') (hB.le n m h)
 have hdr:=fun l n m h=>A6.drop' (n:=n) (m:=m) l (hB.le n m h)
 have hbl:=hB.lt
 have hf:=Cht.w_cFind l code
 unfold Bj F9
 refine⟨fun h=>?_,fun h=>?_⟩
 ·rw [h] at hf
  generalize (Cht.findS l code).getD Cht.acc0=a at *
  obtain⟨c1,c2,c3,c4⟩:=a
  simp only [Account.v,Account.c,List.map] at hf
  (refine FnS.of_code mix Tryz.call101 k_101 (by simp) (fun hB=>?_);(try simp at hB);(try simp -implicitDefEqProofs))
  ((try simp at hf);(try simp -implicitDefEqProofs [hg,hg0,hg1,hle,hdr]);repeat' first|(with_reducible apply A0<;>first|(simp only [eras,era,A1];first|with_reducible assumption)|(simp -implicitDefEqProofs [hg,hg0,hg1,hle,hdr])))
 ·rw [h] at hf
  generalize (Cht.findS l code).getD Cht.acc0=a at *
  obtain⟨c1,c2,c3,c4⟩:=a
  simp only [Account.v,Account.c,List.map] at hf
  (refine FnP.of_code mix Tryz.call101 k_101 (by simp) (fun hB=>?_);(try simp at hB);(try simp -implicitDefEqProofs))
  ((try simp at hf);(try simp -implicitDefEqProofs [hg,hg0,hg1,hle,hdr]);repeat' first|(with_reducible apply A0<;>first|(simp only [eras,era,A1];first|with_reducible assumption)|(simp -implicitDefEqProofs [hg,hg0,hg1,hle,hdr])))
theorem Ft (R:List T) (M:List (List UInt8)) (pair:Bool) (tl:List Bx) (htl : ∀n m,4+tl.length≤n→A6 n m tl tl):Hlds 2 M (.cells (R.map V.t)::.cells [vI 0]::.mp (mS D8 (Bp M))::.cells [.mp 2,vB pair]::tl):=⟨rfl,fun n m hn=>by
 simp only [List.length_cons] at hn
 refine⟨⟨A3 _,?_⟩,⟨A3 _,?_⟩,⟨rfl,?_,?_⟩,⟨A3 _,?_⟩,htl n m (by omega)⟩
 ·exact Au (fun v hv=>by obtain⟨t,_,rfl⟩:=List.mem_map.1 hv;rfl)
 ·simp [okNs,okN]
 ·exact Au (fun v hv=>by obtain⟨p,hp',rfl⟩:=List.mem_map.1 hv;obtain⟨q,_,rfl⟩:=List.mem_map.1 hp';rfl)
 ·exact Au (fun v hv=>by obtain⟨p,hp',rfl⟩:=List.mem_map.1 hv;obtain⟨q,_,rfl⟩:=List.mem_map.1 hp';rfl)
 ·simp [okNs,okN];omega⟩
theorem Er (ts:List T) (n m:Nat):A6 n m [.cells (ts.map V.t)] [.cells (ts.map V.t)]:=
 ⟨⟨A3 _,Au (fun v hv=>by obtain⟨t,_,rfl⟩:=List.mem_map.1 hv;rfl)⟩,trivial⟩
theorem A0n {known pair wrong:Bool} {e k f t:Int} : (G8 known pair wrong e k f t).2=0→(G8 known pair wrong e k f t).1=Jx k:=by
 unfold G8
 by_cases h1:e≠0
 ·rw [if_pos h1];exact fun h=>absurd h h1
 rw [if_neg h1]
 by_cases h2:wrong=true
 ·rw [if_pos h2];exact fun h=>absurd h (by decide)
 rw [if_neg h2]
 by_cases h3:k=2∧known=false
 ·rw [if_pos h3];exact fun h=>absurd h (by decide)
 rw [if_neg h3]
 by_cases h4:(k=21∨k=22)∧t<f
 ·rw [if_pos h4];exact fun h=>absurd h (by decide)
 rw [if_neg h4]
 by_cases h5:k=22∧pair=false
 ·rw [if_pos h5];exact fun h=>absurd h (by decide)
 rw [if_neg h5]
 exact fun _=>rfl
theorem Vr (x:Xp) (q:List UInt8→Bool) (pair:Bool) (h:(x.inf q pair).2=0):(x.inf q pair).1=1∨(x.inf q pair).1=2:=by
 obtain⟨k,v,f,t,n,xs⟩:=x
 rw [Xp.inf] at h ⊢
 rw [A0n h]
 unfold Jx;split<;>simp
theorem A0o (R:List T) (M:List (List UInt8)) (pair:Bool) (s:Stm) (l:List Account) (hp:s.ex.prop=true) (hML:M.length≤1000)
  (hk:s.kind=1∨s.kind=2∨s.kind=3) (h0:Fh (Bj l) (Cs M) pair s=0) :
  FnS Tryz.prog 100 [vC 2 pair,s.v,Account.l l] ⟨[.cells (R.map V.t),.cells [vI 0],.mp (mS D8 (Bp M)),.cells [.mp 2,vB pair],.cells (s.c.map V.t)],[]⟩ (.tup [])
   ⟨[.cells (R.map V.t),.cells [vI 0],.mp (mS D8 (Bp (M++Aj [s]))),.cells [.mp 2,vB pair],.cells (s.c.map V.t)],[]⟩:=by
 obtain⟨kd,acc,nm,x⟩:=s
 unfold Fh at h0
 simp only [] at hk hp h0
 by_cases hi:(x.inf (Cs M) pair).2=0
 case neg=>rw [if_pos hi] at h0;exact absurd h0 hi
 rw [if_neg (by simpa using hi)] at h0
 have h12:=Vr x _ _ hi
 have hlc:=Du x
 have htc:=Cw x
 have hlR:=Ft R (M++Aj [⟨kd,acc,nm,x⟩]) pair [.cells ((Stm.c ⟨kd,acc,nm,x⟩).map V.t)] (fun n m _=>Er _ n m)
 have hH:=Ft R M pair [.cells ((Stm.c ⟨kd,acc,nm,x⟩).map V.t),.cells [.mp 2,vB pair],.cells ((Stm.c ⟨kd,acc,nm,x⟩).map V.t)] (fun n m hn=>⟨(Er _ n m).1,⟨A3 _,by simp at hn;simp [okNs,okN];omega⟩,Er _ n m⟩)
 have hex:=(A0d 2 M pair x hp _ hH).1 hi
 have hac:=(Ui 2 M pair acc l _ hH).1
 have hx1:(x.inf (fun s=>decide (s∈M)) pair)=x.inf (Cs M) pair:=rfl
 rw [hx1] at hex
 have hcc:Stm.c ⟨kd,acc,nm,x⟩=.int .i64 kd::.int .i64 acc::.str nm::x.c:=rfl
 rw [hcc] at hlR hH hex hac
 have hle:=hlR.le 5 0 (by simp)
 simp only [List.map_cons] at hle hex hac
 generalize (x.inf (Cs M) pair).1=t at *
 have ht:((t==2) != (kd==2))=false:=by
  cases h:((t==2) != (kd==2))
  ·rfl
  ·rw [h] at h0;simp at h0
 rw [ht] at h0
 simp only [Bool.false_eq_true,if_false] at h0
 rcases hk with rfl|rfl|rfl
 ·have ht2:t=1:=by rcases h12 with h|h<;>simp_all
  subst ht2
  have hnm:nm∉M:=fun h=>by simp [Cs,h] at h0
  have hfm:=Ha D8 nm (Bp M)
  rw [Ei,if_neg hnm] at hfm
  have hsm:=M8 D8 nm true (Bp M)
  rw [I5 hnm] at hsm
  have hN:Aj [⟨1,acc,nm,x⟩]=[nm]:=rfl
  rw [hN] at hle ⊢
  simp [A6,E.leB] at hle
  (refine FnS.of_code mix Tryz.call100 k_100 (by simp) (fun hB=>?_);(try simp at hB);(try simp -implicitDefEqProofs))
  (try simp -implicitDefEqProofs [hcc,hlc,htc])
  refine Ab hex ?_
  (try simp -implicitDefEqProofs [hcc,hlc,htc,hfm,hsm,hle])
  simp [maxLen];omega
 ·have ht2:t=2:=by rcases h12 with h|h<;>simp_all
  subst ht2
  have hN:Aj [⟨2,acc,nm,x⟩]=[]:=rfl
  rw [hN,List.append_nil] at hle ⊢
  simp [A6,E.leB] at hle
  (refine FnS.of_code mix Tryz.call100 k_100 (by simp) (fun hB=>?_);(try simp at hB);(try simp -implicitDefEqProofs))
  (try simp -implicitDefEqProofs [hcc,hlc,htc])
  refine Ab hex ?_
  (try simp -implicitDefEqProofs [hcc,hlc,htc,hle])
 ·have ht2:t=1:=by rcases h12 with h|h<;>simp_all
  subst ht2
  have hN:Aj [⟨3,acc,nm,x⟩]=[]:=rfl
  rw [hN,List.append_nil] at hle ⊢
  simp [A6,E.leB] at hle
  have hkn:Bj l acc=true:=by
   cases h:Bj l acc
   ·rw [h] at h0;simp at h0
   ·rfl
  have hac:=hac hkn
  (refine FnS.of_code mix Tryz.call100 k_100 (by simp) (fun hB=>?_);(try simp at hB);(try simp -implicitDefEqProofs))
  (try simp -implicitDefEqProofs [hcc,hlc,htc])
  refine Ab hex ?_
  (try simp -implicitDefEqProofs [hcc,hlc,htc,hle])
  refine Ab hac ?_
  (try simp -implicitDefEqProofs [hcc,hlc,htc,hle])
theorem Xz (R:List T) (M:List (List UInt8)) (pair:Bool) (s:Stm) (l:List Account) (hp:s.ex.prop=true) (hML:M.length≤1000)
  (hk:s.kind=1∨s.kind=2∨s.kind=3) (h0:Fh (Bj l) (Cs M) pair s≠0) :
  FnP Tryz.prog 100 [vC 2 pair,s.v,Account.l l] ⟨[.cells (R.map V.t),.cells [vI 0],.mp (mS D8 (Bp M)),.cells [.mp 2,vB pair],.cells (s.c.map V.t)],[]⟩ (F9 (Fh (Bj l) (Cs M) pair s))
   ⟨[.cells (R.map V.t),.cells [vI 0],.mp (mS D8 (Bp M)),.cells [.mp 2,vB pair],.cells (s.c.map V.t)],[]⟩:=by
 obtain⟨kd,acc,nm,x⟩:=s
 generalize hE:Fh (Bj l) (Cs M) pair ⟨kd,acc,nm,x⟩=Ee at *
 unfold Fh at hE
 simp only [] at hk hp hE
 have hlc:=Du x
 have htc:=Cw x
 have hlR:=Ft R M pair [.cells ((Stm.c ⟨kd,acc,nm,x⟩).map V.t)] (fun n m _=>Er _ n m)
 have hH:=Ft R M pair [.cells ((Stm.c ⟨kd,acc,nm,x⟩).map V.t),.cells [.mp 2,vB pair],.cells ((Stm.c ⟨kd,acc,nm,x⟩).map V.t)] (fun n m hn=>⟨(Er _ n m).1,⟨A3 _,by simp at hn;simp [okNs,okN];omega⟩,Er _ n m⟩)
 have hex:=(A0d 2 M pair x hp _ hH)
 have hac:=(Ui 2 M pair acc l _ hH).2
 have hx1:(x.inf (fun s=>decide (s∈M)) pair)=x.inf (Cs M) pair:=rfl
 rw [hx1] at hex
 have hcc:Stm.c ⟨kd,acc,nm,x⟩=.int .i64 kd::.int .i64 acc::.str nm::x.c:=rfl
 rw [hcc] at hlR hH hex hac
 have hle:=hlR.le 5 0 (by simp)
 simp only [List.map_cons] at hle hex hac
 simp [A6,E.leB] at hle
 by_cases hi:(x.inf (Cs M) pair).2=0
 case neg=>
  rw [if_pos hi] at hE
  have hex:=hex.2 hi
  rw [hE] at hex
  unfold F9 at hex ⊢
  rcases hk with rfl|rfl|rfl
  all_goals
   (refine FnP.of_code mix Tryz.call100 k_100 (by simp) (fun hB=>?_);(try simp at hB);(try simp -implicitDefEqProofs))
   (try simp -implicitDefEqProofs [hcc,hlc,htc])
   refine Be hex ?_
   (try simp -implicitDefEqProofs [hcc,hlc,htc,hle])
 rw [if_neg (by simpa using hi)] at hE
 have h12:=Vr x _ _ hi
 have hex:=hex.1 hi
 generalize (x.inf (Cs M) pair).1=t at *
 unfold F9 at hac ⊢
 by_cases ht:((t==2) != (kd==2))=true
 ·rw [if_pos ht] at hE
  subst hE
  rcases hk with rfl|rfl|rfl
  ·have ht2:t=2:=by rcases h12 with h|h<;>simp_all
   subst ht2
   (refine FnP.of_code mix Tryz.call100 k_100 (by simp) (fun hB=>?_);(try simp at hB);(try simp -implicitDefEqProofs))
   (try simp -implicitDefEqProofs [hcc,hlc,htc])
   refine Ab hex ?_
   (try simp -implicitDefEqProofs [hcc,hlc,htc,hle])
  ·have ht2:t=1:=by rcases h12 with h|h<;>simp_all
   subst ht2
   (refine FnP.of_code mix Tryz.call100 k_100 (by simp) (fun hB=>?_);(try simp at hB);(try simp -implicitDefEqProofs))
   (try simp -implicitDefEqProofs [hcc,hlc,htc])
   refine Ab hex ?_
   (try simp -implicitDefEqProofs [hcc,hlc,htc,hle])
  ·have ht2:t=2:=by rcases h12 with h|h<;>simp_all
   subst ht2
   (refine FnP.of_code mix Tryz.call100 k_100 (by simp) (fun hB=>?_);(try simp at hB);(try simp -implicitDefEqProofs))
   (try simp -implicitDefEqProofs [hcc,hlc,htc])
   refine Ab hex ?_
   (try simp -implicitDefEqProofs [hcc,hlc,htc,hle])
 rw [if_neg ht] at hE
 have hfm:=Ha D8 nm (Bp M)
 rcases hk with rfl|rfl|rfl
 ·have ht2:t=1:=by rcases h12 with h|h<;>simp_all
  subst ht2
  by_cases hnm:nm∈M
  ·have hE9:Ee=9:=by rw [←hE,if_pos ⟨rfl,by simpa [Cs] using hnm⟩]
   subst hE9
   rw [Ei,if_pos hnm] at hfm
   (refine FnP.of_code mix Tryz.call100 k_100 (by simp) (fun hB=>?_);(try simp at hB);(try simp -implicitDefEqProofs))
   (try simp -implicitDefEqProofs [hcc,hlc,htc])
   refine Ab hex ?_
   (try simp -implicitDefEqProofs [hcc,hlc,htc,hle,hfm])
  ·rw [if_neg (fun h=>hnm (by simpa [Cs] using h.2)),if_neg (by simp)] at hE
   exact absurd hE.symm h0
 ·rw [if_neg (by simp),if_neg (by simp)] at hE
  exact absurd hE.symm h0
 ·have ht2:t=1:=by rcases h12 with h|h<;>simp_all
  subst ht2
  cases hkn:Bj l acc
  ·have hE8:Ee=8:=by rw [←hE,if_neg (by simp),if_pos ⟨rfl,hkn⟩]
   subst hE8
   have hac:=hac hkn
   (refine FnP.of_code mix Tryz.call100 k_100 (by simp) (fun hB=>?_);(try simp at hB);(try simp -implicitDefEqProofs))
   (try simp -implicitDefEqProofs [hcc,hlc,htc])
   refine Ab hex ?_
   (try simp -implicitDefEqProofs [hcc,hlc,htc,hle])
   refine Be hac ?_
   (try simp -implicitDefEqProofs [hcc,hlc,htc,hle])
  ·rw [if_neg (by simp),if_neg (by simp [hkn])] at hE
   exact absurd hE.symm h0
end Go.Proofs.YtmlpmdccfmmpoaaGreatDoor
end

/- Chapter 33: the checker's rules. -/
section
set_option linter.unusedSimpArgs false
set_option linter.unusedVariables false
set_option maxHeartbeats 4000000
set_option maxRecDepth 8000
namespace Go.Proofs.YtmlpmdccfmmpoaaGreatDoor
open E

theorem Vs {s:Stm} (h:Eu s=true):s.ex.prop=true∧(s.kind=1∨s.kind=2∨s.kind=3):=by
 unfold Eu Qv at h
 simp only [Bool.and_eq_true] at h
 refine⟨h.2,?_⟩
 have h1:=h.1.1
 by_cases a:s.kind=1
 ·exact .inl a
 rw [if_neg a] at h1
 by_cases b:s.kind=2
 ·exact .inr (.inl b)
 rw [if_neg b] at h1
 by_cases c:s.kind=3
 ·exact .inr (.inr c)
 rw [if_neg c] at h1
 cases h1
theorem S6 (ss:List Stm):(Aj ss).length≤ss.length:=by
 unfold Aj;rw [List.length_map];exact List.length_filter_le _ _
theorem A65 (r:Rul) (l:List Account) (hr:D1 r=true):A8 Tryz.prog 47 [r.v,Account.l l] (vI (Jy (Bj l) r)):=by
 obtain⟨nm,pair,ss,to⟩:=r
 unfold D1 at hr
 simp only [Bool.and_eq_true,decide_eq_true_eq,List.all_eq_true] at hr
 obtain⟨⟨⟨hnm,hss⟩,hto⟩,hst⟩:=hr
 generalize hE:Jy (Bj l) ⟨nm,pair,ss,to⟩=E
 unfold Jy at hE
 simp only [] at hE
 have hrc:Rul.c ⟨nm,pair,ss,to⟩=[T.str nm,T.bool pair,T.sl (ss.map Stm.c),T.int .i64 to]:=rfl
 show FnS _ _ _ _ _ _
 (refine FnS.of_codeD mix Tryz.call47 kd_47 (by simp) (fun hB=>?_);(try simp at hB);(try simp -implicitDefEqProofs))
 (try simp -implicitDefEqProofs [hrc])
 refine A7 (X:=Nat) (fun k=>k≤ss.length∧Bv (Bj l) pair (Aj (ss.take k)) (ss.drop k)=Bv (Bj l) pair [] ss) (fun k=>[(1,Account.l l),(2,.ptr 0 0),(4,.ptr 1 0),(5,.ptr 3 0),(14,Stm.l ss),(15,vI ss.length),(16,vI k)])
  (fun k=>⟨[.cells [vS nm,vB pair,Stm.l ss,vI to],.cells [vI 0],.mp (mS D8 (Bp (Aj (ss.take k)))),.cells [.mp 2,vB pair]],[]⟩) (fun k=>ss.length-k) 0 ⟨by simp,by simp [Aj]⟩ ?_ ?_
 ·simp [Aj,Bp]
 rintro k ⟨hk,hi⟩ hbd
 clear hbd
 have hbt:=Ft [T.str nm,T.bool pair,T.sl (ss.map Stm.c),T.int .i64 to] (Aj (ss.take k)) pair
 rcases Nat.lt_or_ge k ss.length with h|h
 ·have hx:ss[k]?=some ss[k]:=by simp [h]
  have e3:IntKind.i64.wrap ((k:Int)+1)=(k:Int)+1:=wrap64 (by omega) (by omega)
  have hn:=Pe hx
  rw [A0g hx] at hi
  obtain⟨hp,hkd⟩:=Vs (hst _ (List.getElem_mem h))
  have hlen:(Aj (ss.take k)).length≤1000:=by
   have:=S6 (ss.take k)
   simp at this;omega
  have q0:=A0o [T.str nm,T.bool pair,T.sl (ss.map Stm.c),T.int .i64 to] (Aj (ss.take k)) pair ss[k] l hp hlen hkd
  have q1:=Xz [T.str nm,T.bool pair,T.sl (ss.map Stm.c),T.int .i64 to] (Aj (ss.take k)) pair ss[k] l hp hlen hkd
  rw [←hn] at q0
  generalize hs:ss[k]=s at *
  generalize Fh (Bj l) (Cs (Aj (ss.take k))) pair s=e at *
  have hlc:=M6 s
  have htc:=L6 s
  simp only [List.map_cons,List.map_nil] at q0 q1
  by_cases he:e=0
  ·rw [if_neg (by simpa using he)] at hi
   have q:=q0 he
   (try simp -implicitDefEqProofs [h,hs,hlc,htc,e3])
   refine Ab q ?_
   (try simp -implicitDefEqProofs [h,hs,hlc,htc,e3])
   exact⟨k+1,⟨by omega,by rw [hn];exact hi⟩,by omega,⟨rfl,Au (fun v hv=>by obtain⟨p,_,rfl⟩:=List.mem_map.1 hv;rfl),Au (fun v hv=>by obtain⟨p,_,rfl⟩:=List.mem_map.1 hv;rfl)⟩,by push_cast;rfl⟩
  ·rw [if_pos he] at hi
   have q:=q1 he
   (try simp -implicitDefEqProofs [h,hs,hlc,htc,e3])
   refine Be q ?_
   (try simp -implicitDefEqProofs [h,hs,hlc,htc,e3])
   refine⟨_,Yz.of_rec Tryz.call99 (by kernel_rfl) (Oa 1 _ 0 _ rfl ?_),?_⟩
   ·intro n m hn
    have hq:=(hbt [.cells (s.c.map V.t)] (fun n m _=>Er _ n m)).le n m (by simpa using hn)
    exact⟨hq.1,⟨A3 _,by simp [okNs,okN]⟩,hq.2.2⟩
   ·rw [←hi,if_pos he] at hE
    simp [hE]
 ·have:k=ss.length:=by omega
  subst this
  rw [List.drop_length,Bv] at hi
  rw [←hi,if_neg (by simp)] at hE
  rw [List.take_length] at hbt
  have hH:=hbt [] (fun _ _ _=>trivial)
  have ha:=Ui 2 (Aj ss) pair to l _ hH
  simp only [List.map_cons,List.map_nil] at ha hH
  (try simp -implicitDefEqProofs [h])
  cases hkn:Bj l to
  ·rw [hkn,if_neg (by simp)] at hE
   refine Be (ha.2 hkn) ?_
   (try simp -implicitDefEqProofs)
   refine⟨_,Yz.of_rec Tryz.call99 (by kernel_rfl) (Oa 1 _ 0 _ rfl ?_),?_⟩
   ·intro n m hn
    have hq:=hH.le n m (by simpa using hn)
    exact⟨hq.1,⟨A3 _,by simp [okNs,okN]⟩,hq.2.2⟩
   ·simp [←hE]
  ·rw [hkn,if_pos rfl] at hE
   refine Ab (ha.1 hkn) ?_
   (try simp -implicitDefEqProofs)
   refine⟨_,Yy.of_rec Tryz.call99 (by kernel_rfl) (Xu 1 _ hH.le),?_⟩
   simp [←hE]
end Go.Proofs.YtmlpmdccfmmpoaaGreatDoor
end

/- Chapter 33: check.Check. -/
section
set_option linter.unusedSimpArgs false
set_option linter.unusedVariables false
set_option maxHeartbeats 4000000
set_option maxRecDepth 8000
namespace Go.Proofs.YtmlpmdccfmmpoaaGreatDoor
open E

theorem A35 (p:List Rul) (l:List Account) (hc : ∀r∈p,∀s∈r.stmts,s.ex.cnt≤100000) (hl:l.length≤1000000) :
  A8 Tryz.prog 20 [Rul.l p,Account.l l] (.tup [vI (Uh p l).1,vI (Uh p l).2]):=by
 generalize hR:V.tup [vI (Uh p l).1,vI (Uh p l).2]=R
 unfold Uh at hR
 have hv:=Vb p hc
 have hcv:=Cht.w_cValid l true hl
 rw [Cht.valid_agree] at hcv
 by_cases h1:M7 p=true
 case neg=>
  rw [if_neg (fun h=>h1 h.1)] at hR
  subst hR
  rw [Bool.not_eq_true] at h1
  rw [h1] at hv
  (refine A8.of_code mix Tryz.call20 k_20 (by simp) (fun hB=>?_);(try simp at hB);(try simp -implicitDefEqProofs))
  ((try simp at hv);(try simp -implicitDefEqProofs);repeat' first|(with_reducible apply A0<;>first|(simp only [eras,era,A1];first|with_reducible assumption)|(simp -implicitDefEqProofs)))
 by_cases h2:Cht.validR l true=true
 case neg=>
  rw [if_neg (fun h=>h2 h.2)] at hR
  subst hR
  rw [Bool.not_eq_true] at h2
  rw [h1] at hv
  rw [h2] at hcv
  (refine A8.of_code mix Tryz.call20 k_20 (by simp) (fun hB=>?_);(try simp at hB);(try simp -implicitDefEqProofs))
  ((try simp at hv hcv);(try simp -implicitDefEqProofs);repeat' first|(with_reducible apply A0<;>first|(simp only [eras,era,A1];first|with_reducible assumption)|(simp -implicitDefEqProofs)))
 rw [if_pos ⟨h1,h2⟩] at hR
 rw [h2] at hcv
 have h3:=h1
 rw [h1] at hv
 unfold M7 at h3
 simp only [Bool.and_eq_true,decide_eq_true_eq,List.all_eq_true] at h3
 obtain⟨hrs,hpl⟩:=h3
 (refine A8.of_code mix Tryz.call20 k_20 (by simp) (fun hB=>?_);(try simp at hB);(try simp -implicitDefEqProofs))
 ((try simp at hv hcv);(try simp -implicitDefEqProofs);repeat' first|(with_reducible apply A0<;>first|(simp only [eras,era,A1];first|with_reducible assumption)|(simp -implicitDefEqProofs)))
 refine A7 (X:=Nat) (fun k=>k≤p.length∧Hr (Bj l) ((p.map (·.name)).take k) k (p.drop k)=Hr (Bj l) [] 0 p) (fun k=>[(1,Account.l l),(6,.mp 0),(19,Rul.l p),(20,vI p.length),(21,vI k)])
  (fun k=>⟨[.mp (mS D8 (Bp ((p.map (·.name)).take k)))],[]⟩) (fun k=>p.length-k) 0 ⟨by simp,by simp⟩ (by simp [Bp]) ?_
 rintro k ⟨hk,hi⟩ hbd
 clear hbd
 rcases Nat.lt_or_ge k p.length with h|h
 ·have hx:p[k]?=some p[k]:=by simp [h]
  have e3:IntKind.i64.wrap ((k:Int)+1)=(k:Int)+1:=wrap64 (by omega) (by omega)
  rw [A0h hx] at hi
  have hrule:=A65 p[k] l (hrs _ (List.getElem_mem h))
  have htk:=Ag hx
  have hN:(p.map (·.name)).take (k+1)=(p.map (·.name)).take k++[p[k].name]:=Ag (by simp [h])
  have hlen:((p.map (·.name)).take k).length≤1000:=by simp;omega
  obtain⟨nm,pr,ss,to,hr⟩ : ∃nm pr ss to,p[k]=⟨nm,pr,ss,to⟩:=⟨_,_,_,_,rfl⟩
  have hrk:(p.map Rul.c)[k]?=some [.str nm,.bool pr,.sl (ss.map Stm.c),.int .i64 to]:=by simp [h,hr,Rul.c]
  have hcc:p[k].c=[.str nm,.bool pr,.sl (ss.map Stm.c),.int .i64 to]:=by rw [hr];rfl
  rw [hr] at hrule hi hN
  generalize hE:Jy (Bj l) ⟨nm,pr,ss,to⟩=Ee at *
  simp only [Rul.v,Rul.c,List.map] at hrule hN
  simp only [] at hi
  generalize hM:(p.map (·.name)).take k=M at *
  have hfm:=Ha D8 nm (Bp M)
  rw [Ei] at hfm
  have hsm:=M8 D8 nm true (Bp M)
  by_cases hin:nm∈M
  ·rw [if_pos hin] at hfm hi
   rw [←hi] at hR
   subst hR
   (try simp -implicitDefEqProofs [h,hrk,hcc,hfm])
  ·rw [if_neg hin] at hfm hi
   rw [I5 hin] at hsm
   by_cases he:Ee=0
   ·rw [if_neg (by simpa using he)] at hi
    subst he
    (try simp -implicitDefEqProofs [h,hrk,hcc,hfm,hsm,e3])
    refine⟨by unfold maxLen;omega,?_⟩
    ((try simp at hrule);(try simp -implicitDefEqProofs [h,hrk,hcc,hfm,hsm,e3]);repeat' first|(with_reducible apply A0<;>first|(simp only [eras,era,A1];first|with_reducible assumption)|(simp -implicitDefEqProofs [h,hrk,hcc,hfm,hsm,e3])))
    exact⟨k+1,⟨by omega,by rw [hN];exact hi⟩,by omega,⟨by rw [hN],Au (fun v hv=>by obtain⟨p,_,rfl⟩:=List.mem_map.1 hv;rfl),Au (fun v hv=>by obtain⟨p,_,rfl⟩:=List.mem_map.1 hv;rfl)⟩,by push_cast;rfl⟩
   ·rw [if_pos he] at hi
    rw [←hi] at hR
    subst hR
    have he':(Ee==0)=false:=by simpa using he
    have he2:(Ee != 0)=true:=by simpa using he
    (try simp -implicitDefEqProofs [h,hrk,hcc,hfm,hsm,e3])
    refine⟨by unfold maxLen;omega,?_⟩
    ((try simp at hrule);(try simp -implicitDefEqProofs [h,hrk,hcc,hfm,hsm,e3,he,he',he2]);repeat' first|(with_reducible apply A0<;>first|(simp only [eras,era,A1];first|with_reducible assumption)|(simp -implicitDefEqProofs [h,hrk,hcc,hfm,hsm,e3,he,he',he2])))
 ·have:k=p.length:=by omega
  subst this
  rw [List.drop_length,Hr] at hi
  rw [←hi] at hR
  subst hR
  (try simp -implicitDefEqProofs [h])
  trace_state
end Go.Proofs.YtmlpmdccfmmpoaaGreatDoor
end
