/- Chapter 33: the checker's statements and rules. -/
import Derived.Test.YtmlpmdccfmmpoaaGreatDoorRfi
import Derived.Test.YtmlpmdccfmmpoaaGreatDoorPrg
import Derived.Test.YtmlpmdccfmmpoaaGreatDoorSyf
section
set_option linter.unusedSimpArgs false
set_option linter.unusedVariables false
set_option maxHeartbeats 4000000
set_option maxRecDepth 8000
namespace Go.Proofs.YtmlpmdccfmmpoaaGreatDoor
open E

theorem U1 (b:Nat) (M:List (List UInt8)) (pair:Bool) (code:Int) (l:List Account) (B:List Bx) (hB:Hlds b M B) :
  (Be l code=true→FnS Tryz.prog 101 [vC b pair,vI code,Account.l l] ⟨B,[]⟩ (.tup []) ⟨B,[]⟩)∧
  (Be l code=false→FnP Tryz.prog 101 [vC b pair,vI code,Account.l l] ⟨B,[]⟩ (Ev 8) ⟨B,[]⟩):=by
 have hg:=hB.app
 have hg0:=Mb B
 have hg1:=Ow B
 have hle:=fun l l' n m h=>Aa.app' (l:=l) (l':=l') (hB.le n m h)
 have hdr:=fun l n m h=>Aa.drop' (n:=n) (m:=m) l (hB.le n m h)
 have hbl:=hB.lt
 have hf:=Cht.w_cFind l code
 unfold Be Ev
 refine⟨fun h=>?_,fun h=>?_⟩
 ·rw [h] at hf
  generalize (Cht.findS l code).getD Cht.acc0=a at *
  obtain⟨c1,c2,c3,c4⟩:=a
  simp only [Account.v,Account.c,List.map] at hf
  (refine FnS.of_code mix Tryz.call101 k_101 (by simp) (fun hB=>?_);(try simp at hB);(try simp -implicitDefEqProofs))
  ((try simp at hf);(try simp -implicitDefEqProofs [hg,hg0,hg1,hle,hdr]);repeat' first|(with_reducible apply A0<;>first|(simp only [eras,era,A1];first|with_reducible assumption)|(simp -implicitDefEqProofs [hg,hg0,hg1,hle,hdr])))
 ·rw [h] at hf
  generalize (Cht.findS l code).getD Cht.acc0=a at *
  obtain⟨c1,c2,c3,c4⟩:=a
  simp only [Account.v,Account.c,List.map] at hf
  (refine FnP.of_code mix Tryz.call101 k_101 (by simp) (fun hB=>?_);(try simp at hB);(try simp -implicitDefEqProofs))
  ((try simp at hf);(try simp -implicitDefEqProofs [hg,hg0,hg1,hle,hdr]);repeat' first|(with_reducible apply A0<;>first|(simp only [eras,era,A1];first|with_reducible assumption)|(simp -implicitDefEqProofs [hg,hg0,hg1,hle,hdr])))
theorem Ff (R:List T) (M:List (List UInt8)) (pair:Bool) (tl:List Bx) (htl : ∀n m,4+tl.length≤n→Aa n m tl tl):Hlds 2 M (.cells (R.map V.t)::.cells [vI 0]::.mp (mS D6 (Bm M))::.cells [.mp 2,vB pair]::tl):=⟨rfl,fun n m hn=>by
 simp only [List.length_cons] at hn
 refine⟨⟨A4 _,?_⟩,⟨A4 _,?_⟩,⟨rfl,?_,?_⟩,⟨A4 _,?_⟩,htl n m (by omega)⟩
 ·exact Ak (fun v hv=>by obtain⟨t,_,rfl⟩:=List.mem_map.1 hv;rfl)
 ·simp [okNs,okN]
 ·exact Ak (fun v hv=>by obtain⟨p,hp',rfl⟩:=List.mem_map.1 hv;obtain⟨q,_,rfl⟩:=List.mem_map.1 hp';rfl)
 ·exact Ak (fun v hv=>by obtain⟨p,hp',rfl⟩:=List.mem_map.1 hv;obtain⟨q,_,rfl⟩:=List.mem_map.1 hp';rfl)
 ·simp [okNs,okN];omega⟩
theorem Ei (ts:List T) (n m:Nat):Aa n m [.cells (ts.map V.t)] [.cells (ts.map V.t)]:=
 ⟨⟨A4 _,Ak (fun v hv=>by obtain⟨t,_,rfl⟩:=List.mem_map.1 hv;rfl)⟩,trivial⟩
theorem A0c {known pair wrong:Bool} {e k f t:Int} : (Fx known pair wrong e k f t).2=0→(Fx known pair wrong e k f t).1=Jr k:=by
 unfold Fx
 by_cases h1:e≠0
 ·rw [if_pos h1];exact fun h=>absurd h h1
 rw [if_neg h1]
 by_cases h2:wrong=true
 ·rw [if_pos h2];exact fun h=>absurd h (by decide)
 rw [if_neg h2]
 by_cases h3:k=2∧known=false
 ·rw [if_pos h3];exact fun h=>absurd h (by decide)
 rw [if_neg h3]
 by_cases h4:(k=21∨k=22)∧t<f
 ·rw [if_pos h4];exact fun h=>absurd h (by decide)
 rw [if_neg h4]
 by_cases h5:k=22∧pair=false
 ·rw [if_pos h5];exact fun h=>absurd h (by decide)
 rw [if_neg h5]
 exact fun _=>rfl
theorem V8 (x:Xp) (q:List UInt8→Bool) (pair:Bool) (h:(x.inf q pair).2=0):(x.inf q pair).1=1∨(x.inf q pair).1=2:=by
 obtain⟨k,v,f,t,n,xs⟩:=x
 rw [Xp.inf] at h ⊢
 rw [A0c h]
 unfold Jr;split<;>simp
theorem A0d (R:List T) (M:List (List UInt8)) (pair:Bool) (s:Stm) (l:List Account) (hp:s.ex.prop=true) (hML:M.length≤1000)
  (hk:s.kind=1∨s.kind=2∨s.kind=3) (h0:D9 (Be l) (Cf M) pair s=0) :
  FnS Tryz.prog 100 [vC 2 pair,s.v,Account.l l] ⟨[.cells (R.map V.t),.cells [vI 0],.mp (mS D6 (Bm M)),.cells [.mp 2,vB pair],.cells (s.c.map V.t)],[]⟩ (.tup [])
   ⟨[.cells (R.map V.t),.cells [vI 0],.mp (mS D6 (Bm (M++Af [s]))),.cells [.mp 2,vB pair],.cells (s.c.map V.t)],[]⟩:=by
 obtain⟨kd,acc,nm,x⟩:=s
 unfold D9 at h0
 simp only [] at hk hp h0
 by_cases hi:(x.inf (Cf M) pair).2=0
 case neg=>rw [if_pos hi] at h0;exact absurd h0 hi
 rw [if_neg (by simpa using hi)] at h0
 have h12:=V8 x _ _ hi
 have hlc:=Dv x
 have htc:=Cw x
 have hlR:=Ff R (M++Af [⟨kd,acc,nm,x⟩]) pair [.cells ((Stm.c ⟨kd,acc,nm,x⟩).map V.t)] (fun n m _=>Ei _ n m)
 have hH:=Ff R M pair [.cells ((Stm.c ⟨kd,acc,nm,x⟩).map V.t),.cells [.mp 2,vB pair],.cells ((Stm.c ⟨kd,acc,nm,x⟩).map V.t)] (fun n m hn=>⟨(Ei _ n m).1,⟨A4 _,by simp at hn;simp [okNs,okN];omega⟩,Ei _ n m⟩)
 have hex:=(A01 2 M pair x hp _ hH).1 hi
 have hac:=(U1 2 M pair acc l _ hH).1
 have hx1:(x.inf (fun s=>decide (s∈M)) pair)=x.inf (Cf M) pair:=rfl
 rw [hx1] at hex
 have hcc:Stm.c ⟨kd,acc,nm,x⟩=.int .i64 kd::.int .i64 acc::.str nm::x.c:=rfl
 rw [hcc] at hlR hH hex hac
 have hle:=hlR.le 5 0 (by simp)
 simp only [List.map_cons] at hle hex hac
 generalize (x.inf (Cf M) pair).1=t at *
 have ht:((t==2) != (kd==2))=false:=by
  cases h:((t==2) != (kd==2))
  ·rfl
  ·rw [h] at h0;simp at h0
 rw [ht] at h0
 simp only [Bool.false_eq_true,if_false] at h0
 rcases hk with rfl|rfl|rfl
 ·have ht2:t=1:=by rcases h12 with h|h<;>simp_all
  subst ht2
  have hnm:nm∉M:=fun h=>by simp [Cf,h] at h0
  have hfm:=Fp D6 nm (Bm M)
  rw [Ed,if_neg hnm] at hfm
  have hsm:=Lz D6 nm true (Bm M)
  rw [Ht hnm] at hsm
  have hN:Af [⟨1,acc,nm,x⟩]=[nm]:=rfl
  rw [hN] at hle ⊢
  simp [Aa,E.leB] at hle
  (refine FnS.of_code mix Tryz.call100 k_100 (by simp) (fun hB=>?_);(try simp at hB);(try simp -implicitDefEqProofs))
  (try simp -implicitDefEqProofs [hcc,hlc,htc])
  refine A8 hex ?_
  (try simp -implicitDefEqProofs [hcc,hlc,htc,hfm,hsm,hle])
  simp [maxLen];omega
 ·have ht2:t=2:=by rcases h12 with h|h<;>simp_all
  subst ht2
  have hN:Af [⟨2,acc,nm,x⟩]=[]:=rfl
  rw [hN,List.append_nil] at hle ⊢
  simp [Aa,E.leB] at hle
  (refine FnS.of_code mix Tryz.call100 k_100 (by simp) (fun hB=>?_);(try simp at hB);(try simp -implicitDefEqProofs))
  (try simp -implicitDefEqProofs [hcc,hlc,htc])
  refine A8 hex ?_
  (try simp -implicitDefEqProofs [hcc,hlc,htc,hle])
 ·have ht2:t=1:=by rcases h12 with h|h<;>simp_all
  subst ht2
  have hN:Af [⟨3,acc,nm,x⟩]=[]:=rfl
  rw [hN,List.append_nil] at hle ⊢
  simp [Aa,E.leB] at hle
  have hkn:Be l acc=true:=by
   cases h:Be l acc
   ·rw [h] at h0;simp at h0
   ·rfl
  have hac:=hac hkn
  (refine FnS.of_code mix Tryz.call100 k_100 (by simp) (fun hB=>?_);(try simp at hB);(try simp -implicitDefEqProofs))
  (try simp -implicitDefEqProofs [hcc,hlc,htc])
  refine A8 hex ?_
  (try simp -implicitDefEqProofs [hcc,hlc,htc,hle])
  refine A8 hac ?_
  (try simp -implicitDefEqProofs [hcc,hlc,htc,hle])
theorem Xm (R:List T) (M:List (List UInt8)) (pair:Bool) (s:Stm) (l:List Account) (hp:s.ex.prop=true) (hML:M.length≤1000)
  (hk:s.kind=1∨s.kind=2∨s.kind=3) (h0:D9 (Be l) (Cf M) pair s≠0) :
  FnP Tryz.prog 100 [vC 2 pair,s.v,Account.l l] ⟨[.cells (R.map V.t),.cells [vI 0],.mp (mS D6 (Bm M)),.cells [.mp 2,vB pair],.cells (s.c.map V.t)],[]⟩ (Ev (D9 (Be l) (Cf M) pair s))
   ⟨[.cells (R.map V.t),.cells [vI 0],.mp (mS D6 (Bm M)),.cells [.mp 2,vB pair],.cells (s.c.map V.t)],[]⟩:=by
 obtain⟨kd,acc,nm,x⟩:=s
 generalize hE:D9 (Be l) (Cf M) pair ⟨kd,acc,nm,x⟩=Ee at *
 unfold D9 at hE
 simp only [] at hk hp hE
 have hlc:=Dv x
 have htc:=Cw x
 have hlR:=Ff R M pair [.cells ((Stm.c ⟨kd,acc,nm,x⟩).map V.t)] (fun n m _=>Ei _ n m)
 have hH:=Ff R M pair [.cells ((Stm.c ⟨kd,acc,nm,x⟩).map V.t),.cells [.mp 2,vB pair],.cells ((Stm.c ⟨kd,acc,nm,x⟩).map V.t)] (fun n m hn=>⟨(Ei _ n m).1,⟨A4 _,by simp at hn;simp [okNs,okN];omega⟩,Ei _ n m⟩)
 have hex:=(A01 2 M pair x hp _ hH)
 have hac:=(U1 2 M pair acc l _ hH).2
 have hx1:(x.inf (fun s=>decide (s∈M)) pair)=x.inf (Cf M) pair:=rfl
 rw [hx1] at hex
 have hcc:Stm.c ⟨kd,acc,nm,x⟩=.int .i64 kd::.int .i64 acc::.str nm::x.c:=rfl
 rw [hcc] at hlR hH hex hac
 have hle:=hlR.le 5 0 (by simp)
 simp only [List.map_cons] at hle hex hac
 simp [Aa,E.leB] at hle
 by_cases hi:(x.inf (Cf M) pair).2=0
 case neg=>
  rw [if_pos hi] at hE
  have hex:=hex.2 hi
  rw [hE] at hex
  unfold Ev at hex ⊢
  rcases hk with rfl|rfl|rfl
  all_goals
   (refine FnP.of_code mix Tryz.call100 k_100 (by simp) (fun hB=>?_);(try simp at hB);(try simp -implicitDefEqProofs))
   (try simp -implicitDefEqProofs [hcc,hlc,htc])
   refine Ba hex ?_
   (try simp -implicitDefEqProofs [hcc,hlc,htc,hle])
 rw [if_neg (by simpa using hi)] at hE
 have h12:=V8 x _ _ hi
 have hex:=hex.1 hi
 generalize (x.inf (Cf M) pair).1=t at *
 unfold Ev at hac ⊢
 by_cases ht:((t==2) != (kd==2))=true
 ·rw [if_pos ht] at hE
  subst hE
  rcases hk with rfl|rfl|rfl
  ·have ht2:t=2:=by rcases h12 with h|h<;>simp_all
   subst ht2
   (refine FnP.of_code mix Tryz.call100 k_100 (by simp) (fun hB=>?_);(try simp at hB);(try simp -implicitDefEqProofs))
   (try simp -implicitDefEqProofs [hcc,hlc,htc])
   refine A8 hex ?_
   (try simp -implicitDefEqProofs [hcc,hlc,htc,hle])
  ·have ht2:t=1:=by rcases h12 with h|h<;>simp_all
   subst ht2
   (refine FnP.of_code mix Tryz.call100 k_100 (by simp) (fun hB=>?_);(try simp at hB);(try simp -implicitDefEqProofs))
   (try simp -implicitDefEqProofs [hcc,hlc,htc])
   refine A8 hex ?_
   (try simp -implicitDefEqProofs [hcc,hlc,htc,hle])
  ·have ht2:t=2:=by rcases h12 with h|h<;>simp_all
   subst ht2
   (refine FnP.of_code mix Tryz.call100 k_100 (by simp) (fun hB=>?_);(try simp at hB);(try simp -implicitDefEqProofs))
   (try simp -implicitDefEqProofs [hcc,hlc,htc])
   refine A8 hex ?_
   (try simp -implicitDefEqProofs [hcc,hlc,htc,hle])
 rw [if_neg ht] at hE
 have hfm:=Fp D6 nm (Bm M)
 rcases hk with rfl|rfl|rfl
 ·have ht2:t=1:=by rcases h12 with h|h<;>simp_all
  subst ht2
  by_cases hnm:nm∈M
  ·have hE9:Ee=9:=by rw [←hE,if_pos ⟨rfl,by simpa [Cf] using hnm⟩]
   subst hE9
   rw [Ed,if_pos hnm] at hfm
   (refine FnP.of_code mix Tryz.call100 k_100 (by simp) (fun hB=>?_);(try simp at hB);(try simp -implicitDefEqProofs))
   (try simp -implicitDefEqProofs [hcc,hlc,htc])
   refine A8 hex ?_
   (try simp -implicitDefEqProofs [hcc,hlc,htc,hle,hfm])
  ·rw [if_neg (fun h=>hnm (by simpa [Cf] using h.2)),if_neg (by simp)] at hE
   exact absurd hE.symm h0
 ·rw [if_neg (by simp),if_neg (by simp)] at hE
  exact absurd hE.symm h0
 ·have ht2:t=1:=by rcases h12 with h|h<;>simp_all
  subst ht2
  cases hkn:Be l acc
  ·have hE8:Ee=8:=by rw [←hE,if_neg (by simp),if_pos ⟨rfl,hkn⟩]
   subst hE8
   have hac:=hac hkn
   (refine FnP.of_code mix Tryz.call100 k_100 (by simp) (fun hB=>?_);(try simp at hB);(try simp -implicitDefEqProofs))
   (try simp -implicitDefEqProofs [hcc,hlc,htc])
   refine A8 hex ?_
   (try simp -implicitDefEqProofs [hcc,hlc,htc,hle])
   refine Ba hac ?_
   (try simp -implicitDefEqProofs [hcc,hlc,htc,hle])
  ·rw [if_neg (by simp),if_neg (by simp [hkn])] at hE
   exact absurd hE.symm h0
end Go.Proofs.YtmlpmdccfmmpoaaGreatDoor
end

/- Chapter 33: the checker's rules. -/
section
set_option linter.unusedSimpArgs false
set_option linter.unusedVariables false
set_option maxHeartbeats 4000000
set_option maxRecDepth 8000
namespace Go.Proofs.YtmlpmdccfmmpoaaGreatDoor
open E

theorem V9 {s:Stm} (h:F2 s=true):s.ex.prop=true∧(s.kind=1∨s.kind=2∨s.kind=3):=by
 unfold F2 Tw at h
 simp only [Bool.and_eq_true] at h
 refine⟨h.2,?_⟩
 have h1:=h.1.1
 by_cases a:s.kind=1
 ·exact .inl a
 rw [if_neg a] at h1
 by_cases b:s.kind=2
 ·exact .inr (.inl b)
 rw [if_neg b] at h1
 by_cases c:s.kind=3
 ·exact .inr (.inr c)
 rw [if_neg c] at h1
 cases h1
theorem Kf (ss:List Stm):(Af ss).length≤ss.length:=by
 unfold Af;rw [List.length_map];exact List.length_filter_le _ _
theorem A5r (r:Rul) (l:List Account) (hr:D7 r=true):A7 Tryz.prog 47 [r.v,Account.l l] (vI (Fy (Be l) r)):=by
 obtain⟨nm,pair,ss,to⟩:=r
 unfold D7 at hr
 simp only [Bool.and_eq_true,decide_eq_true_eq,List.all_eq_true] at hr
 obtain⟨⟨⟨hnm,hss⟩,hto⟩,hst⟩:=hr
 generalize hE:Fy (Be l) ⟨nm,pair,ss,to⟩=E
 unfold Fy at hE
 simp only [] at hE
 have hrc:Rul.c ⟨nm,pair,ss,to⟩=[T.str nm,T.bool pair,T.sl (ss.map Stm.c),T.int .i64 to]:=rfl
 show FnS _ _ _ _ _ _
 (refine FnS.of_codeD mix Tryz.call47 kd_47 (by simp) (fun hB=>?_);(try simp at hB);(try simp -implicitDefEqProofs))
 (try simp -implicitDefEqProofs [hrc])
 refine Ac (X:=Nat) (fun k=>k≤ss.length∧Bh (Be l) pair (Af (ss.take k)) (ss.drop k)=Bh (Be l) pair [] ss) (fun k=>[(1,Account.l l),(2,.ptr 0 0),(4,.ptr 1 0),(5,.ptr 3 0),(14,Stm.l ss),(15,vI ss.length),(16,vI k)])
  (fun k=>⟨[.cells [vS nm,vB pair,Stm.l ss,vI to],.cells [vI 0],.mp (mS D6 (Bm (Af (ss.take k)))),.cells [.mp 2,vB pair]],[]⟩) (fun k=>ss.length-k) 0 ⟨by simp,by simp [Af]⟩ ?_ ?_
 ·simp [Af,Bm]
 rintro k ⟨hk,hi⟩ hbd
 clear hbd
 have hbt:=Ff [T.str nm,T.bool pair,T.sl (ss.map Stm.c),T.int .i64 to] (Af (ss.take k)) pair
 rcases Nat.lt_or_ge k ss.length with h|h
 ·have hx:ss[k]?=some ss[k]:=by simp [h]
  have e3:IntKind.i64.wrap ((k:Int)+1)=(k:Int)+1:=wrap64 (by omega) (by omega)
  have hn:=J5 hx
  rw [Ri hx] at hi
  obtain⟨hp,hkd⟩:=V9 (hst _ (List.getElem_mem h))
  have hlen:(Af (ss.take k)).length≤1000:=by
   have:=Kf (ss.take k)
   simp at this;omega
  have q0:=A0d [T.str nm,T.bool pair,T.sl (ss.map Stm.c),T.int .i64 to] (Af (ss.take k)) pair ss[k] l hp hlen hkd
  have q1:=Xm [T.str nm,T.bool pair,T.sl (ss.map Stm.c),T.int .i64 to] (Af (ss.take k)) pair ss[k] l hp hlen hkd
  rw [←hn] at q0
  generalize hs:ss[k]=s at *
  generalize D9 (Be l) (Cf (Af (ss.take k))) pair s=e at *
  have hlc:=Ly s
  have htc:=Kx s
  simp only [List.map_cons,List.map_nil] at q0 q1
  by_cases he:e=0
  ·rw [if_neg (by simpa using he)] at hi
   have q:=q0 he
   (try simp -implicitDefEqProofs [h,hs,hlc,htc,e3])
   refine A8 q ?_
   (try simp -implicitDefEqProofs [h,hs,hlc,htc,e3])
   exact⟨k+1,⟨by omega,by rw [hn];exact hi⟩,by omega,⟨rfl,Ak (fun v hv=>by obtain⟨p,_,rfl⟩:=List.mem_map.1 hv;rfl),Ak (fun v hv=>by obtain⟨p,_,rfl⟩:=List.mem_map.1 hv;rfl)⟩,by push_cast;rfl⟩
  ·rw [if_pos he] at hi
   have q:=q1 he
   (try simp -implicitDefEqProofs [h,hs,hlc,htc,e3])
   refine Ba q ?_
   (try simp -implicitDefEqProofs [h,hs,hlc,htc,e3])
   refine⟨_,Yh.of_rec Tryz.call99 (by kernel_rfl) (Nq 1 _ 0 _ rfl ?_),?_⟩
   ·intro n m hn
    have hq:=(hbt [.cells (s.c.map V.t)] (fun n m _=>Ei _ n m)).le n m (by simpa using hn)
    exact⟨hq.1,⟨A4 _,by simp [okNs,okN]⟩,hq.2.2⟩
   ·rw [←hi,if_pos he] at hE
    simp [hE]
 ·have:k=ss.length:=by omega
  subst this
  rw [List.drop_length,Bh] at hi
  rw [←hi,if_neg (by simp)] at hE
  rw [List.take_length] at hbt
  have hH:=hbt [] (fun _ _ _=>trivial)
  have ha:=U1 2 (Af ss) pair to l _ hH
  simp only [List.map_cons,List.map_nil] at ha hH
  (try simp -implicitDefEqProofs [h])
  cases hkn:Be l to
  ·rw [hkn,if_neg (by simp)] at hE
   refine Ba (ha.2 hkn) ?_
   (try simp -implicitDefEqProofs)
   refine⟨_,Yh.of_rec Tryz.call99 (by kernel_rfl) (Nq 1 _ 0 _ rfl ?_),?_⟩
   ·intro n m hn
    have hq:=hH.le n m (by simpa using hn)
    exact⟨hq.1,⟨A4 _,by simp [okNs,okN]⟩,hq.2.2⟩
   ·simp [←hE]
  ·rw [hkn,if_pos rfl] at hE
   refine A8 (ha.1 hkn) ?_
   (try simp -implicitDefEqProofs)
   refine⟨_,Yg.of_rec Tryz.call99 (by kernel_rfl) (Xg 1 _ hH.le),?_⟩
   simp [←hE]
end Go.Proofs.YtmlpmdccfmmpoaaGreatDoor
end

/- Chapter 33: check.Check. -/
section
set_option linter.unusedSimpArgs false
set_option linter.unusedVariables false
set_option maxHeartbeats 4000000
set_option maxRecDepth 8000
namespace Go.Proofs.YtmlpmdccfmmpoaaGreatDoor
open E

theorem P0 (p:List Rul) (l:List Account) (hc : ∀r∈p,∀s∈r.stmts,s.ex.cnt≤100000) (hl:l.length≤1000000) :
  A7 Tryz.prog 20 [Rul.l p,Account.l l] (.tup [vI (G8 p l).1,vI (G8 p l).2]):=by
 generalize hR:V.tup [vI (G8 p l).1,vI (G8 p l).2]=R
 unfold G8 at hR
 have hv:=V5 p hc
 have hcv:=Cht.w_cValid l true hl
 rw [Cht.valid_agree] at hcv
 by_cases h1:Kn p=true
 case neg=>
  rw [if_neg (fun h=>h1 h.1)] at hR
  subst hR
  rw [Bool.not_eq_true] at h1
  rw [h1] at hv
  (refine A7.of_code mix Tryz.call20 k_20 (by simp) (fun hB=>?_);(try simp at hB);(try simp -implicitDefEqProofs))
  ((try simp at hv);(try simp -implicitDefEqProofs);repeat' first|(with_reducible apply A0<;>first|(simp only [eras,era,A1];first|with_reducible assumption)|(simp -implicitDefEqProofs)))
 by_cases h2:Cht.validR l true=true
 case neg=>
  rw [if_neg (fun h=>h2 h.2)] at hR
  subst hR
  rw [Bool.not_eq_true] at h2
  rw [h1] at hv
  rw [h2] at hcv
  (refine A7.of_code mix Tryz.call20 k_20 (by simp) (fun hB=>?_);(try simp at hB);(try simp -implicitDefEqProofs))
  ((try simp at hv hcv);(try simp -implicitDefEqProofs);repeat' first|(with_reducible apply A0<;>first|(simp only [eras,era,A1];first|with_reducible assumption)|(simp -implicitDefEqProofs)))
 rw [if_pos ⟨h1,h2⟩] at hR
 rw [h2] at hcv
 have h3:=h1
 rw [h1] at hv
 unfold Kn at h3
 simp only [Bool.and_eq_true,decide_eq_true_eq,List.all_eq_true] at h3
 obtain⟨hrs,hpl⟩:=h3
 (refine A7.of_code mix Tryz.call20 k_20 (by simp) (fun hB=>?_);(try simp at hB);(try simp -implicitDefEqProofs))
 ((try simp at hv hcv);(try simp -implicitDefEqProofs);repeat' first|(with_reducible apply A0<;>first|(simp only [eras,era,A1];first|with_reducible assumption)|(simp -implicitDefEqProofs)))
 refine Ac (X:=Nat) (fun k=>k≤p.length∧Ew (Be l) ((p.map (·.name)).take k) k (p.drop k)=Ew (Be l) [] 0 p) (fun k=>[(1,Account.l l),(6,.mp 0),(19,Rul.l p),(20,vI p.length),(21,vI k)])
  (fun k=>⟨[.mp (mS D6 (Bm ((p.map (·.name)).take k)))],[]⟩) (fun k=>p.length-k) 0 ⟨by simp,by simp⟩ (by simp [Bm]) ?_
 rintro k ⟨hk,hi⟩ hbd
 clear hbd
 rcases Nat.lt_or_ge k p.length with h|h
 ·have hx:p[k]?=some p[k]:=by simp [h]
  have e3:IntKind.i64.wrap ((k:Int)+1)=(k:Int)+1:=wrap64 (by omega) (by omega)
  rw [A04 hx] at hi
  have hrule:=A5r p[k] l (hrs _ (List.getElem_mem h))
  have htk:=Ag hx
  have hN:(p.map (·.name)).take (k+1)=(p.map (·.name)).take k++[p[k].name]:=Ag (by simp [h])
  have hlen:((p.map (·.name)).take k).length≤1000:=by simp;omega
  obtain⟨nm,pr,ss,to,hr⟩ : ∃nm pr ss to,p[k]=⟨nm,pr,ss,to⟩:=⟨_,_,_,_,rfl⟩
  have hrk:(p.map Rul.c)[k]?=some [.str nm,.bool pr,.sl (ss.map Stm.c),.int .i64 to]:=by simp [h,hr,Rul.c]
  have hcc:p[k].c=[.str nm,.bool pr,.sl (ss.map Stm.c),.int .i64 to]:=by rw [hr];rfl
  rw [hr] at hrule hi hN
  generalize hE:Fy (Be l) ⟨nm,pr,ss,to⟩=Ee at *
  simp only [Rul.v,Rul.c,List.map] at hrule hN
  simp only [] at hi
  generalize hM:(p.map (·.name)).take k=M at *
  have hfm:=Fp D6 nm (Bm M)
  rw [Ed] at hfm
  have hsm:=Lz D6 nm true (Bm M)
  by_cases hin:nm∈M
  ·rw [if_pos hin] at hfm hi
   rw [←hi] at hR
   subst hR
   (try simp -implicitDefEqProofs [h,hrk,hcc,hfm])
  ·rw [if_neg hin] at hfm hi
   rw [Ht hin] at hsm
   by_cases he:Ee=0
   ·rw [if_neg (by simpa using he)] at hi
    subst he
    (try simp -implicitDefEqProofs [h,hrk,hcc,hfm,hsm,e3])
    refine⟨by unfold maxLen;omega,?_⟩
    ((try simp at hrule);(try simp -implicitDefEqProofs [h,hrk,hcc,hfm,hsm,e3]);repeat' first|(with_reducible apply A0<;>first|(simp only [eras,era,A1];first|with_reducible assumption)|(simp -implicitDefEqProofs [h,hrk,hcc,hfm,hsm,e3])))
    exact⟨k+1,⟨by omega,by rw [hN];exact hi⟩,by omega,⟨by rw [hN],Ak (fun v hv=>by obtain⟨p,_,rfl⟩:=List.mem_map.1 hv;rfl),Ak (fun v hv=>by obtain⟨p,_,rfl⟩:=List.mem_map.1 hv;rfl)⟩,by push_cast;rfl⟩
   ·rw [if_pos he] at hi
    rw [←hi] at hR
    subst hR
    have he':(Ee==0)=false:=by simpa using he
    have he2:(Ee != 0)=true:=by simpa using he
    (try simp -implicitDefEqProofs [h,hrk,hcc,hfm,hsm,e3])
    refine⟨by unfold maxLen;omega,?_⟩
    ((try simp at hrule);(try simp -implicitDefEqProofs [h,hrk,hcc,hfm,hsm,e3,he,he',he2]);repeat' first|(with_reducible apply A0<;>first|(simp only [eras,era,A1];first|with_reducible assumption)|(simp -implicitDefEqProofs [h,hrk,hcc,hfm,hsm,e3,he,he',he2])))
 ·have:k=p.length:=by omega
  subst this
  rw [List.drop_length,Ew] at hi
  rw [←hi] at hR
  subst hR
  (try simp -implicitDefEqProofs [h])
  trace_state
end Go.Proofs.YtmlpmdccfmmpoaaGreatDoor
end
