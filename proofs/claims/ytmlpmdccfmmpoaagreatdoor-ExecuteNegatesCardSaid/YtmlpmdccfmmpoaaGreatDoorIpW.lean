/- Chapter 35: the program's interpret. -/
import Derived.Test.YtmlpmdccfmmpoaaGreatDoorPrg
import Derived.Test.YtmlpmdccfmmpoaaGreatDoorExM
import Derived.Test.YtmlpmdccfmmpoaaGreatDoorExK
import Derived.Test.YtmlpmdccfmmpoaaGreatDoorVaO
import Derived.Test.YtmlpmdccfmmpoaaGreatDoorExQ
import Derived.Test.YtmlpmdccfmmpoaaGreatDoorExV
set_option linter.unusedSimpArgs false
set_option linter.unusedVariables false
set_option maxHeartbeats 4000000
set_option maxRecDepth 8000
namespace Go.Proofs.YtmlpmdccfmmpoaaGreatDoor
open E
def Uj:List Int:=[0,0,0,5,6,0,8,10,11,12,13,14,15,16,17,18,19,20,21,22,9,0,0]
theorem A66:A8 Tryz.prog 73 [] (.agg (Uj.map vI)):=by
 unfold Uj
 (refine A8.of_code mix Tryz.call73 k_73 (by simp) (fun hB=>?_);(try simp at hB);(try simp -implicitDefEqProofs))
 (try simp -implicitDefEqProofs)
theorem A39 {k:Int} (h1:1≤k) (h2:k≤22) (n1:k≠1) (n2:k≠2) (n5:k≠5) (n21:k≠21) (n22:k≠22):Uj[k.toNat]?=some (Eb k):=by
 rcases (by omega:k=3∨k=4∨k=6∨k=7∨k=8∨k=9∨k=10∨k=11∨k=12∨k=13∨k=14∨k=15∨k=16∨k=17∨k=18∨k=19∨k=20) with h|h|h|h|h|h|h|h|h|h|h|h|h|h|h|h|h<;>(subst h;rfl)
def Y3 (B:List Bx) (nv:V) (q:List UInt8→Int):Prop:=(nv=.t .nilm∧∀n,q n=0)∨∃(nb:Nat) (L:List (List UInt8×Int)),nv=.mp nb∧B[nb]?=some (.mp (mS vI L))∧∀n,q n=(B7 L n).getD 0
theorem Y3.app {B:List Bx} {nv:V} {q:List UInt8→Int} (h:Y3 B nv q) (l:List Bx):Y3 (B++l) nv q:=by
 rcases h with h|⟨nb,L,h1,h2,h3⟩
 ·exact .inl h
 ·exact .inr ⟨nb,L,h1,Ae h2 l,h3⟩
theorem Y3.ok {B:List Bx} {nv:V} {q:List UInt8→Int} (h:Y3 B nv q) {n m:Nat} (hn:B.length≤n):okN n m nv=true:=by
 rcases h with ⟨rfl,_⟩|⟨nb,L,rfl,h2,_⟩
 ·rfl
 ·have:=A4 h2;simp [okN];omega
structure VS where
 i:Nat
 vs:List Int
theorem Vt (s:Src) (hs:s.Ok) (oth:Int) (kn:List UInt8→Bool) (pair:Bool) (q:List UInt8→Int) (hpo:pair=true→0≤oth) : ∀(x:Xp),x.prop=true→(x.inf kn pair).2=0→∀(B:List Bx) (hU:OkU B) (b:Nat) (lv:V) (mb:Nat) (sum:Int) (hb:B[b]?=some (.cells (mC s oth lv mb sum))) (nv:V) (hn:Y3 B nv q),
  FnS Tryz.prog 30 [.ptr b 0,x.v,nv] ⟨B,[]⟩ (vO (x.valE s oth q)) ⟨B,[]⟩:=by
 refine Xp.ind fun k v f t n xs ih hp hi B hU b lv mb sum hb nv hn=>?_
 simp only [Xp.prop,Bool.and_eq_true] at hp
 have hi':(G8 (kn n) pair (Xp.infs kn pair (Jc k) xs).2 (Xp.infs kn pair (Jc k) xs).1 k f t).2=0:=by simpa [Xp.inf] using hi
 obtain⟨f1,f2,f3,f4⟩:=K0 hi'
 have hpm:=Xp.props_mem hp.2
 have him:=Xp.infs_all xs f1
 obtain⟨k1,k2,k3⟩:=Vq hp.1
 have hx2:xs.length≤2:=by
  have:Cb k≤2:=by unfold Cb;split<;>(try split)<;>omega
  omega
 have hbl:=A4 hb
 obtain⟨R,hR⟩ : ∃R,R=(Xp.mk k v f t n xs).valE s oth q:=⟨_,rfl⟩
 rw [←hR]
 rw [Xp.valE] at hR
 have hbE : ∀l:List Bx,(B++l)[b]?=some (.cells (mC s oth lv mb sum)):=fun l=>Ae hb l
 have gz : ∀(l:List Bx),(B++l)[B.length]?=l[0]?:=fun l=>by rw [List.getElem?_append_right (by omega)];congr 1;omega
 have g1 : ∀(l:List Bx) (j:Nat),(B++l)[B.length+j]?=l[j]?:=fun l j=>by rw [List.getElem?_append_right (by omega)];congr 1;omega
 have s1 : ∀(l:List Bx) (j:Nat) (w:Bx),(B++l).set (B.length+j) w=B++l.set j w:=fun l j w=>by rw [List.set_append_right _ _ (by omega)];congr 2;omega
 have hle : ∀(l l':List Bx) n m,B.length≤n→(A6 n m (B++l) (B++l')↔A6 n m l l'):=fun l l' n m h=>A6.appU (hU n m h)
 have hdrop : ∀(l:List Bx) m,A6 B.length m (B++l) B:=fun l m=>A6.ext l (hU _ m (Nat.le_refl _))
 have hnv : ∀j m,okN (B.length+j) m nv=true:=fun j m=>hn.ok (by omega)
 have hval:=fun (x:Xp) (hx:x∈xs) (l:List Bx) (hl : ∀n m,A6 n m l l)=>ih x hx (hpm x hx) (him x hx) (B++l) (fun n m h=>(hle l l n m (by simp at h;omega)).2 (hl n m)) b lv mb sum (hbE l) nv (hn.app l)
 obtain⟨r1,r2⟩:=R
 rw [show (Xp.mk k v f t n xs).v=.agg [vI k,vI v,vI f,vI t,vS n,.t (.sl (xs.map Xp.c))] from by show V.agg _=_;rw [Xp.c_mk];rfl]
 unfold vO
 (refine FnS.of_code mix Tryz.call30 k_30 (by simp) (fun hB=>?_);(try simp at hB);(try simp -implicitDefEqProofs))
 (try simp -implicitDefEqProofs [gz,g1,s1])
 refine A7 (X:=VS) (fun X=>X.i≤xs.length∧X.vs.length=X.i∧(Xp.valEs s oth q (xs.drop X.i)).map (X.vs ++ ·)=Xp.valEs s oth q xs)
  (fun X=>[(0,.ptr b 0),(2,nv),(4,.ptr B.length 0),(8,.ptr (B.length+1) 0),(14,.t (.sl (xs.map Xp.c))),(15,vI xs.length),(16,vI X.i)])
  (fun X=>⟨B++[.cells [vI k,vI v,vI f,vI t,vS n,.t (.sl (xs.map Xp.c))],.cells [vI (X.vs.getD 0 0),vI (X.vs.getD 1 0)]],[]⟩) (fun X=>xs.length-X.i) ⟨0,[]⟩ ⟨by simp,rfl,by simp⟩ ?hs ?_
 case hs=>
  simp [hle,E.leB,A3,okNs,okN,hnv]
  omega
 rintro ⟨i,vs⟩ ⟨hi2,hvl,hvs⟩ hbd
 simp only [] at hi2 hvl hvs
 clear hbd
 have e3:IntKind.i64.wrap ((i:Int)+1)=(i:Int)+1:=wrap64 (by omega) (by omega)
 rcases Nat.lt_or_ge i xs.length with h|h
 ·obtain⟨a,ha⟩:=Aa h
  have ham:a∈xs:=List.mem_of_getElem? ha
  have hdr:xs.drop i=a::xs.drop (i+1):=by
   obtain⟨h1,h2⟩:=List.getElem?_eq_some_iff.1 ha
   rw [List.drop_eq_getElem_cons h1,h2]
  rw [hdr,Xp.valEs] at hvs
  have hxc:(xs.map Xp.c)[i]?=some a.c:=by simp [ha]
  have hxc' : ∀h,(xs.map Xp.c)[i]'h=a.c:=fun h=>by rw [List.getElem?_eq_getElem h] at hxc;exact Option.some.inj hxc
  have hcall:=hval a ham [.cells [vI k,vI v,vI f,vI t,vS n,.t (.sl (xs.map Xp.c))],.cells [vI (vs.getD 0 0),vI (vs.getD 1 0)],.cells (a.c.map .t)] (fun n m=>⟨⟨A3 _,rfl⟩,⟨A3 _,rfl⟩,⟨A3 _,Dq _ _ _⟩,trivial⟩)
  obtain⟨w,hw⟩ : ∃w,w=a.valE s oth q:=⟨_,rfl⟩
  rw [←hw] at hcall hvs
  obtain⟨w1,w2⟩:=w
  simp only [] at hvs
  unfold vO at hcall
  obtain⟨ak,av,af,at',an,axs⟩:=a
  rw [Xp.c_mk] at hxc hcall
  simp only [Xp.c_mk] at hxc'
  rw [show (Xp.mk ak av af at' an axs).v=.agg [vI ak,vI av,vI af,vI at',vS an,.t (.sl (axs.map Xp.c))] from by show V.agg _=_;rw [Xp.c_mk];rfl] at hcall
  simp only [List.map_cons,List.map_nil] at hcall
  cases w2
  ·rw [if_neg (by decide)] at hvs
   rw [←hvs] at hR
   simp only [Option.map_none,Prod.mk.injEq] at hR
   obtain⟨rfl,rfl⟩:=hR
   (try simp -implicitDefEqProofs [h,hxc,hxc',gz,g1,s1])
   refine Ab hcall ?_
   (try simp -implicitDefEqProofs [gz,g1,s1,hdrop])
  ·rw [if_pos rfl,Option.map_map] at hvs
   have hvs2:(Xp.valEs s oth q (xs.drop (i+1))).map ((vs++[w1]) ++ ·)=Xp.valEs s oth q xs:=by
    rw [←hvs]
    congr 1
    funext l
    simp
   rcases (by omega:i=0∨i=1) with i0|i0
   ·subst i0
    have h0i:(0:Int)<xs.length:=by omega
    have hv0:vs=[]:=List.eq_nil_of_length_eq_zero hvl
    subst hv0
    (try simp -implicitDefEqProofs [h,h0i,hxc,hxc',gz,g1,s1])
    refine Ab hcall ?_
    (try simp -implicitDefEqProofs [gz,g1,s1,hle,E.leB,A3,okNs,okN,hnv])
    refine⟨⟨1,[w1]⟩,⟨h,rfl,hvs2⟩,by simp only [];omega,?_⟩
    simp [hle,E.leB,A3,okNs,okN,hnv]
    omega
   ·subst i0
    have h0i:(1:Int)<xs.length:=by omega
    obtain⟨u,rfl⟩:=List.length_eq_one_iff.1 hvl
    (try simp -implicitDefEqProofs [h,h0i,hxc,hxc',gz,g1,s1])
    refine Ab hcall ?_
    (try simp -implicitDefEqProofs [gz,g1,s1,hle,E.leB,A3,okNs,okN,hnv])
    refine⟨⟨2,[u,w1]⟩,⟨h,rfl,hvs2⟩,by simp only [];omega,?_⟩
    simp [hle,E.leB,A3,okNs,okN,hnv]
    omega
 ·have hii:i=xs.length:=by omega
  subst hii
  rw [List.drop_of_length_le (Nat.le_refl _),Xp.valEs] at hvs
  simp only [Option.map_some,List.append_nil] at hvs
  rw [←hvs] at hR
  simp only [] at hR
  obtain⟨Bx2,hBx2⟩ : ∃Bx2:List Bx,Bx2=[.cells [vI k,vI v,vI f,vI t,vS n,.t (.sl (xs.map Xp.c))],.cells [vI (vs.getD 0 0),vI (vs.getD 1 0)]]:=⟨_,rfl⟩
  have hU2:OkU (B++Bx2):=fun n m h=>(hle _ _ n m (by simp at h;omega)).2 (by rw [hBx2];exact⟨⟨A3 _,rfl⟩,⟨A3 _,rfl⟩,trivial⟩)
  have hread:=fun f t p=>P9 b f t p ⟨B++Bx2,[]⟩ hU2.S s oth lv mb sum hs (hbE _)
  have hshare:=fun n=>Vm b n ⟨B++Bx2,[]⟩ hU2.S s oth lv mb sum hs (hbE _)
  rw [hBx2] at hread hshare
  have hbE2:=hbE
  unfold mC at hbE2
  have d : ∀j:Int,k≠j→(k==j)=false:=fun j h=>by simpa using h
  by_cases q1:k=1
  ·subst q1
   simp only [Fi,if_true,Prod.mk.injEq] at hR
   obtain⟨rfl,rfl⟩:=hR
   (try simp -implicitDefEqProofs [gz,g1,s1,hdrop])
  by_cases q2:k=2
  ·subst q2
   simp only [Fi,show ¬(2:Int)=1 by decide,if_true,if_false,Prod.mk.injEq] at hR
   obtain⟨rfl,rfl⟩:=hR
   rcases hn with ⟨rfl,hz⟩|⟨nb,L,rfl,hL,hz⟩
   ·rw [hz]
    (try simp -implicitDefEqProofs [gz,g1,s1,hdrop,Oi])
   ·rw [hz]
    have hLE : ∀l:List Bx,(B++l)[nb]?=some (.mp (mS vI L)):=fun l=>Ae hL l
    have hfm:=Ha vI n L
    cases hag:B7 L n with
    | none=>rw [hag] at hfm;(try simp -implicitDefEqProofs [gz,g1,s1,hdrop,Oi,hLE,hfm])
    | some z=>rw [hag] at hfm;(try simp -implicitDefEqProofs [gz,g1,s1,hdrop,Oi,hLE,hfm])
  by_cases q21:k=21
  ·subst q21
   simp only [Fi,show ¬(21:Int)=1 by decide,show ¬(21:Int)=2 by decide,if_true,if_false,Prod.mk.injEq] at hR
   have hr:=hread f t (-1)
   rw [show decide ((-1:Int)<0)=true from rfl,show Az s.items f t true (-1)=Az s.items f t true 0 by unfold Az;simp] at hr
   obtain⟨rfl,rfl⟩:=hR
   (try simp -implicitDefEqProofs [gz,g1,s1])
   refine Ab hr ?_
   (try simp -implicitDefEqProofs [hdrop])
  by_cases q22:k=22
  ·subst q22
   simp only [Fi,show ¬(22:Int)=1 by decide,show ¬(22:Int)=2 by decide,show ¬(22:Int)=21 by decide,if_true,if_false,Prod.mk.injEq] at hR
   have hoth:=hpo (f4 rfl)
   have hr:=hread f t oth
   have hrA:=fun (l:List Bx)=>FnS.ofOk (S:=⟨(B++[.cells [vI 22,vI v,vI f,vI t,vS n,.t (.sl (xs.map Xp.c))],.cells [vI (vs.getD 0 0),vI (vs.getD 1 0)]])++l,[]⟩) Tryz.call71 (fun hok=>P9 b f t oth _ hok s oth lv mb sum hs (Ae (hbE _) l))
   rw [show decide (oth<0)=false by simp;exact hoth] at hr hrA
   obtain⟨rfl,rfl⟩:=hR
   (try simp -implicitDefEqProofs [gz,g1,s1,hbE2])
   refine Qq hr (fun _=>⟨rfl,fun l=>hrA l⟩) ?_
   (try simp -implicitDefEqProofs [hdrop])
  by_cases q5:k=5
  ·subst q5
   simp only [Fi,show ¬(5:Int)=1 by decide,show ¬(5:Int)=2 by decide,show ¬(5:Int)=21 by decide,show ¬(5:Int)=22 by decide,if_true,if_false] at hR
   have hr:=hshare (vs.getD 0 0)
   rw [←hR] at hr
   (try simp -implicitDefEqProofs [gz,g1,s1])
   refine Ab hr ?_
   (try simp -implicitDefEqProofs [hdrop])
  simp only [Fi,q1,q2,q21,q22,q5,if_false] at hR
  have hop:=X7 (Eb k) v (vs.getD 0 0) (vs.getD 1 0)
  rw [←hR] at hop
  unfold vO at hop
  have hol:=A39 k1 k2 q1 q2 q5 q21 q22
  have hol1:(Uj.map vI)[k.toNat]?=some (vI (Eb k)):=by rw [List.getElem?_map,hol];rfl
  have hol2 : ∀h,(Uj.map vI)[k.toNat]'h=vI (Eb k):=fun h=>by rw [List.getElem?_eq_getElem h] at hol1;exact Option.some.inj hol1
  have holl:(Uj.map vI).length=23:=rfl
  have heo:=A66
  generalize Uj.map vI=OL at *
  have k0:0≤k:=by omega
  have k23:k<23:=by omega
  have k24:k.toNat+1≤23:=by omega
  have k25:k.toNat<23:=by omega
  ((try simp at heo hop);(try simp -implicitDefEqProofs [gz,g1,s1,d 1 q1,d 2 q2,d 21 q21,d 22 q22,d 5 q5,hol1,hol2,holl,k0,k23,k24,k25]);repeat' first|(with_reducible apply A0<;>first|(simp only [eras,era,A1];first|with_reducible assumption)|(simp -implicitDefEqProofs [gz,g1,s1,d 1 q1,d 2 q2,d 21 q21,d 22 q22,d 5 q5,hol1,hol2,holl,k0,k23,k24,k25])))
  exact hdrop _ _
theorem A0p {s:Src} {oth:Int} {q:List UInt8→Int} {k v f t:Int} {n:List UInt8} {vs:List Int} (h:J0 k v f t n vs.length=true) (hq : ∀n,Ah (q n)=true) (hk:(Fi s oth q k v f t n vs).2=true):Ah (Fi s oth q k v f t n vs).1=true:=by
 unfold Fi at hk ⊢
 by_cases k1:k=1
 ·rw [if_pos k1]
  simp only [J0,Bool.and_eq_true] at h
  have h:=h.2
  unfold fldB at h
  rw [if_pos k1] at h
  simp only [Bool.and_eq_true,decide_eq_true_eq] at h
  unfold Ah
  simp only [Bool.and_eq_true,decide_eq_true_eq]
  omega
 rw [if_neg k1] at hk ⊢
 by_cases k2:k=2
 ·rw [if_pos k2];exact hq n
 rw [if_neg k2] at hk ⊢
 by_cases k3:k=21
 ·rw [if_pos k3] at hk ⊢;exact hk
 rw [if_neg k3] at hk ⊢
 by_cases k4:k=22
 ·rw [if_pos k4] at hk ⊢;exact hk
 rw [if_neg k4] at hk ⊢
 by_cases k5:k=5
 ·rw [if_pos k5] at hk ⊢
  unfold El at hk ⊢
  split at hk
  ·rename_i hc;rw [if_pos hc];exact hc.2
  ·cases hk
 ·rw [if_neg k5] at hk ⊢
  exact Hg hk
theorem S8 {s:Src} {oth:Int} {q:List UInt8→Int} (hq : ∀n,Ah (q n)=true) {x:Xp} (hp:x.prop=true) (h:(x.valE s oth q).2=true):Ah (x.valE s oth q).1=true:=by
 obtain⟨k,v,f,t,n,xs⟩:=x
 simp only [Xp.prop,Bool.and_eq_true] at hp
 rw [Xp.valE] at h ⊢
 cases hvs:Xp.valEs s oth q xs with
 | none=>rw [hvs] at h;cases h
 | some vs=>
  rw [hvs] at h
  have:=hp.1
  rw [←Xp.valEs_len hvs] at this
  exact A0p this hq h
structure IpS where
 k:Nat
 L:List (List UInt8×Int)
 ps:List Part
structure IpS.Ok (ss:List Stm) (s:Src) (oth to:Int) (R:Option (List Part)) (X:IpS):Prop where
 k:X.k≤ss.length
 ex:Ap s oth to X.L (ss.drop X.k) X.ps=R
 am : ∀p∈X.ps,Ah p.amt=true
 acc : ∀p∈X.ps,0≤p.acc∧p.acc≤1000000
 len:X.ps.length≤X.k
 env : ∀n,Ah ((B7 X.L n).getD 0)=true
 ll:X.L.length≤X.k
theorem Vu (L:List (List UInt8×Int)) (n m:Nat):E.leB n m (.mp (mS vI L)) (.mp (mS vI L)):=
 ⟨rfl,Zz fun v hv=>by simp only [mS,List.map_map,List.mem_map] at hv;obtain⟨p,_,rfl⟩:=hv;exact⟨_,rfl⟩,Zz fun v hv=>by simp only [mS,List.map_map,List.mem_map] at hv;obtain⟨p,_,rfl⟩:=hv;exact⟨_,rfl⟩⟩
theorem S9 (b mb:Nat) (r:Rul) (rule:Int) (B:List Bx) (hU:OkU B) (s:Src) (oth:Int) (hs:s.Ok) (hb:B[b]?=some (.cells (mC s oth .snil mb 0))) (hmb:B[mb]?=some (.mp [])) (hrb:D1 r=true)
  (pair:Bool) (hpo:pair=true→0≤oth) (hty : ∀x∈r.stmts,∃kn,(x.ex.inf kn pair).2=0) :
  FnS Tryz.prog 41 [.ptr b 0,r.v,vI rule] ⟨B,[]⟩ (peV (Bn s oth rule (Ap s oth r.to [] r.stmts []))) ⟨(B.set mb .dead).set b .dead,[]⟩:=by
 have hne:b≠mb:=fun e=>by rw [e,hmb] at hb;cases hb
 have hbl:=A4 hb
 have hml:=A4 hmb
 have hst:=Ml hb hmb
 obtain⟨nm,pr,ss,to⟩:=r
 simp only [D1,Bool.and_eq_true,decide_eq_true_eq,List.all_eq_true] at hrb hty
 obtain⟨⟨⟨_,hlen⟩,hto⟩,hstm⟩:=hrb
 obtain⟨R,hR⟩ : ∃R,R=Ap s oth to [] ss []:=⟨_,rfl⟩
 simp only [] 
 rw [←hR]
 obtain⟨P,hP⟩ : ∃P,P=B.length:=⟨_,rfl⟩
 have hgz : ∀(l:List Bx),(B++l)[P]?=l[0]?:=fun l=>by rw [List.getElem?_append_right (by omega)];congr 1;omega
 have hg1 : ∀(l:List Bx) (j:Nat),(B++l)[P+j]?=l[j]?:=fun l j=>by rw [List.getElem?_append_right (by omega)];congr 1;omega
 have hrv:Rul.v ⟨nm,pr,ss,to⟩=.agg [vS nm,vB pr,.t (.sl (ss.map Stm.c)),vI to]:=rfl
 rw [hrv]
 (refine FnS.of_code mix Tryz.call41 k_41 (by simp) (fun hB=>?_);(try simp at hB);(try simp -implicitDefEqProofs))
 ((try simp -implicitDefEqProofs [hgz,hg1,←hP]);repeat' first|((with_reducible first|apply Ac|apply Ad|apply A5)<;>(intro hc;have hc':=hc;(try simp at hc');simp -implicitDefEqProofs [hc,hc',hgz,hg1,←hP])))
 refine A7 (X:=IpS) (fun X=>X.Ok ss s oth to R)
  (fun X=>[(0,.ptr b 0),(2,vI rule),(4,.ptr P 0),(6,.ptr (P+1) 0),(8,.mp (P+2)),(15,.t (.sl (ss.map Stm.c))),(16,vI ss.length),(17,vI X.k)])
  (fun X=>⟨MB B b mb s oth .snil X.ps++[.cells [vS nm,vB pr,.t (.sl (ss.map Stm.c)),vI to],.cells [vI 0,vI 0,vI 0,vI 0,.snil],.mp (mS vI X.L)],[]⟩) (fun X=>ss.length-X.k) ⟨0,[],[]⟩ ⟨by simp,hR.symm,by simp,by simp,by simp,fun n=>(by decide:Ah 0=true),by simp⟩ ?hs ?_
 case hs=>
  have hle:=fun (l l':List Bx) n m h=>A6.appU (l:=l) (l':=l') (hU n m h)
  simp [hst,hle,E.leB,A3,okNs,okN,←hP,mS]
  omega
 rintro ⟨k,L,ps⟩ ⟨hk,hex,ham,hacc,hpl,henv,hLl⟩ hbd
 simp only [] at hk hex ham hacc hpl henv hLl
 clear hbd
 have e3:IntKind.i64.wrap ((k:Int)+1)=(k:Int)+1:=wrap64 (by omega) (by omega)
 obtain⟨M,hM⟩ : ∃M,M=MB B b mb s oth .snil ps:=⟨_,rfl⟩
 have hML:M.length=P:=by rw [hM,G6,hP]
 have hMb:M[b]?=some (.cells (mC s oth .snil mb (ps.map Part.amt).sum)):=by rw [hM,A5k hbl]
 have hMm:M[mb]?=some (.mp (mI vI (B6 ps))):=by rw [hM,A5l hml hne]
 have hMbE : ∀l:List Bx,(M++l)[b]?=some (.cells (mC s oth .snil mb (ps.map Part.amt).sum)):=fun l=>Ae hMb l
 have hMmE : ∀l:List Bx,(M++l)[mb]?=some (.mp (mI vI (B6 ps))):=fun l=>Ae hMm l
 have gz : ∀l:List Bx,(M++l)[P]?=l[0]?:=fun l=>by rw [List.getElem?_append_right (by omega)];congr 1;omega
 have g1 : ∀(l:List Bx) (j:Nat),(M++l)[P+j]?=l[j]?:=fun l j=>by rw [List.getElem?_append_right (by omega)];congr 1;omega
 have s1 : ∀(l:List Bx) (j:Nat) (v:Bx),(M++l).set (P+j) v=M++l.set j v:=fun l j v=>by rw [List.set_append_right _ _ (by omega)];congr 2;omega
 have hMU : ∀l:List Bx,(∀n m,P+3≤n→A6 n m l l)→∀n m,P+3≤n→A6 n m (M++l) (M++l):=fun l hl n m h=>by
  rw [hM]
  exact (A6.appU (O4 hU hml (by omega) (.inl rfl))).2 (hl n m h)
 have hdead : ∀l:List Bx,A6 P 0 (M++l) ((B.set mb .dead).set b .dead):=fun l=>by rw [hM];exact Lb hU l (by omega)
 obtain⟨T0,hT0⟩ : ∃T0:List Bx,T0=[.cells [vS nm,vB pr,.t (.sl (ss.map Stm.c)),vI to],.cells [vI 0,vI 0,vI 0,vI 0,.snil],.mp (mS vI L)]:=⟨_,rfl⟩
 have hT0U : ∀n m,A6 n m T0 T0:=fun n m=>by rw [hT0];exact⟨⟨A3 _,rfl⟩,⟨A3 _,rfl⟩,Vu L n m,trivial⟩
 rw [←hM]
 have hnext : ∀(z:IpS) (rest:List Bx),z.Ok ss s oth to R→z.k=k+1→k<ss.length→∃z',IpS.Ok ss s oth to R z'∧ss.length-z'.k<ss.length-k∧P≤(MB B b mb s oth .snil z'.ps).length+3∧
   A6 ((MB B b mb s oth .snil z'.ps).length+3) 0 (MB B b mb s oth .snil z.ps++(.cells [vS nm,vB pr,.t (.sl (ss.map Stm.c)),vI to]::.cells [vI 0,vI 0,vI 0,vI 0,.snil]::.mp (mS vI z.L)::rest)) (MB B b mb s oth .snil z'.ps++[.cells [vS nm,vB pr,.t (.sl (ss.map Stm.c)),vI to],.cells [vI 0,vI 0,vI 0,vI 0,.snil],.mp (mS vI z'.L)])∧
   b<(MB B b mb s oth .snil z'.ps).length+3∧P<(MB B b mb s oth .snil z'.ps).length+3∧P<(MB B b mb s oth .snil z'.ps).length+2∧P<(MB B b mb s oth .snil z'.ps).length+1∧(z'.k:Int)=(k:Int)+1:=fun z rest hz hzk hkl=>by
  have hl:(MB B b mb s oth .snil z.ps).length=P:=by rw [G6,hP]
  refine⟨z,hz,by omega,by omega,?_,by omega,by omega,by omega,by omega,by rw [hzk];push_cast;rfl⟩
  rw [hl]
  exact (A6.appU (O4 hU hml (by omega) (.inl rfl))).2 ⟨⟨A3 _,rfl⟩,⟨A3 _,rfl⟩,Vu _ _ _,by cases rest<;>trivial⟩
 rcases Nat.lt_or_ge k ss.length with h|h
 ·obtain⟨x,hx⟩:=Aa h
  have hxm:=List.mem_of_getElem? hx
  have hdr:ss.drop k=x::ss.drop (k+1):=by
   obtain⟨h1,h2⟩:=List.getElem?_eq_some_iff.1 hx
   rw [List.drop_eq_getElem_cons h1,h2]
  rw [hdr,Ap] at hex
  have hxc:(ss.map Stm.c)[k]?=some x.c:=by simp [hx]
  have hxc' : ∀h,(ss.map Stm.c)[k]'h=x.c:=fun h=>by rw [List.getElem?_eq_getElem h] at hxc;exact Option.some.inj hxc
  have hsb:=hstm x hxm
  unfold Eu at hsb
  simp only [Bool.and_eq_true,decide_eq_true_eq] at hsb
  obtain⟨⟨hsh,_⟩,hpr⟩:=hsb
  obtain⟨kn,hin⟩:=hty x hxm
  have hxU : ∀n m,E.leB n m (.cells (x.c.map .t)) (.cells (x.c.map .t)):=fun n m=>⟨A3 _,Dq _ _ _⟩
  have hvU : ∀n m,(M++(T0++[Bx.cells (x.c.map .t)])).length≤n→A6 n m (M++(T0++[Bx.cells (x.c.map .t)])) (M++(T0++[Bx.cells (x.c.map .t)])):=fun n m hn=>hMU (T0++[Bx.cells (x.c.map .t)]) (fun n m _=>(A6.appU (hT0U n m)).2 ⟨hxU n m,trivial⟩) n m (by rw [hT0] at hn;simp at hn;omega)
  have hcall:=Vt s hs oth kn pair (fun n=>(B7 L n).getD 0) hpo x.ex hpr hin (M++(T0++[Bx.cells (x.c.map .t)])) hvU b .snil mb _ (hMbE _) (.mp (P+2)) (.inr ⟨P+2,L,rfl,by rw [g1,hT0];rfl,fun _=>rfl⟩)
  have hva:=S8 (s:=s) (oth:=oth) henv hpr
  obtain⟨w,hw⟩ : ∃w,w=x.ex.valE s oth fun n=>(B7 L n).getD 0:=⟨_,rfl⟩
  rw [←hw] at hcall hex hva
  obtain⟨w1,w2⟩:=w
  simp only [] at hex hva
  unfold vO at hcall
  obtain⟨kd,ac,sn,ex⟩:=x
  obtain⟨ek,ev,ef,et,en,exs⟩:=ex
  simp only [] at hex hsh
  have hc9:Stm.c ⟨kd,ac,sn,.mk ek ev ef et en exs⟩=[.int .i64 kd,.int .i64 ac,.str sn,.int .i64 ek,.int .i64 ev,.int .i64 ef,.int .i64 et,.str en,.sl (exs.map Xp.c)]:=by unfold Stm.c;rw [Xp.c_mk]
  rw [hc9] at hxc hcall hvU
  simp only [hc9] at hxc'
  rw [show (Xp.mk ek ev ef et en exs).v=.agg [vI ek,vI ev,vI ef,vI et,vS en,.t (.sl (exs.map Xp.c))] from by show V.agg _=_;rw [Xp.c_mk];rfl,hT0] at hcall
  simp only [List.map_cons,List.map_nil,List.cons_append,List.nil_append] at hcall
  cases w2
  ·rw [if_neg (by decide)] at hex
   rw [←hex]
   ((try simp -implicitDefEqProofs [h,hxc,hxc',gz,g1,s1,hML]);repeat' first|((with_reducible first|apply Ac|apply Ad|apply A5)<;>(intro hc;have hc':=hc;(try simp at hc');simp -implicitDefEqProofs [hc,hc',h,hxc,hxc',gz,g1,s1,hML])))
   refine Ab hcall ?_
   ((try simp -implicitDefEqProofs [gz,g1,s1,Bn,peV,pV,Bb]);repeat' first|((with_reducible first|apply Ac|apply Ad|apply A5)<;>(intro hc;have hc':=hc;(try simp at hc');simp -implicitDefEqProofs [hc,hc',gz,g1,s1,Bn,peV,pV,Bb])))
   rw [←hP]
   exact⟨Nat.le_refl _,hdead _⟩
  rw [if_pos rfl] at hex
  unfold Qv at hsh
  by_cases k1:kd=1
  ·rw [if_pos k1] at hex
   subst k1
   have hset:=M8 vI sn w1 L
   ((try simp -implicitDefEqProofs [h,hxc,hxc',gz,g1,s1,hML]);repeat' first|((with_reducible first|apply Ac|apply Ad|apply A5)<;>(intro hc;have hc':=hc;(try simp at hc');simp -implicitDefEqProofs [hc,hc',h,hxc,hxc',gz,g1,s1,hML])))
   refine Ab hcall ?_
   ((try simp -implicitDefEqProofs [gz,g1,s1,hset,e3]);repeat' first|((with_reducible first|apply Ac|apply Ad|apply A5)<;>(intro hc;have hc':=hc;(try simp at hc');simp -implicitDefEqProofs [hc,hc',gz,g1,s1,hset,e3])))
   have hal:=F6 L sn w1
   refine⟨by unfold maxLen;omega,?_⟩
   rw [hM]
   refine hnext ⟨k+1,Ca L sn w1,ps⟩ _ ⟨h,hex,ham,hacc,Nat.le_succ_of_le hpl,fun n=>?_,by simp only [];omega⟩ rfl h
   simp only [H9]
   by_cases hn:n=sn
   ·rw [if_pos hn];exact hva rfl
   ·rw [if_neg hn];exact henv n
  rw [if_neg k1] at hsh hex
  have d1:(kd==1)=false:=by simpa using k1
  by_cases k2:kd=2
  ·rw [if_pos k2] at hex
   subst k2
   by_cases w0:w1=0
   ·rw [if_pos w0] at hex
    subst w0
    rw [←hex]
    ((try simp -implicitDefEqProofs [h,hxc,hxc',gz,g1,s1,hML]);repeat' first|((with_reducible first|apply Ac|apply Ad|apply A5)<;>(intro hc;have hc':=hc;(try simp at hc');simp -implicitDefEqProofs [hc,hc',h,hxc,hxc',gz,g1,s1,hML])))
    refine Ab hcall ?_
    ((try simp -implicitDefEqProofs [gz,g1,s1,Bn,peV,pV,Bb,F8]);repeat' first|((with_reducible first|apply Ac|apply Ad|apply A5)<;>(intro hc;have hc':=hc;(try simp at hc');simp -implicitDefEqProofs [hc,hc',gz,g1,s1,Bn,peV,pV,Bb,F8])))
    rw [←hP]
    exact⟨Nat.le_refl _,hdead _⟩
   ·rw [if_neg w0] at hex
    have w0':(w1==0)=false:=by simpa using w0
    ((try simp -implicitDefEqProofs [h,hxc,hxc',gz,g1,s1,hML]);repeat' first|((with_reducible first|apply Ac|apply Ad|apply A5)<;>(intro hc;have hc':=hc;(try simp at hc');simp -implicitDefEqProofs [hc,hc',h,hxc,hxc',gz,g1,s1,hML])))
    refine Ab hcall ?_
    ((try simp -implicitDefEqProofs [gz,g1,s1,e3,w0,w0']);repeat' first|((with_reducible first|apply Ac|apply Ad|apply A5)<;>(intro hc;have hc':=hc;(try simp at hc');simp -implicitDefEqProofs [hc,hc',gz,g1,s1,e3,w0,w0'])))
    rw [hM]
    exact hnext ⟨k+1,L,ps⟩ _ ⟨h,hex,ham,hacc,Nat.le_succ_of_le hpl,henv,Nat.le_succ_of_le hLl⟩ rfl h
  ·rw [if_neg k2] at hsh hex
   have d2:(kd==2)=false:=by simpa using k2
   have k3:kd=3:=by
    by_cases k3:kd=3
    ·exact k3
    ·rw [if_neg k3] at hsh;cases hsh
   subst k3
   rw [if_pos rfl] at hsh
   have hac:1≤ac∧ac≤99999:=by
    simp only [Bool.and_eq_true,acB,decide_eq_true_eq] at hsh
    exact hsh.2
   have hv0:=hva rfl
   have hv0b:=G3 hv0
   have hsb:=Jt ham
   have hsa:=Fs (k:=ac) ham
   have hplen:=Eo ps
   have hpss:=En ps ac
   have hsm:((ps++[(⟨ac,w1⟩:Part)]).map Part.amt).sum=(ps.map Part.amt).sum+w1:=by rw [List.map_append,List.sum_append];simp
   have hpo2:=Mh b mb ac w1 ⟨M++(T0++[Bx.cells [vI 3,vI ac,vS sn,vI ek,vI ev,vI ef,vI et,vS en,.t (.sl (exs.map Xp.c))]]),[]⟩ ⟨hvU _ 0 (Nat.le_refl _),trivial⟩ s oth .snil (ps.map Part.amt).sum (B6 ps) (hMbE _) (hMmE _) (by omega) rfl (by rw [hpss];exact wrap64 (by omega) (by omega)) (wrap64 (by omega) (by omega))
   have hpost0:=Pa (B:=B) (s:=s) (oth:=oth) (lv:=.snil) (ps:=ps) (ps':=ps++[(⟨ac,w1⟩:Part)]) hne
   rw [hsm,Ed] at hpost0
   have hMp : ∀l:List Bx,((M++l).set mb (.mp (mI vI (Ca (B6 ps) ac ((B7 (B6 ps) ac).getD 0+w1))))).set b (.cells (mC s oth .snil mb ((ps.map Part.amt).sum+w1)))=MB B b mb s oth .snil (ps++[⟨ac,w1⟩])++l:=fun l=>by
    rw [List.set_append_left _ _ (by omega),List.set_append_left _ _ (by simp;omega),hM,hpost0]
   simp only [hMp] at hpo2
   rw [hT0] at hpo2
   simp only [List.cons_append,List.nil_append] at hpo2
   ((try simp -implicitDefEqProofs [h,hxc,hxc',gz,g1,s1,hML]);repeat' first|((with_reducible first|apply Ac|apply Ad|apply A5)<;>(intro hc;have hc':=hc;(try simp at hc');simp -implicitDefEqProofs [hc,hc',h,hxc,hxc',gz,g1,s1,hML])))
   refine Ab hcall ?_
   ((try simp -implicitDefEqProofs [gz,g1,s1]);repeat' first|((with_reducible first|apply Ac|apply Ad|apply A5)<;>(intro hc;have hc':=hc;(try simp at hc');simp -implicitDefEqProofs [hc,hc',gz,g1,s1])))
   refine Ab hpo2 ?_
   ((try simp -implicitDefEqProofs [e3]);repeat' first|((with_reducible first|apply Ac|apply Ad|apply A5)<;>(intro hc;have hc':=hc;(try simp at hc');simp -implicitDefEqProofs [hc,hc',e3])))
   exact hnext ⟨k+1,L,ps++[⟨ac,w1⟩]⟩ _ ⟨h,hex,fun p hp=>by
    rcases List.mem_append.1 hp with hp|hp
    ·exact ham p hp
    ·simp at hp;subst hp;exact hv0,fun p hp=>by
    rcases List.mem_append.1 hp with hp|hp
    ·exact hacc p hp
    ·simp at hp;subst hp;exact⟨by simp only [];omega,by simp only [];omega⟩,by simp;omega,henv,Nat.le_succ_of_le hLl⟩ rfl h
 ·have hkk:k=ss.length:=by omega
  subst hkk
  rw [List.drop_of_length_le (Nat.le_refl _),Ap] at hex
  have hto2:1≤to∧to≤99999:=by simp only [acB,Bool.and_eq_true,decide_eq_true_eq] at hto;exact hto
  have hfin:=Rk b mb to rule (M++T0) (fun n m hn=>hMU T0 (fun n m _=>hT0U n m) n m (by rw [hT0] at hn;simp at hn;omega)) s oth .snil ps (hMbE _) (hMmE _) (by omega) ham hacc (by omega) (.inl rfl)
  rw [hex] at hfin
  have hM2 : ∀l:List Bx,((M++l).set mb .dead).set b .dead=(B.set mb .dead).set b .dead++l:=fun l=>by
   rw [List.set_append_left _ _ (by omega),List.set_append_left _ _ (by simp;omega),hM]
   unfold MB
   rw [List.set_comm _ _ hne,List.set_set,List.set_set]
  obtain⟨Z,hZ⟩ : ∃Z,Z=(B.set mb .dead).set b .dead:=⟨_,rfl⟩
  rw [←hZ] at hM2 ⊢
  have hZl:Z.length=P:=by rw [hZ,hP];simp
  have hZle : ∀(l:List Bx),A6 P 0 (Z++l) Z:=fun l=>by
   rw [hZ]
   exact A6.ext l (A6.set (show E.leB P 0 .dead .dead from trivial) b (A6.set (show E.leB P 0 .dead .dead from trivial) mb (hU P 0 (by omega))))
  have z1 : ∀(l:List Bx) (j:Nat),(Z++l)[P+j]?=l[j]?:=fun l j=>by rw [List.getElem?_append_right (by omega)];congr 1;omega
  have z2 : ∀(l:List Bx) (j:Nat) (v:Bx),(Z++l).set (P+j) v=Z++l.set j v:=fun l j v=>by rw [List.set_append_right _ _ (by omega)];congr 2;omega
  simp only [hM2] at hfin
  rw [hT0] at hfin
  obtain⟨q,hq⟩ : ∃q,q=Bn s oth rule R:=⟨_,rfl⟩
  rw [←hq] at hfin ⊢
  obtain⟨⟨p1,p2,p3,p4,p5⟩,p6⟩:=q
  unfold peV pV at hfin ⊢
  ((try simp -implicitDefEqProofs [gz,g1,s1]);repeat' first|((with_reducible first|apply Ac|apply Ad|apply A5)<;>(intro hc;have hc':=hc;(try simp at hc');simp -implicitDefEqProofs [hc,hc',gz,g1,s1])))
  refine Ab hfin ?_
  ((try simp -implicitDefEqProofs [z1,z2]);repeat' first|((with_reducible first|apply Ac|apply Ad|apply A5)<;>(intro hc;have hc':=hc;(try simp at hc');simp -implicitDefEqProofs [hc,hc',z1,z2])))
  rw [hZl]
  exact⟨Nat.le_refl _,hZle _⟩
end Go.Proofs.YtmlpmdccfmmpoaaGreatDoor
