/- Chapter 35: results that stay in buffers; items turned; the reference's Valid and Same; the law ExecuteItems. -/
import Derived.Test.YtmlpmdccfmmpoaaGreatDoorIpW
import Derived.Test.YtmlpmdccfmmpoaaGreatDoorIn8
import Derived.Test.YtmlpmdccfmmpoaaGreatDoorInf
import Derived.Test.YtmlpmdccfmmpoaaGreatDoorExV
import Derived.Test.YtmlpmdccfmmpoaaGreatDoorCodeM
import Derived.Test.YtmlpmdccfmmpoaaGreatDoorExM
set_option linter.unusedSimpArgs false
set_option linter.unusedVariables false
set_option maxHeartbeats 4000000
set_option maxRecDepth 8000
namespace Go.Proofs.YtmlpmdccfmmpoaaGreatDoor
open E
theorem Pf (b mb:Nat) (r:Rul) (rule:Int) (S:St) (s:Src) (oth:Int) (hs:s.Ok) (hb:S.boxes[b]?=some (.cells (mC s oth .snil mb 0))) (hmb:S.boxes[mb]?=some (.mp [])) (hrb:D1 r=true)
  (pair:Bool) (hpo:pair=true→0≤oth) (hty : ∀x∈r.stmts,∃kn,(x.ex.inf kn pair).2=0) :
  FnS Tryz.prog 41 [.ptr b 0,r.v,vI rule] S (peV (Bn s oth rule (Ap s oth r.to [] r.stmts []))) { S with boxes:=(S.boxes.set mb .dead).set b .dead }:=by
 have hne:mb≠b:=fun e=>by rw [e,hb] at hmb;cases hmb
 refine FnS.lift2 (by simp [peV,pV,era,eras]) hb hmb ?_
 have e1:(mC s oth .snil mb 0).map (ren b mb)=mC s oth .snil 1 0:=by
  unfold mC
  simp [ren,hne]
 have e2:[V.ptr b 0,r.v,vI rule].map (ren b mb)=[.ptr 0 0,r.v,vI rule]:=by
  have:ren b mb r.v=r.v:=by
   show ren b mb (.agg (r.c.map .t))=_
   simp only [ren,J6,A40]
  simp only [List.map_cons,List.map_nil,this]
  simp [ren]
 rw [e1,e2]
 exact S9 0 1 r rule [.cells (mC s oth .snil 1 0),.mp []] (fun n m hn=>⟨⟨A3 _,by unfold mC;simp [okNs,okN];simp at hn;omega⟩,Ea [],trivial⟩) s oth hs rfl rfl hrb pair hpo hty
theorem Jd (ps:List Rul) (i:Nat) (r:Rul) (hc:ps[i]?=some r) (cb:Nat) (S:St) (hS:OkT S) (hcb:S.boxes[cb]?=some (.cells [Rul.l ps])):FnS Tryz.prog 39 [vI i,.ptr cb 0] S (vB r.pair) S:=by
 have hci:=A4 hc
 have hcc:(ps.map Rul.c)[i]?=some r.c:=by simp [hc]
 have hcc' : ∀h,(ps.map Rul.c)[i]'h=r.c:=fun h=>by rw [List.getElem?_eq_getElem h] at hcc;exact Option.some.inj hcc
 obtain⟨nm,pr,ss,to⟩:=r
 have hS':=hS.S
 simp [OkS] at hS'
 (refine FnS.of_code mix Tryz.call39 k_39 (by simp) (fun hB=>?_);(try simp at hB);(try simp -implicitDefEqProofs))
 (try simp -implicitDefEqProofs [hcb,hcc,hcc',Rul.c,hci,hS'])
theorem Pg (cb b mb i:Nat) (ps:List Rul) (r:Rul) (S:St) (hS:OkT S) (s:Src) (oth:Int) (hs:s.Ok) (hcb:S.boxes[cb]?=some (.cells [Rul.l ps])) (hc:ps[i]?=some r) (hb:S.boxes[b]?=some (.cells (mC s oth .snil mb 0))) (hmb:S.boxes[mb]?=some (.mp [])) (hrb:D1 r=true) (pair:Bool) (hpo:pair=true→0≤oth) (hty : ∀x∈r.stmts,∃kn,(x.ex.inf kn pair).2=0) :
  FnS Tryz.prog 40 [.ptr b 0,vI i,.ptr cb 0] S (peV (Dv (Bh r s oth i))) { S with boxes:=(S.boxes.set mb .dead).set b .dead }:=by
 have hie:Dv (Bh r s oth i)=Bn s oth i (Ap s oth r.to [] r.stmts []):=by unfold Bh Dv Bn;cases Ap s oth r.to [] r.stmts []<;>rfl
 rw [hie]
 obtain⟨L,tk⟩:=S
 simp only [] at hcb hb hmb
 have hbl:=A4 hb
 have hml:=A4 hmb
 have hci:=A4 hc
 have hrun:=fun (x:Bx)=>Pf b mb r i ⟨L++[x],tk⟩ s oth hs (Ae hb _) (Ae hmb _) hrb pair hpo hty
 have hset : ∀l:List Bx,((L++l).set mb .dead).set b .dead=(L.set mb .dead).set b .dead++l:=fun l=>by
  rw [List.set_append_left _ _ hml,List.set_append_left _ _ (by simpa using hbl)]
 simp only [hset] at hrun
 obtain⟨Z,hZ⟩ : ∃Z,Z=(L.set mb .dead).set b .dead:=⟨_,rfl⟩
 have hZl:Z.length=L.length:=by rw [hZ];simp
 have hZle : ∀l:List Bx,A6 L.length tk.length (Z++l) Z:=fun l=>by
  rw [hZ]
  exact A6.ext l (A6.set (show E.leB _ _ .dead .dead from trivial) b (A6.set (show E.leB _ _ .dead .dead from trivial) mb (hS _ _ (Nat.le_refl _) (Nat.le_refl _))))
 simp only [←hZ] at hrun ⊢
 have hcE : ∀l:List Bx,(L++l)[cb]?=some (.cells [Rul.l ps]):=fun l=>Ae hcb l
 have hcc:(ps.map Rul.c)[i]?=some r.c:=by simp [hc]
 have hcc' : ∀h,(ps.map Rul.c)[i]'h=r.c:=fun h=>by rw [List.getElem?_eq_getElem h] at hcc;exact Option.some.inj hcc
 have z0 : ∀(l:List Bx),(Z++l)[L.length]?=l[0]?:=fun l=>by rw [List.getElem?_append_right (by omega)];congr 1;omega
 have z1 : ∀(l:List Bx) (v:Bx),(Z++l).set L.length v=Z++l.set 0 v:=fun l v=>by rw [List.set_append_right _ _ (by omega)];congr 2;omega
 obtain⟨q,hq⟩ : ∃q,q=Bn s oth i (Ap s oth r.to [] r.stmts []):=⟨_,rfl⟩
 rw [←hq] at hrun ⊢
 obtain⟨⟨p1,p2,p3,p4,p5⟩,p6⟩:=q
 unfold peV pV at hrun ⊢
 obtain⟨nm,pr,ss,to⟩:=r
 (refine FnS.of_code mix Tryz.call40 k_40 (by simp) (fun hB=>?_);(try simp at hB);(try simp -implicitDefEqProofs))
 (try simp -implicitDefEqProofs [hcE,hcc,hcc',Rul.c,hci])
 refine Ab (hrun _) ?_
 (try simp -implicitDefEqProofs [z0,z1])
 refine⟨by omega,?_⟩
 rw [hZl]
 exact⟨hZle _,Cv.reflU _⟩
theorem Ph {known:Int→Bool} {pair:Bool} : ∀{ss:List Stm} {M:List (List UInt8)},Bv known pair M ss=0→∀x∈ss,∃kn,(x.ex.inf kn pair).2=0
 | [],M,_,x,hx=>by cases hx
 | y::ss,M,he,x,hx=>by
  rw [Bv] at he
  split at he
  ·rename_i h1;exact absurd he h1
  ·rename_i h1
   rcases List.mem_cons.1 hx with rfl|hx
   ·refine⟨Cs M,?_⟩
    have hs0:Fh known (Cs M) pair x=0:=by simpa using h1
    unfold Fh at hs0
    split at hs0
    ·rename_i q;exact absurd hs0 q
    ·rename_i q;simpa using q
   ·exact Ph he x hx
def A0q (r:Rul):Prop:=D1 r=true∧∃known,Bv known r.pair [] r.stmts=0
theorem Pi (p:List Rul) (l:List Src) (snd:Bool) (hsnd:A8 Tryz.prog 37 [Rul.l p] (vB snd)) (hsn:snd=true→∀r∈p,A0q r) (hval:snd=true→∀r∈p,(D7 (Ak r)).2=true) (hl:l.length≤13) (hp:p.length≤100) (hs : ∀s∈l,s.num.natAbs≤100000∧0<s.den∧s.den≤100000∧s.items.length≤1000) :
  A8 Tryz.prog 14 [Rul.l p,Src.l l] (psV (if snd=true then Cx (p.map Ak) l else ([],1))):=by
 have hv:=Mm l (by omega)
 cases snd
 ·rw [if_neg (by decide)]
  unfold Src.l at *
  (refine A8.of_code mix Tryz.call14 k_14 (by simp) (fun hB=>?_);(try simp at hB);(try simp -implicitDefEqProofs))
  ((try simp at hsnd);(try simp -implicitDefEqProofs [psV]);repeat' first|(with_reducible apply A0<;>first|(simp only [eras,era,A1];first|with_reducible assumption)|(simp -implicitDefEqProofs [psV])))
 rw [if_pos rfl]
 have hsn:=hsn rfl
 have hval:=hval rfl
 cases h1:Dc l
 ·rw [h1] at hv
  unfold Cx
  rw [if_neg (by simp [h1])]
  unfold Src.l at hv ⊢
  (refine A8.of_code mix Tryz.call14 k_14 (by simp) (fun hB=>?_);(try simp at hB);(try simp -implicitDefEqProofs))
  ((try simp at hsnd hv);(try simp -implicitDefEqProofs [psV]);repeat' first|(with_reducible apply A0<;>first|(simp only [eras,era,A1];first|with_reducible assumption)|(simp -implicitDefEqProofs [psV])))
 rw [h1] at hv
 have hall:((p.map Ak).all fun x=>(D7 x).2)=true:=by
  rw [List.all_eq_true];intro x hx
  obtain⟨r,hr,rfl⟩:=List.mem_map.1 hx
  exact hval r hr
 rw [Pb h1 hall]
 obtain⟨D0,hD0⟩ : ∃D0:Rul,D0=⟨[],false,[],0⟩:=⟨_,rfl⟩
 have hcol:=O7 39 40 [.ptr 0 0] [.ptr 0 0] [.cells [Rul.l p]] (fun n m hn=>⟨⟨A3 _,rfl⟩,trivial⟩) l p.length (fun i=>(p.getD i D0).pair) (fun i s o=>Bh (p.getD i D0) s o i) hl hp rfl (fun k m hk=>by simp [okNs,okN];simp at hk;omega) (fun k m hk=>by simp [okNs,okN];simp at hk;omega)
  (fun i C tk hi hT=>by
   obtain⟨r,hx⟩:=Aa hi
   have e:p.getD i D0=r:=by rw [List.getD_eq_getElem?_getD,hx];rfl
   rw [e]
   exact Jd p i r hx 0 _ hT rfl)
  (fun i C tk b mb s oth hi hsm hf hpp hT hb hmb=>by
   obtain⟨r,hx⟩:=Aa hi
   have e:p.getD i D0=r:=by rw [List.getD_eq_getElem?_getD,hx];rfl
   rw [e] at hpp ⊢
   have hrm:r∈p:=List.mem_of_getElem? hx
   obtain⟨q1,q2,q3,q4⟩:=hs s hsm
   have q5:=(E2 h1 hsm).2.2
   obtain⟨hrb,known,hst⟩:=hsn r hrm
   exact Pg 0 b mb i p r _ hT s oth ⟨q1,q2,q3,q4,q5⟩ rfl hx hb hmb hrb r.pair (fun hpr=>by
    rw [if_pos hpr] at hpp
    obtain⟨t,ht1,_,ht3,_⟩:=hpp
    rw [←ht3];exact (E2 h1 ht1).1) (Ph hst))
 have hruns:E5 (fun i s o=>Bh (p.getD i D0) s o i) l (fun i=>(p.getD i D0).pair) (List.range p.length)=E5 (fun i s o=>Ce ((p.map Ak).getD i ⟨[],false,[]⟩) s o i) l (fun i=>((p.map Ak).getD i ⟨[],false,[]⟩).pair) (List.range (p.map Ak).length):=by
  unfold E5
  rw [List.length_map]
  have key : ∀is:List Nat,(∀i∈is,i<p.length)→(is.flatMap fun i=>l.flatMap (Bw (fun s o=>Bh (p.getD i D0) s o i) l (p.getD i D0).pair))=is.flatMap fun i=>l.flatMap (Bw (fun s o=>Ce ((p.map Ak).getD i ⟨[],false,[]⟩) s o i) l ((p.map Ak).getD i ⟨[],false,[]⟩).pair):=by
   intro is
   induction is with
   | nil=>intro _;rfl
   | cons i is ih=>
    intro hi
    rw [List.flatMap_cons,List.flatMap_cons,ih fun j hj=>hi j (by simp [hj])]
    obtain⟨r,hx⟩:=Aa (hi i (by simp))
    have e:p.getD i D0=r:=by rw [List.getD_eq_getElem?_getD,hx];rfl
    have e2:(p.map Ak).getD i ⟨[],false,[]⟩=Ak r:=by rw [List.getD_eq_getElem?_getD,List.getElem?_map,hx];rfl
    obtain⟨hrb,known,hst⟩:=hsn r (List.mem_of_getElem? hx)
    have e3:(fun (s:Src) (o:Int)=>Bh r s o i)=fun s o=>Ce (Ak r) s o i:=by funext s o;exact G9 hrb hst s o i
    rw [e,e2,e3];rfl
  exact key _ fun i hi=>List.mem_range.1 hi
 rw [Mn,hruns,Jv] at hcol
 generalize Ud (Ff (p.map Ak) l)=W at *
 obtain⟨w1,w2⟩:=W
 unfold psV Src.l at hcol ⊢
 unfold Src.l at hv
 (refine A8.of_code mix Tryz.call14 k_14 (by simp) (fun hB=>?_);(try simp at hB);(try simp -implicitDefEqProofs))
 ((try simp at hsnd hv);(try simp -implicitDefEqProofs);repeat' first|(with_reducible apply A0<;>first|(simp only [eras,era,A1];first|with_reducible assumption)|(simp -implicitDefEqProofs)))
 refine Ab hcol ?_
 (try simp -implicitDefEqProofs)
theorem Sa {l:List Sou} {cs:List Code} (h:Ue l cs=true):l.length≤13∧cs.length≤10∧(∀c∈cs,c.ins.length≤400)∧∀x∈l,x.items.length≤60:=by
 unfold Ue Jb at h
 simp only [Bool.and_eq_true,List.all_eq_true,decide_eq_true_eq] at h
 exact⟨h.1.2,h.2,fun c hc=>(h.1.1.2 c hc).2,h.1.1.1⟩
theorem A0r {l:List Sou} {cs:List Code} (h:Ue l cs=true) (hw : ∀x∈l,x.wf) : ∀s∈l.map Sou.src,s.num.natAbs≤100000∧0<s.den∧s.den≤100000∧s.items.length≤1000:=by
 intro s hs
 obtain⟨x,hx,rfl⟩:=List.mem_map.1 hs
 have h1:=(Sa h).2.2.2 x hx
 obtain⟨h2,h3⟩:=hw x hx
 have h4:=Vf (a:=x.sh) (q:=10000) (by decide)
 have h5:=Zj (a:=x.sh) (q:=10000)
 have h6:=Ve (a:=x.sh) (q:=10000) (by decide)
 unfold Sou.src
 exact⟨by simp only [];omega,h6,by simp only [];omega,by simp only [];omega⟩
theorem Uk {ps l:List Part} (h:Cc ps=some l):l.length≤ps.length:=by
 unfold Cc at h
 split at h
 ·cases h
  rw [List.length_map]
  exact Nat.le_trans (List.length_filter_le _ _) (G5 ps)
 ·cases h
theorem Fu {s:Src} {oth:Int} : ∀{l:List Ins} {st loc:List Int} {ps q:List Part},Aw s oth l st loc ps=some q→q.length≤ps.length+l.length
 | [],st,loc,ps,q,h=>by cases h;simp
 | x::l,st,loc,ps,q,h=>by
  unfold Aw at h
  rw [List.length_cons]
  split at h
  ·have:=Fu h;omega
  split at h
  ·split at h
   ·cases h;simp
   ·have:=Fu h;omega
  split at h
  ·have:=Fu h;rw [List.length_append] at this;simp at this;omega
  split at h
  ·have:=Uk h;rw [List.length_append] at this;simp at this;omega
  split at h
  ·have:=Fu h;omega
  ·cases h
structure BalP (cs:List Code) (p:Posting):Prop where
 kind:p.kind=10
 r0:0≤p.rule
 rl:p.rule<cs.length
 oth : ∀c,cs[p.rule.toNat]?=some c→(p.oth == -1) = !c.pair
 parts:PartsOk p.parts
 two:2≤p.parts.length
 len:p.parts.length≤8000
theorem Vv {cs:List Code} {l:List Src} {q:List Posting} (hci : ∀c∈cs,c.ins.length≤8000) (hl:Dc l=true) (h:Ff cs l=some q) {p:Posting} (hp:p∈q):BalP cs p:=by
 obtain⟨y,hy,h1,h2,h3,h4,h5,h6,h7⟩:=A2u h hp
 obtain⟨g1,g2,g3,g4⟩:=A2t hy
 have g0:=A4 g1
 refine⟨h2,by omega,by omega,fun c hc=>?_,h6,h6.two h7,?_⟩
 case refine_2=>
  unfold Ce at h1
  obtain⟨ps,hx,rfl⟩:=Option.map_eq_some_iff.1 h1
  have hl:=Fu hx
  have hcl:=hci _ (List.mem_of_getElem? g1)
  simp at hl
  unfold F8
  split
  ·simp
  ·simp only [];omega
 rw [h3,Int.toNat_natCast,g1] at hc
 cases hc
 by_cases hp:y.1.1.pair=true
 ·rw [if_pos hp] at g4
  obtain⟨o,o1,o2,o3,o4⟩:=g4
  have:=(E2 hl o1).1
  rw [hp,h5,←o3]
  simp;omega
 ·rw [if_neg hp] at g4
  rw [Bool.not_eq_true] at hp
  rw [hp,h5,g4];rfl
end Go.Proofs.YtmlpmdccfmmpoaaGreatDoor
section
set_option linter.unusedVariables false
namespace Go.Proofs.YtmlpmdccfmmpoaaGreatDoor
namespace E
def Y4 (rvs:List RV) (nb nt:Nat) (r:V) (S':St) (e:Ex) (a:Fr) (S1:St):Prop:=
 (match e with | .ex _=>False | .pn _=>False|_=>True)∧(nb≤S'.boxes.length∧nt≤S'.toks.length)∧
 match Qp a S1 rvs with
 | some vs=>leS S1 S'∧leV (Kc vs) r∧okN S'.boxes.length S'.toks.length r=true
 | none=>False
attribute [simp] Y4
theorem Sb {P:Program} {fn:Func} {rs:List RV} {g g0:Gh} {S S1 S':St} {w w':World} {a':Fr} {act':Act} {N:Nat} {Df:List Deferred} {x:Ex} {r:V} (hI:Inv g S w) (hr:Gc P fn.results.toList=some rs)
  (hfinK:Y4 rs S.boxes.length S.toks.length r S' x a' S1) (hC':Conc N Df g0 a' S1 act' w') (hm0:Mv0 S.boxes.length S.toks.length g S w g0 S1 w') :
  ∃v,(results fn act'.tmps).run P w'=.ok v w'∧∃u g',Ending.returned v=.returned u∧RelV g' S'.toks r u∧Mv g S w g' S' w':=by
 obtain⟨hx,hcnt,hfin⟩:=hfinK
 split at hfin
 ·rename_i rvals hrv
  obtain⟨hle,hl,hok⟩:=hfin
  obtain⟨u,hu,hur⟩:=Kd (P:=P) (fn:=fn) hC' hr hrv
  refine⟨u,hu,u,trunc g0 S'.boxes.length S'.toks.length,rfl,?_,hm0.mv hI hC'.inv hle hcnt⟩
  have:=(Ot hur hl).trunc hok
  rw [←hle.2.eq.2] at this
  exact this
 ·exact hfin.elim
theorem FnS.of_ewpU {P:Program} {fl wl:Bool} (hmix:P.follows .mixedOrders=true) {f:Nat} {fn:Func} {code:Go.Code} {c:EC} {rs:List RV} {vs:List V} {S S':St} {r:V} (hE:B4 P f) (hf:P.funcs[f]?=some fn) (hb:fn.body=some code)
  {N:Nat} (hN:fn.ntmps=N) (hc:D9 P fl wl N code=some c) (hr:Gc P fn.results.toList=some rs) (hlen:vs.length≤N)
  (h:ewp P S.boxes.length S.toks.length c (Y4 rs S.boxes.length S.toks.length r S') (fr0 vs) S):FnS P f vs S r S':=by
 refine⟨hE,fun g w us hI hus hrel=>?_⟩
 subst hN
 refine calls_of_wp hf hb ?_
 refine wp_mono (Ec hmix code c hc (Conc.start hI hus hrel hlen) (Nat.le_refl _) (Nat.le_refl _) h) ?_
 rintro e act' w' ⟨x,a',S1,g0,hex,hfin,hC',hm0⟩
 have hres:=Sb (P:=P) (fn:=fn) hI hr hfin hC' hm0
 cases x with
 | nx=>subst hex;exact⟨hC'.defers,hres⟩
 | rt=>subst hex;exact⟨hC'.defers,hres⟩
 | ex id=>exact hfin.1.elim
 | pn v=>exact hfin.1.elim
theorem FnS.of_codeU {P:Program} (hmix:P.follows .mixedOrders=true) {f N:Nat} {c:EC} {rs:List RV} {vs:List V} {S S':St} {r:V} {fl wl:Bool} (hE:B4 P f) (hc:ecG fl wl P f=some (N,c,rs)) (hlen:vs.length≤N)
  (h:bdVs vs→ewp P S.boxes.length S.toks.length c (Y4 rs S.boxes.length S.toks.length r S') (fr0 vs) S):FnS P f vs S r S':=FnS.of_bd hE fun hb'=>by
 have h:=h hb'
 unfold ecG at hc
 split at hc
 ·rename_i fn hf
  split at hc
  ·rename_i code hb
   split at hc
   ·rename_i c' rs' h1 h2
    simp only [Option.some.injEq,Prod.mk.injEq] at hc
    obtain⟨rfl,rfl,rfl⟩:=hc
    exact FnS.of_ewpU hmix hE hf hb rfl h1 h2 hlen h
   ·cases hc
  ·cases hc
 ·cases hc
theorem FnS.of_codeUB {P:Program} (hmix:P.follows .mixedOrders=true) {f N:Nat} {c:EC} {rs:List RV} {vs:List V} {S S':St} {r:V} (hE:B4 P f) (hc:ecB P f=some (N,c,rs)) (hlen:vs.length≤N)
  (h:bdVs vs→ewp P S.boxes.length S.toks.length c (Y4 rs S.boxes.length S.toks.length r S') (fr0 vs) S):FnS P f vs S r S':=FnS.of_codeU hmix hE hc hlen h
end E
end Go.Proofs.YtmlpmdccfmmpoaaGreatDoor
set_option linter.unusedSimpArgs false
set_option linter.unusedVariables false
namespace Go.Proofs.YtmlpmdccfmmpoaaGreatDoor
open E
structure Alike (a b:Src):Prop where
 ent:a.ent=b.ent
 full:a.full=b.full
 num:a.num=b.num
 den:a.den=b.den
 rd : ∀f t any p,Az a.items f t any p=Az b.items f t any p
end Go.Proofs.YtmlpmdccfmmpoaaGreatDoor
set_option linter.unusedSimpArgs false
set_option linter.unusedVariables false
set_option maxHeartbeats 4000000
set_option maxRecDepth 8000
namespace Go.Proofs.YtmlpmdccfmmpoaaGreatDoor
open E

theorem A0s (l:List Posting) (hl : ∀p∈l,p.parts.length≤1000000):A8 Tryz.prog 17 [Posting.l l,Posting.l l] (vB true):=by
 (refine A8.of_code mix Tryz.call17 k_17 (by simp) (fun hB=>?_);(try simp at hB);(try simp -implicitDefEqProofs))
 simp only [maxLen] at hB
 refine A7 (X:=Nat) (fun k=>k≤l.length) (fun k=>[(0,Posting.l l),(1,Posting.l l),(5,vI k)]) (fun _=>⟨[],[]⟩) (fun k=>l.length-k) 0 (by omega) (by simp) ?_
 rintro k hk hbd
 clear hbd
 rcases Nat.lt_or_ge k l.length with h|h
 ·obtain⟨p,hp⟩:=Aa h
  have e3:IntKind.i64.wrap ((k:Int)+1)=(k:Int)+1:=wrap64 (by omega) (by omega)
  have hpc:(l.map Posting.c)[k]?=some p.c:=by simp [hp]
  have hpc' : ∀h,(l.map Posting.c)[k]'h=p.c:=fun h=>by rw [List.getElem?_eq_getElem h] at hpc;exact Option.some.inj hpc
  have hpl:=hl p (List.mem_of_getElem? hp)
  obtain⟨kd,en,ot,ru,ps⟩:=p
  simp only [] at hpl
  have hfin : ∃z':Nat,z'≤l.length∧l.length-z'<l.length-k∧(z':Int)=(k:Int)+1:=⟨k+1,by omega,by omega,by push_cast;rfl⟩
  (try simp -implicitDefEqProofs [h,hpc,hpc',Posting.c])
  refine A7 (X:=Nat) (fun j=>j≤ps.length) (fun j=>[(0,Posting.l l),(1,Posting.l l),(5,vI k),(6,vI j)]) (fun _=>⟨[],[]⟩) (fun j=>ps.length-j) 0 (by omega) (by simp) ?_
  rintro j hj hbd
  clear hbd
  rcases Nat.lt_or_ge j ps.length with h2|h2
  ·obtain⟨x,hx⟩:=Aa h2
   have e4:IntKind.i64.wrap ((j:Int)+1)=(j:Int)+1:=wrap64 (by omega) (by omega)
   have hxc:(ps.map Part.c)[j]?=some x.c:=by simp [hx]
   have hxc' : ∀h,(ps.map Part.c)[j]'h=x.c:=fun h=>by rw [List.getElem?_eq_getElem h] at hxc;exact Option.some.inj hxc
   obtain⟨ac,am⟩:=x
   have hfin2 : ∃z':Nat,z'≤ps.length∧ps.length-z'<ps.length-j∧(z':Int)=(j:Int)+1:=⟨j+1,by omega,by omega,by push_cast;rfl⟩
   (try simp -implicitDefEqProofs [h,hpc,hpc',Posting.c,h2,hxc,hxc',Part.c,e4])
   exact hfin2
  ·have:j=ps.length:=by omega
   subst this
   (try simp -implicitDefEqProofs [h,hpc,hpc',Posting.c,e3])
   exact hfin
 ·have:k=l.length:=by omega
  subst this
  (try simp -implicitDefEqProofs)
end Go.Proofs.YtmlpmdccfmmpoaaGreatDoor
set_option linter.unusedSimpArgs false
set_option linter.unusedVariables false
set_option maxHeartbeats 4000000
set_option maxRecDepth 8000
namespace Go.Proofs.YtmlpmdccfmmpoaaGreatDoor
open E

theorem Mx (n m:Nat) (e:TypeId) (z:Nat) (l:List T):E.leB n m (.buf e z (l.map .t)) (.buf e z (l.map .t)):=⟨rfl,rfl,A3 _,Dq _ _ _⟩
theorem A6.dead {n m:Nat} : ∀(D:List Bx),A6 n m D (List.replicate D.length .dead)
 | []=>trivial
 | x::D=>⟨trivial,A6.dead D⟩
theorem A6.append {n m:Nat} : ∀{A A' l l':List Bx},A6 n m A A'→A6 n m l l'→A.length=A'.length→A6 n m (A++l) (A'++l')
 | [],[],_,_,_,h,_=>h
 | a::A,b::B,l,l',h,h2,hl=>⟨h.1,A6.append h.2 h2 (by simpa using hl)⟩
def Je (l:List Src):Bx:=.buf 68 7 ((l.flatMap Src.c).map .t)
def Hm (l:List Src):Bx:=.buf 110 7 ((l.flatMap Src.q).map .t)
theorem Ld (l:List Src) (n m:Nat):E.leB n m (Je l) (Je l):=Mx n m _ _ _
theorem Hj (l:List Src) (n m:Nat):E.leB n m (Hm l) (Hm l):=Mx n m _ _ _
def Pj (B D:List Bx) (l:List Src):List Bx:=if l=[] then B else B++D++[Je l,Hm l]
def My (B D:List Bx) (j k:Nat):V:=if k=0 then .snil else .bw (B.length+D.length+j) k
theorem Mz (l:List Src):(l.flatMap Src.c).length=l.length*7∧(l.flatMap Src.q).length=l.length*7:=by
 induction l with
 | nil=>exact⟨rfl,rfl⟩
 | cons x l ih=>simp only [List.flatMap_cons,List.length_append,ih.1,ih.2,List.length_cons,Nat.succ_mul,show x.c.length=7 from rfl,show x.q.length=7 from rfl];omega
theorem Ul (l:List Sou) (B:List Bx) (hU:OkU B) (hl0:l≠[]) (hl:l.length≤1000) (hw : ∀x∈l,x.wf):FnS Tryz.prog 10 [Sou.l l] ⟨B,[]⟩ (.tup [.bw (B.length+(3*l.length-2)) l.length,.bw (B.length+(3*l.length-2)+1) l.length])
  ⟨B++List.replicate (3*l.length-2) .dead++[Je (l.map Sou.src),Hm (l.map Sou.src)],[]⟩:=by
 have hsrc : ∀x:Sou,Src.c x.src=[.int .i64 x.ent,.bool x.full,.bool (nB (C5 x.sh 10000)),.sl (pE (C5 x.sh 10000)),.bool (nB (C6 x.sh 10000)),.sl (pE (C6 x.sh 10000)),.sl (x.items.map Item.c)]:=fun _=>rfl
 obtain⟨L,hL⟩ : ∃L,L=l.map Sou.src:=⟨_,rfl⟩
 have hLl:L.length=l.length:=by rw [hL];simp
 rw [←hL]
 (refine FnS.of_codeUB mix Tryz.call10 kb_10 (by simp) (fun hB=>?_);(try simp at hB);(try simp -implicitDefEqProofs))
 refine A7 (X:=Nat×List Bx) (fun X=>X.1≤l.length∧OkU (B++X.2)∧X.2.length=3*X.1-2)
  (fun X=>[(0,Sou.l l),(4,My B X.2 0 X.1),(5,My B X.2 1 X.1),(6,vI X.1)])
  (fun X=>⟨Pj B X.2 (L.take X.1),[]⟩) (fun X=>l.length-X.1) (0,[]) ⟨by simp,by simpa using hU,rfl⟩ (by simp [Pj,My];exact hU _ _ (by omega)) ?_
 rintro ⟨k,D⟩ ⟨hk,hD,hDl⟩ hbd
 simp only [] at hk hD hDl
 clear hbd
 rcases Nat.lt_or_ge k l.length with h|h
 ·obtain⟨x,hx⟩:=Aa h
  have e3:IntKind.i64.wrap ((k:Int)+1)=(k:Int)+1:=wrap64 (by omega) (by omega)
  have hxw:=hw x (List.mem_of_getElem? hx)
  have r1:=Ag (l:=L) (k:=k) (x:=x.src) (by rw [hL];simp [hx])
  have l1:(L.take k).length=k:=by simp;omega
  obtain⟨f1,f2⟩:=Mz (L.take k)
  rw [l1] at f1 f2
  generalize L.take k=A at *
  have hxc:(l.map Sou.c)[k]?=some x.c:=by simp [hx]
  have hxc' : ∀h,(l.map Sou.c)[k]'h=x.c:=fun h=>by rw [List.getElem?_eq_getElem h] at hxc;exact Option.some.inj hxc
  obtain⟨ent,full,sh,items⟩:=x
  unfold Sou.wf at hxw
  simp only [] at hxw
  have w1:=Vl (n:=sh) (d:=10000) (by omega) (by omega) (by decide) (by decide)
  have w2:=Rs (n:=sh) (by omega) (by omega)
  obtain⟨s,hs⟩ : ∃s:Src,s=Sou.src ⟨ent,full,sh,items⟩:=⟨_,rfl⟩
  rw [←hs] at r1
  have sc:s.c=[.int .i64 ent,.bool full,.bool (nB (C5 sh 10000)),.sl (pE (C5 sh 10000)),.bool (nB (C6 sh 10000)),.sl (pE (C6 sh 10000)),.sl (items.map Item.c)]:=by rw [hs];rfl
  have sq:s.q=[.int .i64 ent,.bool full,.bool (nB (C5 sh 10000)),.sl (qE (C5 sh 10000)),.bool (nB (C6 sh 10000)),.sl (qE (C6 sh 10000)),.sl (items.map Item.c)]:=by rw [hs];rfl
  unfold rV at w1
  unfold sV at w2
  generalize C5 sh 10000=N at *
  generalize C6 sh 10000=Dn at *
  have hbs : ∀A:List Src,Je (A++[s])=.buf 68 7 ((A.flatMap Src.c).map .t++[.t (.int .i64 ent),.t (.bool full),.t (.bool (nB N)),.t (.sl (pE N)),.t (.bool (nB Dn)),.t (.sl (pE Dn)),.t (.sl (items.map Item.c))]):=fun A=>by
   unfold Je;rw [List.flatMap_append];simp [sc]
  have hbq : ∀A:List Src,Hm (A++[s])=.buf 110 7 ((A.flatMap Src.q).map .t++[.t (.int .i64 ent),.t (.bool full),.t (.bool (nB N)),.t (.sl (qE N)),.t (.bool (nB Dn)),.t (.sl (qE Dn)),.t (.sl (items.map Item.c))]):=fun A=>by
   unfold Hm;rw [List.flatMap_append];simp [sq]
  have e4:IntKind.i64.wrap sh=sh:=wrap64 (by omega) (by omega)
  have j1:k≤9223372036854775806:=by omega
  have j2:(k+1)*104≤140737488355328:=by omega
  have hne:A++[s]≠[]:=by simp
  rcases Nat.eq_zero_or_pos k with k0|k0
  ·subst k0
   have hD0:D=[]:=List.eq_nil_of_length_eq_zero (by omega)
   subst hD0
   have gz : ∀(l:List Bx),(B++l)[B.length]?=l[0]?:=fun l=>by rw [List.getElem?_append_right (by omega)];simp
   have g1 : ∀(l:List Bx) (j:Nat),(B++l)[B.length+j]?=l[j]?:=fun l j=>by rw [List.getElem?_append_right (by omega)];simp
   have s0 : ∀(l:List Bx) (v:Bx),(B++l).set B.length v=B++l.set 0 v:=fun l v=>by rw [List.set_append_right _ _ (by omega)];simp
   have hA0:A=[]:=List.eq_nil_of_length_eq_zero l1
   subst hA0
   rw [show Pj B [] []=B from rfl,show My B [] 0 0=.snil from rfl,show My B [] 1 0=.snil from rfl]
   ((try simp at w1 w2);(try simp -implicitDefEqProofs [h,hxc,hxc',Sou.c,e3,e4,maxLen,gz,g1,s0]);repeat' first|(with_reducible apply A0<;>first|(simp only [eras,era,A1];first|with_reducible assumption)|(simp -implicitDefEqProofs [h,hxc,hxc',Sou.c,e3,e4,maxLen,gz,g1,s0])))
   refine⟨1,[.cells [V.t (T.bool (nB N)),V.t (T.sl (pE N)),V.t (T.bool (nB ↑Dn)),V.t (T.sl (pE ↑Dn))]],⟨by omega,?_,rfl⟩,by omega,?_⟩
   ·intro n m hn
    exact (A6.appU (hU n m (by simp at hn;omega))).2 ⟨⟨A3 _,rfl⟩,trivial⟩
   ·rw [show (0:Nat)+1=1 from rfl] at r1
    rw [r1]
    have hz:=hU
    obtain⟨xb,hxb⟩ : ∃xb,xb=Bx.cells [V.t (T.bool (nB N)),V.t (T.sl (pE N)),V.t (T.bool (nB ↑Dn)),V.t (T.sl (pE ↑Dn))]:=⟨_,rfl⟩
    have hxl : ∀n m,E.leB n m xb xb:=fun n m=>by rw [hxb];exact⟨A3 _,rfl⟩
    have q1:=Ld ([]++[s])
    have q2:=Hj ([]++[s])
    rw [hbs] at q1
    rw [hbq] at q2
    simp only [List.flatMap_nil,List.map_nil,List.nil_append] at q1 q2
    simp only [Pj,if_neg hne,hbs,hbq,My,←hxb]
    simp
    exact (A6.appU (hU _ 0 (by omega))).2 ⟨hxl _ _,q1 _ _,q2 _ _,trivial⟩
  ·obtain⟨Q,hQ⟩ : ∃Q,Q=B++D:=⟨_,rfl⟩
   have hQl:Q.length=B.length+D.length:=by rw [hQ];simp
   have hA0:A≠[]:=fun h=>by rw [h] at l1;simp at l1;omega
   have hQU:OkU Q:=by rw [hQ];exact hD
   obtain⟨ca,hca⟩ : ∃ca,ca=(A.flatMap Src.c).map V.t:=⟨_,rfl⟩
   obtain⟨cb,hcb⟩ : ∃cb,cb=(A.flatMap Src.q).map V.t:=⟨_,rfl⟩
   have c1:ca.length=k*7:=by rw [hca,List.length_map];exact f1
   have c2:cb.length=k*7:=by rw [hcb,List.length_map];exact f2
   have c3:ca.take (k*7)=ca:=List.take_of_length_le (by omega)
   have c4:cb.take (k*7)=cb:=List.take_of_length_le (by omega)
   have ee:Pj B D A=Q++[.buf 68 7 ca,.buf 110 7 cb]:=by
    unfold Pj;rw [if_neg hA0,←hQ,hca,hcb];rfl
   have ev : ∀j,My B D j k=.bw (Q.length+j) k:=fun j=>by unfold My;rw [if_neg (by omega),hQl]
   have gz : ∀(l:List Bx),(Q++l)[Q.length]?=l[0]?:=fun l=>by rw [List.getElem?_append_right (by omega)];simp
   have g1 : ∀(l:List Bx) (j:Nat),(Q++l)[Q.length+j]?=l[j]?:=fun l j=>by rw [List.getElem?_append_right (by omega)];simp
   have s0 : ∀(l:List Bx) (v:Bx),(Q++l).set Q.length v=Q++l.set 0 v:=fun l v=>by rw [List.set_append_right _ _ (by omega)];simp
   have s1 : ∀(l:List Bx) (j:Nat) (v:Bx),(Q++l).set (Q.length+j) v=Q++l.set j v:=fun l j v=>by rw [List.set_append_right _ _ (by omega)];simp
   rw [ee,ev 0,ev 1,Nat.add_zero]
   ((try simp at w1 w2);(try simp -implicitDefEqProofs [h,hxc,hxc',Sou.c,e3,e4,maxLen,gz,g1,s0,s1,c1,c2,c3,c4,j1,j2]);repeat' first|(with_reducible apply A0<;>first|(simp only [eras,era,A1];first|with_reducible assumption)|(simp -implicitDefEqProofs [h,hxc,hxc',Sou.c,e3,e4,maxLen,gz,g1,s0,s1,c1,c2,c3,c4,j1,j2])))
   obtain⟨xb,hxb⟩ : ∃xb,xb=Bx.cells [V.t (T.bool (nB N)),V.t (T.sl (pE N)),V.t (T.bool (nB ↑Dn)),V.t (T.sl (pE ↑Dn))]:=⟨_,rfl⟩
   have hxl : ∀n m,E.leB n m xb xb:=fun n m=>by rw [hxb];exact⟨A3 _,rfl⟩
   have q1:=Ld (A++[s])
   have q2:=Hj (A++[s])
   rw [hbs,←hca] at q1
   rw [hbq,←hcb] at q2
   have hD':B++(D++[.dead,.dead,xb])=Q++[.dead,.dead,xb]:=by rw [hQ];simp
   have hsb:Pj B (D++[.dead,.dead,xb]) (L.take (k+1))=Q++[.dead,.dead,xb,.buf 68 7 (ca++[.t (.int .i64 ent),.t (.bool full),.t (.bool (nB N)),.t (.sl (pE N)),.t (.bool (nB Dn)),.t (.sl (pE Dn)),.t (.sl (items.map Item.c))]),.buf 110 7 (cb++[.t (.int .i64 ent),.t (.bool full),.t (.bool (nB N)),.t (.sl (qE N)),.t (.bool (nB Dn)),.t (.sl (qE Dn)),.t (.sl (items.map Item.c))])]:=by
    rw [r1]
    unfold Pj
    rw [if_neg hne,hbs,hbq,hD',←hca,←hcb];simp
   have hsv : ∀j,My B (D++[.dead,.dead,xb]) j (k+1)=.bw (Q.length+(3+j)) (k+1):=fun j=>by
    unfold My;rw [if_neg (by omega),hQl];congr 1;simp;omega
   refine⟨k+1,D++[.dead,.dead,xb],⟨by omega,?_,by simp;omega⟩,by omega,?_⟩
   ·rw [hD']
    intro n m hn
    exact (A6.appU (hQU n m (by simp at hn;omega))).2 ⟨trivial,trivial,hxl _ _,trivial⟩
   ·rw [hsb,hsv 0,hsv 1,←hxb]
    refine⟨by simp;omega,(A6.appU (hQU _ 0 (by simp))).2 ⟨trivial,trivial,hxl _ _,q1 _ _,q2 _ _,trivial⟩,⟨leA.refl _,by simp [okN]⟩,⟨leA.refl _,by simp [okN]⟩,by push_cast;rfl⟩
 ·have hke:k=l.length:=by omega
  subst hke
  have hk0:l.length≠0:=fun h=>hl0 (List.eq_nil_of_length_eq_zero h)
  have hL0:L≠[]:=fun h=>hk0 (by rw [←hLl,h];rfl)
  have t1:L.take l.length=L:=List.take_of_length_le (by omega)
  rw [t1]
  simp only [Pj,My,if_neg hk0,if_neg hL0]
  (try simp -implicitDefEqProofs)
  have hle:A6 (B.length+(3*l.length-2+2)) 0 (D++[Je L,Hm L]) (List.replicate (3*l.length-2) Bx.dead++[Je L,Hm L]):=by
   have:=A6.dead (n:=B.length+(3*l.length-2+2)) (m:=0) D
   rw [hDl] at this
   exact A6.append this ⟨Ld _ _ _,Hj _ _ _,trivial⟩ (by simp [hDl])
  refine⟨(A6.appU (hU _ 0 (by omega))).2 hle,⟨?_,?_⟩,by omega⟩
  ·rw [hDl];exact leA.refl _
  ·rw [hDl];exact leA.refl _
theorem A0t {α:Type} {c:α→List T} {z:Nat} (hz : ∀x,(c x).length=z) (o:List α):F0 z o.length (o.flatMap c)=some (o.map c):=by
 have hl:(o.flatMap c).length=o.length*z:=by
  induction o with
  | nil=>simp
  | cons x o ih=>simp only [List.flatMap_cons,List.length_append,hz,ih,List.length_cons,Nat.succ_mul];omega
 unfold F0
 rw [if_pos hl]
 congr 1
 clear hl
 induction o with
 | nil=>rfl
 | cons x o ih=>
  rw [List.length_cons,List.range_succ_eq_map,List.map_cons,List.map_cons,List.flatMap_cons,List.map_map]
  congr 1
  ·simp [hz]
  ·rw [←ih]
   apply List.map_congr_left
   intro i _
   simp only [Function.comp_apply,Nat.succ_mul]
   rw [Nat.add_comm (i*z) z,←List.drop_drop,List.drop_left' (hz x)]
theorem fm_row {α:Type} {c:α→List T} {z:Nat} (hz : ∀x,(c x).length=z) : ∀(o:List α) (i:Nat) (x:α),o[i]?=some x→∀j,j<z→(o.flatMap c)[i*z+j]?=(c x)[j]?
 | y::o,0,x,h,j,hj=>by
  cases h
  rw [List.flatMap_cons,Nat.zero_mul,Nat.zero_add,List.getElem?_append_left (by rw [hz];exact hj)]
 | y::o,i+1,x,h,j,hj=>by
  have:=fm_row hz o i x (by simpa using h) j hj
  rw [List.flatMap_cons,List.getElem?_append_right (by rw [hz,Nat.succ_mul];omega),hz,←this]
  congr 1;rw [Nat.succ_mul];omega
end Go.Proofs.YtmlpmdccfmmpoaaGreatDoor
end
