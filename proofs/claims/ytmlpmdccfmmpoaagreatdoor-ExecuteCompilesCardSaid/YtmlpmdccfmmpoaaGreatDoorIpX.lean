/- Chapter 35: the program's Interpret, over what sound returns. -/
import Derived.Test.YtmlpmdccfmmpoaaGreatDoorVaW
import Derived.Test.YtmlpmdccfmmpoaaGreatDoorExQ
import Derived.Test.YtmlpmdccfmmpoaaGreatDoorExV
import Derived.Test.YtmlpmdccfmmpoaaGreatDoorIn8
set_option linter.unusedSimpArgs false
set_option linter.unusedVariables false
set_option maxHeartbeats 4000000
set_option maxRecDepth 8000
namespace Go.Proofs.YtmlpmdccfmmpoaaGreatDoor
open E
theorem A0n {s:Src} {oth:Int} {q:List UInt8→Int} {k v f t:Int} {n:List UInt8} {vs:List Int} (h:Hs k v f t n vs.length=true) (hq : ∀n,Aj (q n)=true) (hk:(G0 s oth q k v f t n vs).2=true):Aj (G0 s oth q k v f t n vs).1=true:=by
 unfold G0 at hk ⊢
 by_cases k1:k=1
 ·rw [if_pos k1]
  simp only [Hs,Bool.and_eq_true] at h
  have h:=h.2
  unfold fldB at h
  rw [if_pos k1] at h
  simp only [Bool.and_eq_true,decide_eq_true_eq] at h
  unfold Aj
  simp only [Bool.and_eq_true,decide_eq_true_eq]
  omega
 rw [if_neg k1] at hk ⊢
 by_cases k2:k=2
 ·rw [if_pos k2];exact hq n
 rw [if_neg k2] at hk ⊢
 by_cases k3:k=21
 ·rw [if_pos k3] at hk ⊢;exact hk
 rw [if_neg k3] at hk ⊢
 by_cases k4:k=22
 ·rw [if_pos k4] at hk ⊢;exact hk
 rw [if_neg k4] at hk ⊢
 by_cases k5:k=5
 ·rw [if_pos k5] at hk ⊢
  unfold F1 at hk ⊢
  split at hk
  ·rename_i hc;rw [if_pos hc];exact hc.2
  ·cases hk
 ·rw [if_neg k5] at hk ⊢
  exact Fw hk
theorem A0o {s:Src} {oth:Int} {q:List UInt8→Int} (hq : ∀n,Aj (q n)=true) {x:Xp} (hp:x.prop=true) (h:(x.valE s oth q).2=true):Aj (x.valE s oth q).1=true:=by
 obtain⟨k,v,f,t,n,xs⟩:=x
 simp only [Xp.prop,Bool.and_eq_true] at hp
 rw [Xp.valE] at h ⊢
 cases hvs:Xp.valEs s oth q xs with
 | none=>rw [hvs] at h;cases h
 | some vs=>
  rw [hvs] at h
  have:=hp.1
  rw [←Xp.valEs_len hvs] at this
  exact A0n this hq h
structure IpS where
 k:Nat
 L:List (List UInt8×Int)
 ps:List Part
structure IpS.Ok (ss:List Stm) (s:Src) (oth to:Int) (R:Option (List Part)) (X:IpS):Prop where
 k:X.k≤ss.length
 ex:Bt s oth to X.L (ss.drop X.k) X.ps=R
 am : ∀p∈X.ps,Aj p.amt=true
 acc : ∀p∈X.ps,0≤p.acc∧p.acc≤1000000
 len:X.ps.length≤X.k
 env : ∀n,Aj ((B7 X.L n).getD 0)=true
 ll:X.L.length≤X.k
theorem A3s (L:List (List UInt8×Int)) (n m:Nat):E.leB n m (.mp (mS vI L)) (.mp (mS vI L)):=
 ⟨rfl,Zh fun v hv=>by simp only [mS,List.map_map,List.mem_map] at hv;obtain⟨p,_,rfl⟩:=hv;exact⟨_,rfl⟩,Zh fun v hv=>by simp only [mS,List.map_map,List.mem_map] at hv;obtain⟨p,_,rfl⟩:=hv;exact⟨_,rfl⟩⟩
theorem Rt (b mb:Nat) (r:Rul) (rule:Int) (B:List Bx) (hU:OkU B) (s:Src) (oth:Int) (hs:s.Ok) (hb:B[b]?=some (.cells (mC s oth .snil mb 0))) (hmb:B[mb]?=some (.mp [])) (hrb:D7 r=true)
  (pair:Bool) (hpo:pair=true→0≤oth) (hty : ∀x∈r.stmts,∃kn,(x.ex.inf kn pair).2=0) :
  FnS Tryz.prog 41 [.ptr b 0,r.v,vI rule] ⟨B,[]⟩ (peV (Cb s oth rule (Bt s oth r.to [] r.stmts []))) ⟨(B.set mb .dead).set b .dead,[]⟩:=by
 have hne:b≠mb:=fun e=>by rw [e,hmb] at hb;cases hb
 have hbl:=Ab hb
 have hml:=Ab hmb
 have hst:=R2 hb hmb
 obtain⟨nm,pr,ss,to⟩:=r
 simp only [D7,Bool.and_eq_true,decide_eq_true_eq,List.all_eq_true] at hrb hty
 obtain⟨⟨⟨_,hlen⟩,hto⟩,hstm⟩:=hrb
 obtain⟨R,hR⟩ : ∃R,R=Bt s oth to [] ss []:=⟨_,rfl⟩
 simp only [] 
 rw [←hR]
 obtain⟨P,hP⟩ : ∃P,P=B.length:=⟨_,rfl⟩
 have hgz : ∀(l:List Bx),(B++l)[P]?=l[0]?:=fun l=>by rw [List.getElem?_append_right (by omega)];congr 1;omega
 have hg1 : ∀(l:List Bx) (j:Nat),(B++l)[P+j]?=l[j]?:=fun l j=>by rw [List.getElem?_append_right (by omega)];congr 1;omega
 have hrv:Rul.v ⟨nm,pr,ss,to⟩=.agg [vS nm,vB pr,.t (.sl (ss.map Stm.c)),vI to]:=rfl
 rw [hrv]
 (refine FnS.of_code mix Tryz.call41 k_41 (by simp) (fun hB=>?_);(try simp at hB);(try simp -implicitDefEqProofs))
 ((try simp -implicitDefEqProofs [hgz,hg1,←hP]);repeat' first|((with_reducible first|apply A5|apply A6|apply A3)<;>(intro hc;have hc':=hc;(try simp at hc');simp -implicitDefEqProofs [hc,hc',hgz,hg1,←hP])))
 refine Ac (X:=IpS) (fun X=>X.Ok ss s oth to R)
  (fun X=>[(0,.ptr b 0),(2,vI rule),(4,.ptr P 0),(6,.ptr (P+1) 0),(8,.mp (P+2)),(15,.t (.sl (ss.map Stm.c))),(16,vI ss.length),(17,vI X.k)])
  (fun X=>⟨MB B b mb s oth .snil X.ps++[.cells [vS nm,vB pr,.t (.sl (ss.map Stm.c)),vI to],.cells [vI 0,vI 0,vI 0,vI 0,.snil],.mp (mS vI X.L)],[]⟩) (fun X=>ss.length-X.k) ⟨0,[],[]⟩ ⟨by simp,hR.symm,by simp,by simp,by simp,fun n=>(by decide:Aj 0=true),by simp⟩ ?hs ?_
 case hs=>
  have hle:=fun (l l':List Bx) n m h=>Aa.appU (l:=l) (l':=l') (hU n m h)
  simp [hst,hle,E.leB,A4,okNs,okN,←hP,mS]
  omega
 rintro ⟨k,L,ps⟩ ⟨hk,hex,ham,hacc,hpl,henv,hLl⟩ hbd
 simp only [] at hk hex ham hacc hpl henv hLl
 clear hbd
 have e3:IntKind.i64.wrap ((k:Int)+1)=(k:Int)+1:=wrap64 (by omega) (by omega)
 obtain⟨M,hM⟩ : ∃M,M=MB B b mb s oth .snil ps:=⟨_,rfl⟩
 have hML:M.length=P:=by rw [hM,I0,hP]
 have hMb:M[b]?=some (.cells (mC s oth .snil mb (ps.map Part.amt).sum)):=by rw [hM,A79 hbl]
 have hMm:M[mb]?=some (.mp (mI vI (Bv ps))):=by rw [hM,A7a hml hne]
 have hMbE : ∀l:List Bx,(M++l)[b]?=some (.cells (mC s oth .snil mb (ps.map Part.amt).sum)):=fun l=>Ai hMb l
 have hMmE : ∀l:List Bx,(M++l)[mb]?=some (.mp (mI vI (Bv ps))):=fun l=>Ai hMm l
 have gz : ∀l:List Bx,(M++l)[P]?=l[0]?:=fun l=>by rw [List.getElem?_append_right (by omega)];congr 1;omega
 have g1 : ∀(l:List Bx) (j:Nat),(M++l)[P+j]?=l[j]?:=fun l j=>by rw [List.getElem?_append_right (by omega)];congr 1;omega
 have s1 : ∀(l:List Bx) (j:Nat) (v:Bx),(M++l).set (P+j) v=M++l.set j v:=fun l j v=>by rw [List.set_append_right _ _ (by omega)];congr 2;omega
 have hMU : ∀l:List Bx,(∀n m,P+3≤n→Aa n m l l)→∀n m,P+3≤n→Aa n m (M++l) (M++l):=fun l hl n m h=>by
  rw [hM]
  exact (Aa.appU (V2 hU hml (by omega) (.inl rfl))).2 (hl n m h)
 have hdead : ∀l:List Bx,Aa P 0 (M++l) ((B.set mb .dead).set b .dead):=fun l=>by rw [hM];exact Ov hU l (by omega)
 obtain⟨T0,hT0⟩ : ∃T0:List Bx,T0=[.cells [vS nm,vB pr,.t (.sl (ss.map Stm.c)),vI to],.cells [vI 0,vI 0,vI 0,vI 0,.snil],.mp (mS vI L)]:=⟨_,rfl⟩
 have hT0U : ∀n m,Aa n m T0 T0:=fun n m=>by rw [hT0];exact⟨⟨A4 _,rfl⟩,⟨A4 _,rfl⟩,A3s L n m,trivial⟩
 rw [←hM]
 have hnext : ∀(z:IpS) (rest:List Bx),z.Ok ss s oth to R→z.k=k+1→k<ss.length→∃z',IpS.Ok ss s oth to R z'∧ss.length-z'.k<ss.length-k∧P≤(MB B b mb s oth .snil z'.ps).length+3∧
   Aa ((MB B b mb s oth .snil z'.ps).length+3) 0 (MB B b mb s oth .snil z.ps++(.cells [vS nm,vB pr,.t (.sl (ss.map Stm.c)),vI to]::.cells [vI 0,vI 0,vI 0,vI 0,.snil]::.mp (mS vI z.L)::rest)) (MB B b mb s oth .snil z'.ps++[.cells [vS nm,vB pr,.t (.sl (ss.map Stm.c)),vI to],.cells [vI 0,vI 0,vI 0,vI 0,.snil],.mp (mS vI z'.L)])∧
   b<(MB B b mb s oth .snil z'.ps).length+3∧P<(MB B b mb s oth .snil z'.ps).length+3∧P<(MB B b mb s oth .snil z'.ps).length+2∧P<(MB B b mb s oth .snil z'.ps).length+1∧(z'.k:Int)=(k:Int)+1:=fun z rest hz hzk hkl=>by
  have hl:(MB B b mb s oth .snil z.ps).length=P:=by rw [I0,hP]
  refine⟨z,hz,by omega,by omega,?_,by omega,by omega,by omega,by omega,by rw [hzk];push_cast;rfl⟩
  rw [hl]
  exact (Aa.appU (V2 hU hml (by omega) (.inl rfl))).2 ⟨⟨A4 _,rfl⟩,⟨A4 _,rfl⟩,A3s _ _ _,by cases rest<;>trivial⟩
 rcases Nat.lt_or_ge k ss.length with h|h
 ·obtain⟨x,hx⟩:=Ad h
  have hxm:=List.mem_of_getElem? hx
  have hdr:ss.drop k=x::ss.drop (k+1):=by
   obtain⟨h1,h2⟩:=List.getElem?_eq_some_iff.1 hx
   rw [List.drop_eq_getElem_cons h1,h2]
  rw [hdr,Bt] at hex
  have hxc:(ss.map Stm.c)[k]?=some x.c:=by simp [hx]
  have hxc' : ∀h,(ss.map Stm.c)[k]'h=x.c:=fun h=>by rw [List.getElem?_eq_getElem h] at hxc;exact Option.some.inj hxc
  have hsb:=hstm x hxm
  unfold F2 at hsb
  simp only [Bool.and_eq_true,decide_eq_true_eq] at hsb
  obtain⟨⟨hsh,_⟩,hpr⟩:=hsb
  obtain⟨kn,hin⟩:=hty x hxm
  have hxU : ∀n m,E.leB n m (.cells (x.c.map .t)) (.cells (x.c.map .t)):=fun n m=>⟨A4 _,Dq _ _ _⟩
  have hvU : ∀n m,(M++(T0++[Bx.cells (x.c.map .t)])).length≤n→Aa n m (M++(T0++[Bx.cells (x.c.map .t)])) (M++(T0++[Bx.cells (x.c.map .t)])):=fun n m hn=>hMU (T0++[Bx.cells (x.c.map .t)]) (fun n m _=>(Aa.appU (hT0U n m)).2 ⟨hxU n m,trivial⟩) n m (by rw [hT0] at hn;simp at hn;omega)
  have hcall:=A2y s hs oth kn pair (fun n=>(B7 L n).getD 0) hpo x.ex hpr hin (M++(T0++[Bx.cells (x.c.map .t)])) hvU b .snil mb _ (hMbE _) (.mp (P+2)) (.inr ⟨P+2,L,rfl,by rw [g1,hT0];rfl,fun _=>rfl⟩)
  have hva:=A0o (s:=s) (oth:=oth) henv hpr
  obtain⟨w,hw⟩ : ∃w,w=x.ex.valE s oth fun n=>(B7 L n).getD 0:=⟨_,rfl⟩
  rw [←hw] at hcall hex hva
  obtain⟨w1,w2⟩:=w
  simp only [] at hex hva
  unfold vO at hcall
  obtain⟨kd,ac,sn,ex⟩:=x
  obtain⟨ek,ev,ef,et,en,exs⟩:=ex
  simp only [] at hex hsh
  have hc9:Stm.c ⟨kd,ac,sn,.mk ek ev ef et en exs⟩=[.int .i64 kd,.int .i64 ac,.str sn,.int .i64 ek,.int .i64 ev,.int .i64 ef,.int .i64 et,.str en,.sl (exs.map Xp.c)]:=by unfold Stm.c;rw [Xp.c_mk]
  rw [hc9] at hxc hcall hvU
  simp only [hc9] at hxc'
  rw [show (Xp.mk ek ev ef et en exs).v=.agg [vI ek,vI ev,vI ef,vI et,vS en,.t (.sl (exs.map Xp.c))] from by show V.agg _=_;rw [Xp.c_mk];rfl,hT0] at hcall
  simp only [List.map_cons,List.map_nil,List.cons_append,List.nil_append] at hcall
  cases w2
  ·rw [if_neg (by decide)] at hex
   rw [←hex]
   ((try simp -implicitDefEqProofs [h,hxc,hxc',gz,g1,s1,hML]);repeat' first|((with_reducible first|apply A5|apply A6|apply A3)<;>(intro hc;have hc':=hc;(try simp at hc');simp -implicitDefEqProofs [hc,hc',h,hxc,hxc',gz,g1,s1,hML])))
   refine A8 hcall ?_
   ((try simp -implicitDefEqProofs [gz,g1,s1,Cb,peV,pV,Bw]);repeat' first|((with_reducible first|apply A5|apply A6|apply A3)<;>(intro hc;have hc':=hc;(try simp at hc');simp -implicitDefEqProofs [hc,hc',gz,g1,s1,Cb,peV,pV,Bw])))
   rw [←hP]
   exact⟨Nat.le_refl _,hdead _⟩
  rw [if_pos rfl] at hex
  unfold Tw at hsh
  by_cases k1:kd=1
  ·rw [if_pos k1] at hex
   subst k1
   have hset:=Lz vI sn w1 L
   ((try simp -implicitDefEqProofs [h,hxc,hxc',gz,g1,s1,hML]);repeat' first|((with_reducible first|apply A5|apply A6|apply A3)<;>(intro hc;have hc':=hc;(try simp at hc');simp -implicitDefEqProofs [hc,hc',h,hxc,hxc',gz,g1,s1,hML])))
   refine A8 hcall ?_
   ((try simp -implicitDefEqProofs [gz,g1,s1,hset,e3]);repeat' first|((with_reducible first|apply A5|apply A6|apply A3)<;>(intro hc;have hc':=hc;(try simp at hc');simp -implicitDefEqProofs [hc,hc',gz,g1,s1,hset,e3])))
   have hal:=Gm L sn w1
   refine⟨by unfold maxLen;omega,?_⟩
   rw [hM]
   refine hnext ⟨k+1,Ce L sn w1,ps⟩ _ ⟨h,hex,ham,hacc,Nat.le_succ_of_le hpl,fun n=>?_,by simp only [];omega⟩ rfl h
   simp only [Jf]
   by_cases hn:n=sn
   ·rw [if_pos hn];exact hva rfl
   ·rw [if_neg hn];exact henv n
  rw [if_neg k1] at hsh hex
  have d1:(kd==1)=false:=by simpa using k1
  by_cases k2:kd=2
  ·rw [if_pos k2] at hex
   subst k2
   by_cases w0:w1=0
   ·rw [if_pos w0] at hex
    subst w0
    rw [←hex]
    ((try simp -implicitDefEqProofs [h,hxc,hxc',gz,g1,s1,hML]);repeat' first|((with_reducible first|apply A5|apply A6|apply A3)<;>(intro hc;have hc':=hc;(try simp at hc');simp -implicitDefEqProofs [hc,hc',h,hxc,hxc',gz,g1,s1,hML])))
    refine A8 hcall ?_
    ((try simp -implicitDefEqProofs [gz,g1,s1,Cb,peV,pV,Bw,G5]);repeat' first|((with_reducible first|apply A5|apply A6|apply A3)<;>(intro hc;have hc':=hc;(try simp at hc');simp -implicitDefEqProofs [hc,hc',gz,g1,s1,Cb,peV,pV,Bw,G5])))
    rw [←hP]
    exact⟨Nat.le_refl _,hdead _⟩
   ·rw [if_neg w0] at hex
    have w0':(w1==0)=false:=by simpa using w0
    ((try simp -implicitDefEqProofs [h,hxc,hxc',gz,g1,s1,hML]);repeat' first|((with_reducible first|apply A5|apply A6|apply A3)<;>(intro hc;have hc':=hc;(try simp at hc');simp -implicitDefEqProofs [hc,hc',h,hxc,hxc',gz,g1,s1,hML])))
    refine A8 hcall ?_
    ((try simp -implicitDefEqProofs [gz,g1,s1,e3,w0,w0']);repeat' first|((with_reducible first|apply A5|apply A6|apply A3)<;>(intro hc;have hc':=hc;(try simp at hc');simp -implicitDefEqProofs [hc,hc',gz,g1,s1,e3,w0,w0'])))
    rw [hM]
    exact hnext ⟨k+1,L,ps⟩ _ ⟨h,hex,ham,hacc,Nat.le_succ_of_le hpl,henv,Nat.le_succ_of_le hLl⟩ rfl h
  ·rw [if_neg k2] at hsh hex
   have d2:(kd==2)=false:=by simpa using k2
   have k3:kd=3:=by
    by_cases k3:kd=3
    ·exact k3
    ·rw [if_neg k3] at hsh;cases hsh
   subst k3
   rw [if_pos rfl] at hsh
   have hac:1≤ac∧ac≤99999:=by
    simp only [Bool.and_eq_true,acB,decide_eq_true_eq] at hsh
    exact hsh.2
   have hv0:=hva rfl
   have hv0b:=H7 hv0
   have hsb:=Ou ham
   have hsa:=Iy (k:=ac) ham
   have hplen:=Ix ps
   have hpss:=Iw ps ac
   have hsm:((ps++[(⟨ac,w1⟩:Part)]).map Part.amt).sum=(ps.map Part.amt).sum+w1:=by rw [List.map_append,List.sum_append];simp
   have hpo2:=To b mb ac w1 ⟨M++(T0++[Bx.cells [vI 3,vI ac,vS sn,vI ek,vI ev,vI ef,vI et,vS en,.t (.sl (exs.map Xp.c))]]),[]⟩ ⟨hvU _ 0 (Nat.le_refl _),trivial⟩ s oth .snil (ps.map Part.amt).sum (Bv ps) (hMbE _) (hMmE _) (by omega) rfl (by rw [hpss];exact wrap64 (by omega) (by omega)) (wrap64 (by omega) (by omega))
   have hpost0:=V1 (B:=B) (s:=s) (oth:=oth) (lv:=.snil) (ps:=ps) (ps':=ps++[(⟨ac,w1⟩:Part)]) hne
   rw [hsm,H8] at hpost0
   have hMp : ∀l:List Bx,((M++l).set mb (.mp (mI vI (Ce (Bv ps) ac ((B7 (Bv ps) ac).getD 0+w1))))).set b (.cells (mC s oth .snil mb ((ps.map Part.amt).sum+w1)))=MB B b mb s oth .snil (ps++[⟨ac,w1⟩])++l:=fun l=>by
    rw [List.set_append_left _ _ (by omega),List.set_append_left _ _ (by simp;omega),hM,hpost0]
   simp only [hMp] at hpo2
   rw [hT0] at hpo2
   simp only [List.cons_append,List.nil_append] at hpo2
   ((try simp -implicitDefEqProofs [h,hxc,hxc',gz,g1,s1,hML]);repeat' first|((with_reducible first|apply A5|apply A6|apply A3)<;>(intro hc;have hc':=hc;(try simp at hc');simp -implicitDefEqProofs [hc,hc',h,hxc,hxc',gz,g1,s1,hML])))
   refine A8 hcall ?_
   ((try simp -implicitDefEqProofs [gz,g1,s1]);repeat' first|((with_reducible first|apply A5|apply A6|apply A3)<;>(intro hc;have hc':=hc;(try simp at hc');simp -implicitDefEqProofs [hc,hc',gz,g1,s1])))
   refine A8 hpo2 ?_
   ((try simp -implicitDefEqProofs [e3]);repeat' first|((with_reducible first|apply A5|apply A6|apply A3)<;>(intro hc;have hc':=hc;(try simp at hc');simp -implicitDefEqProofs [hc,hc',e3])))
   exact hnext ⟨k+1,L,ps++[⟨ac,w1⟩]⟩ _ ⟨h,hex,fun p hp=>by
    rcases List.mem_append.1 hp with hp|hp
    ·exact ham p hp
    ·simp at hp;subst hp;exact hv0,fun p hp=>by
    rcases List.mem_append.1 hp with hp|hp
    ·exact hacc p hp
    ·simp at hp;subst hp;exact⟨by simp only [];omega,by simp only [];omega⟩,by simp;omega,henv,Nat.le_succ_of_le hLl⟩ rfl h
 ·have hkk:k=ss.length:=by omega
  subst hkk
  rw [List.drop_of_length_le (Nat.le_refl _),Bt] at hex
  have hto2:1≤to∧to≤99999:=by simp only [acB,Bool.and_eq_true,decide_eq_true_eq] at hto;exact hto
  have hfin:=R1 b mb to rule (M++T0) (fun n m hn=>hMU T0 (fun n m _=>hT0U n m) n m (by rw [hT0] at hn;simp at hn;omega)) s oth .snil ps (hMbE _) (hMmE _) (by omega) ham hacc (by omega) (.inl rfl)
  rw [hex] at hfin
  have hM2 : ∀l:List Bx,((M++l).set mb .dead).set b .dead=(B.set mb .dead).set b .dead++l:=fun l=>by
   rw [List.set_append_left _ _ (by omega),List.set_append_left _ _ (by simp;omega),hM]
   unfold MB
   rw [List.set_comm _ _ hne,List.set_set,List.set_set]
  obtain⟨Z,hZ⟩ : ∃Z,Z=(B.set mb .dead).set b .dead:=⟨_,rfl⟩
  rw [←hZ] at hM2 ⊢
  have hZl:Z.length=P:=by rw [hZ,hP];simp
  have hZle : ∀(l:List Bx),Aa P 0 (Z++l) Z:=fun l=>by
   rw [hZ]
   exact Aa.ext l (Aa.set (show E.leB P 0 .dead .dead from trivial) b (Aa.set (show E.leB P 0 .dead .dead from trivial) mb (hU P 0 (by omega))))
  have z1 : ∀(l:List Bx) (j:Nat),(Z++l)[P+j]?=l[j]?:=fun l j=>by rw [List.getElem?_append_right (by omega)];congr 1;omega
  have z2 : ∀(l:List Bx) (j:Nat) (v:Bx),(Z++l).set (P+j) v=Z++l.set j v:=fun l j v=>by rw [List.set_append_right _ _ (by omega)];congr 2;omega
  simp only [hM2] at hfin
  rw [hT0] at hfin
  obtain⟨q,hq⟩ : ∃q,q=Cb s oth rule R:=⟨_,rfl⟩
  rw [←hq] at hfin ⊢
  obtain⟨⟨p1,p2,p3,p4,p5⟩,p6⟩:=q
  unfold peV pV at hfin ⊢
  ((try simp -implicitDefEqProofs [gz,g1,s1]);repeat' first|((with_reducible first|apply A5|apply A6|apply A3)<;>(intro hc;have hc':=hc;(try simp at hc');simp -implicitDefEqProofs [hc,hc',gz,g1,s1])))
  refine A8 hfin ?_
  ((try simp -implicitDefEqProofs [z1,z2]);repeat' first|((with_reducible first|apply A5|apply A6|apply A3)<;>(intro hc;have hc':=hc;(try simp at hc');simp -implicitDefEqProofs [hc,hc',z1,z2])))
  rw [hZl]
  exact⟨Nat.le_refl _,hZle _⟩
theorem P2 (b mb:Nat) (r:Rul) (rule:Int) (S:St) (s:Src) (oth:Int) (hs:s.Ok) (hb:S.boxes[b]?=some (.cells (mC s oth .snil mb 0))) (hmb:S.boxes[mb]?=some (.mp [])) (hrb:D7 r=true)
  (pair:Bool) (hpo:pair=true→0≤oth) (hty : ∀x∈r.stmts,∃kn,(x.ex.inf kn pair).2=0) :
  FnS Tryz.prog 41 [.ptr b 0,r.v,vI rule] S (peV (Cb s oth rule (Bt s oth r.to [] r.stmts []))) { S with boxes:=(S.boxes.set mb .dead).set b .dead }:=by
 have hne:mb≠b:=fun e=>by rw [e,hb] at hmb;cases hmb
 refine FnS.lift2 (by simp [peV,pV,era,eras]) hb hmb ?_
 have e1:(mC s oth .snil mb 0).map (ren b mb)=mC s oth .snil 1 0:=by
  unfold mC
  simp [ren,hne]
 have e2:[V.ptr b 0,r.v,vI rule].map (ren b mb)=[.ptr 0 0,r.v,vI rule]:=by
  have:ren b mb r.v=r.v:=by
   show ren b mb (.agg (r.c.map .t))=_
   simp only [ren,J1,A3q]
  simp only [List.map_cons,List.map_nil,this]
  simp [ren]
 rw [e1,e2]
 exact Rt 0 1 r rule [.cells (mC s oth .snil 1 0),.mp []] (fun n m hn=>⟨⟨A4 _,by unfold mC;simp [okNs,okN];simp at hn;omega⟩,Fs [],trivial⟩) s oth hs rfl rfl hrb pair hpo hty
theorem P3 (ps:List Rul) (i:Nat) (r:Rul) (hc:ps[i]?=some r) (cb:Nat) (S:St) (hS:OkT S) (hcb:S.boxes[cb]?=some (.cells [Rul.l ps])):FnS Tryz.prog 39 [vI i,.ptr cb 0] S (vB r.pair) S:=by
 have hci:=Ab hc
 have hcc:(ps.map Rul.c)[i]?=some r.c:=by simp [hc]
 have hcc' : ∀h,(ps.map Rul.c)[i]'h=r.c:=fun h=>by rw [List.getElem?_eq_getElem h] at hcc;exact Option.some.inj hcc
 obtain⟨nm,pr,ss,to⟩:=r
 have hS':=hS.S
 simp [OkS] at hS'
 (refine FnS.of_code mix Tryz.call39 k_39 (by simp) (fun hB=>?_);(try simp at hB);(try simp -implicitDefEqProofs))
 (try simp -implicitDefEqProofs [hcb,hcc,hcc',Rul.c,hci,hS'])
theorem P4 (cb b mb i:Nat) (ps:List Rul) (r:Rul) (S:St) (hS:OkT S) (s:Src) (oth:Int) (hs:s.Ok) (hcb:S.boxes[cb]?=some (.cells [Rul.l ps])) (hc:ps[i]?=some r) (hb:S.boxes[b]?=some (.cells (mC s oth .snil mb 0))) (hmb:S.boxes[mb]?=some (.mp [])) (hrb:D7 r=true) (pair:Bool) (hpo:pair=true→0≤oth) (hty : ∀x∈r.stmts,∃kn,(x.ex.inf kn pair).2=0) :
  FnS Tryz.prog 40 [.ptr b 0,vI i,.ptr cb 0] S (peV (Hh (E8 r s oth i))) { S with boxes:=(S.boxes.set mb .dead).set b .dead }:=by
 have hie:Hh (E8 r s oth i)=Cb s oth i (Bt s oth r.to [] r.stmts []):=by unfold E8 Hh Cb;cases Bt s oth r.to [] r.stmts []<;>rfl
 rw [hie]
 obtain⟨L,tk⟩:=S
 simp only [] at hcb hb hmb
 have hbl:=Ab hb
 have hml:=Ab hmb
 have hci:=Ab hc
 have hrun:=fun (x:Bx)=>P2 b mb r i ⟨L++[x],tk⟩ s oth hs (Ai hb _) (Ai hmb _) hrb pair hpo hty
 have hset : ∀l:List Bx,((L++l).set mb .dead).set b .dead=(L.set mb .dead).set b .dead++l:=fun l=>by
  rw [List.set_append_left _ _ hml,List.set_append_left _ _ (by simpa using hbl)]
 simp only [hset] at hrun
 obtain⟨Z,hZ⟩ : ∃Z,Z=(L.set mb .dead).set b .dead:=⟨_,rfl⟩
 have hZl:Z.length=L.length:=by rw [hZ];simp
 have hZle : ∀l:List Bx,Aa L.length tk.length (Z++l) Z:=fun l=>by
  rw [hZ]
  exact Aa.ext l (Aa.set (show E.leB _ _ .dead .dead from trivial) b (Aa.set (show E.leB _ _ .dead .dead from trivial) mb (hS _ _ (Nat.le_refl _) (Nat.le_refl _))))
 simp only [←hZ] at hrun ⊢
 have hcE : ∀l:List Bx,(L++l)[cb]?=some (.cells [Rul.l ps]):=fun l=>Ai hcb l
 have hcc:(ps.map Rul.c)[i]?=some r.c:=by simp [hc]
 have hcc' : ∀h,(ps.map Rul.c)[i]'h=r.c:=fun h=>by rw [List.getElem?_eq_getElem h] at hcc;exact Option.some.inj hcc
 have z0 : ∀(l:List Bx),(Z++l)[L.length]?=l[0]?:=fun l=>by rw [List.getElem?_append_right (by omega)];congr 1;omega
 have z1 : ∀(l:List Bx) (v:Bx),(Z++l).set L.length v=Z++l.set 0 v:=fun l v=>by rw [List.set_append_right _ _ (by omega)];congr 2;omega
 obtain⟨q,hq⟩ : ∃q,q=Cb s oth i (Bt s oth r.to [] r.stmts []):=⟨_,rfl⟩
 rw [←hq] at hrun ⊢
 obtain⟨⟨p1,p2,p3,p4,p5⟩,p6⟩:=q
 unfold peV pV at hrun ⊢
 obtain⟨nm,pr,ss,to⟩:=r
 (refine FnS.of_code mix Tryz.call40 k_40 (by simp) (fun hB=>?_);(try simp at hB);(try simp -implicitDefEqProofs))
 (try simp -implicitDefEqProofs [hcE,hcc,hcc',Rul.c,hci])
 refine A8 (hrun _) ?_
 (try simp -implicitDefEqProofs [z0,z1])
 refine⟨by omega,?_⟩
 rw [hZl]
 exact⟨hZle _,At.reflU _⟩
theorem Vb {known:Int→Bool} {pair:Bool} : ∀{ss:List Stm} {M:List (List UInt8)},Bh known pair M ss=0→∀x∈ss,∃kn,(x.ex.inf kn pair).2=0
 | [],M,_,x,hx=>by cases hx
 | y::ss,M,he,x,hx=>by
  rw [Bh] at he
  split at he
  ·rename_i h1;exact absurd he h1
  ·rename_i h1
   rcases List.mem_cons.1 hx with rfl|hx
   ·refine⟨Cf M,?_⟩
    have hs0:D9 known (Cf M) pair x=0:=by simpa using h1
    unfold D9 at hs0
    split at hs0
    ·rename_i q;exact absurd hs0 q
    ·rename_i q;simpa using q
   ·exact Vb he x hx
def A5u (r:Rul):Prop:=D7 r=true∧∃known,Bh known r.pair [] r.stmts=0
theorem P5 (p:List Rul) (l:List Src) (snd:Bool) (hsnd:A7 Tryz.prog 37 [Rul.l p] (vB snd)) (hsn:snd=true→∀r∈p,A5u r) (hval:snd=true→∀r∈p,(Bo (B5 r)).2=true) (hl:l.length≤13) (hp:p.length≤100) (hs : ∀s∈l,s.num.natAbs≤100000∧0<s.den∧s.den≤100000∧s.items.length≤1000) :
  A7 Tryz.prog 14 [Rul.l p,Src.l l] (psV (if snd=true then Hy (p.map B5) l else ([],1))):=by
 have hv:=R9 l (by omega)
 cases snd
 ·rw [if_neg (by decide)]
  unfold Src.l at *
  (refine A7.of_code mix Tryz.call14 k_14 (by simp) (fun hB=>?_);(try simp at hB);(try simp -implicitDefEqProofs))
  ((try simp at hsnd);(try simp -implicitDefEqProofs [psV]);repeat' first|(with_reducible apply A0<;>first|(simp only [eras,era,A1];first|with_reducible assumption)|(simp -implicitDefEqProofs [psV])))
 rw [if_pos rfl]
 have hsn:=hsn rfl
 have hval:=hval rfl
 cases h1:Fd l
 ·rw [h1] at hv
  unfold Hy
  rw [if_neg (by simp [h1])]
  unfold Src.l at hv ⊢
  (refine A7.of_code mix Tryz.call14 k_14 (by simp) (fun hB=>?_);(try simp at hB);(try simp -implicitDefEqProofs))
  ((try simp at hsnd hv);(try simp -implicitDefEqProofs [psV]);repeat' first|(with_reducible apply A0<;>first|(simp only [eras,era,A1];first|with_reducible assumption)|(simp -implicitDefEqProofs [psV])))
 rw [h1] at hv
 have hall:((p.map B5).all fun x=>(Bo x).2)=true:=by
  rw [List.all_eq_true];intro x hx
  obtain⟨r,hr,rfl⟩:=List.mem_map.1 hx
  exact hval r hr
 rw [V4 h1 hall]
 obtain⟨D0,hD0⟩ : ∃D0:Rul,D0=⟨[],false,[],0⟩:=⟨_,rfl⟩
 have hcol:=Nl 39 40 [.ptr 0 0] [.ptr 0 0] [.cells [Rul.l p]] (fun n m hn=>⟨⟨A4 _,rfl⟩,trivial⟩) l p.length (fun i=>(p.getD i D0).pair) (fun i s o=>E8 (p.getD i D0) s o i) hl hp rfl (fun k m hk=>by simp [okNs,okN];simp at hk;omega) (fun k m hk=>by simp [okNs,okN];simp at hk;omega)
  (fun i C tk hi hT=>by
   obtain⟨r,hx⟩:=Ad hi
   have e:p.getD i D0=r:=by rw [List.getD_eq_getElem?_getD,hx];rfl
   rw [e]
   exact P3 p i r hx 0 _ hT rfl)
  (fun i C tk b mb s oth hi hsm hf hpp hT hb hmb=>by
   obtain⟨r,hx⟩:=Ad hi
   have e:p.getD i D0=r:=by rw [List.getD_eq_getElem?_getD,hx];rfl
   rw [e] at hpp ⊢
   have hrm:r∈p:=List.mem_of_getElem? hx
   obtain⟨q1,q2,q3,q4⟩:=hs s hsm
   have q5:=(Fu h1 hsm).2.2
   obtain⟨hrb,known,hst⟩:=hsn r hrm
   exact P4 0 b mb i p r _ hT s oth ⟨q1,q2,q3,q4,q5⟩ rfl hx hb hmb hrb r.pair (fun hpr=>by
    rw [if_pos hpr] at hpp
    obtain⟨t,ht1,_,ht3,_⟩:=hpp
    rw [←ht3];exact (Fu h1 ht1).1) (Vb hst))
 have hruns:J2 (fun i s o=>E8 (p.getD i D0) s o i) l (fun i=>(p.getD i D0).pair) (List.range p.length)=J2 (fun i s o=>Cy ((p.map B5).getD i ⟨[],false,[]⟩) s o i) l (fun i=>((p.map B5).getD i ⟨[],false,[]⟩).pair) (List.range (p.map B5).length):=by
  unfold J2
  rw [List.length_map]
  have key : ∀is:List Nat,(∀i∈is,i<p.length)→(is.flatMap fun i=>l.flatMap (E2 (fun s o=>E8 (p.getD i D0) s o i) l (p.getD i D0).pair))=is.flatMap fun i=>l.flatMap (E2 (fun s o=>Cy ((p.map B5).getD i ⟨[],false,[]⟩) s o i) l ((p.map B5).getD i ⟨[],false,[]⟩).pair):=by
   intro is
   induction is with
   | nil=>intro _;rfl
   | cons i is ih=>
    intro hi
    rw [List.flatMap_cons,List.flatMap_cons,ih fun j hj=>hi j (by simp [hj])]
    obtain⟨r,hx⟩:=Ad (hi i (by simp))
    have e:p.getD i D0=r:=by rw [List.getD_eq_getElem?_getD,hx];rfl
    have e2:(p.map B5).getD i ⟨[],false,[]⟩=B5 r:=by rw [List.getD_eq_getElem?_getD,List.getElem?_map,hx];rfl
    obtain⟨hrb,known,hst⟩:=hsn r (List.mem_of_getElem? hx)
    have e3:(fun (s:Src) (o:Int)=>E8 r s o i)=fun s o=>Cy (B5 r) s o i:=by funext s o;exact P1 hrb hst s o i
    rw [e,e2,e3];rfl
  exact key _ fun i hi=>List.mem_range.1 hi
 rw [Ra,hruns,Nm] at hcol
 generalize X7 (Hd (p.map B5) l)=W at *
 obtain⟨w1,w2⟩:=W
 unfold psV Src.l at hcol ⊢
 unfold Src.l at hv
 (refine A7.of_code mix Tryz.call14 k_14 (by simp) (fun hB=>?_);(try simp at hB);(try simp -implicitDefEqProofs))
 ((try simp at hsnd hv);(try simp -implicitDefEqProofs);repeat' first|(with_reducible apply A0<;>first|(simp only [eras,era,A1];first|with_reducible assumption)|(simp -implicitDefEqProofs)))
 refine A8 hcol ?_
 (try simp -implicitDefEqProofs)
end Go.Proofs.YtmlpmdccfmmpoaaGreatDoor
