/- Chapter 35: the machine's posting, its parts in a buffer. -/
import Derived.Test.YtmlpmdccfmmpoaaGreatDoorLit
import Derived.Test.YtmlpmdccfmmpoaaGreatDoorExV
set_option linter.unusedSimpArgs false
set_option linter.unusedVariables false
set_option maxHeartbeats 4000000
set_option maxRecDepth 8000
section
set_option linter.unusedSimpArgs false
set_option linter.unusedVariables false
namespace Go.Proofs.YtmlpmdccfmmpoaaGreatDoor
namespace E
def A3a (Φ:V→St→Prop) (rvs:List RV) (nb nt:Nat) (e:Ex) (a:Fr) (S1:St):Prop:=∃r S',Φ r S'∧(Y4 rvs nb nt r S' e a S1∨I2 rvs nb nt r S' e a S1)
theorem FnE.of_bd {P:Program} {f:Nat} {vs:List V} {S:St} {Φ:V→St→Prop} (hE:B4 P f) (h:bdVs vs→FnE P f vs S Φ):FnE P f vs S Φ:=by
 refine⟨hE,fun g w us hI hus hrel=>?_⟩
 exact (h (H7 fun j hj=>by
  have:=(hrel j hj).bd
  simpa [List.getD_eq_getElem?_getD,hj] using this)).2 g w us hI hus hrel
theorem FnE.of_ewp {P:Program} {fl wl:Bool} (hmix:P.follows .mixedOrders=true) {f:Nat} {fn:Func} {code:Go.Code} {c:EC} {rs:List RV} {vs:List V} {S:St} {Φ:V→St→Prop} (hE:B4 P f) (hf:P.funcs[f]?=some fn) (hb:fn.body=some code)
  {N:Nat} (hN:fn.ntmps=N) (hc:D9 P fl wl N code=some c) (hr:Gc P fn.results.toList=some rs) (hlen:vs.length≤N)
  (h:ewp P S.boxes.length S.toks.length c (A3a Φ rs S.boxes.length S.toks.length) (fr0 vs) S):FnE P f vs S Φ:=by
 refine⟨hE,fun g w us hI hus hrel=>?_⟩
 subst hN
 refine calls_of_wp hf hb ?_
 refine wp_mono (Ec hmix code c hc (Conc.start hI hus hrel hlen) (Nat.le_refl _) (Nat.le_refl _) h) ?_
 rintro e act' w' ⟨x,a',S1,g0,hex,⟨r,S',hΦ,hfin⟩,hC',hm0⟩
 have hres : ∃v,(results fn act'.tmps).run P w'=.ok v w'∧∃r S' u g',Φ r S'∧Ending.returned v=.returned u∧RelV g' S'.toks r u∧Mv g S w g' S' w':=by
  rcases hfin with hfin|hfin
  ·obtain⟨v,h1,u,g',h2,h3,h4⟩:=Sb (P:=P) (fn:=fn) hI hr hfin hC' hm0
   exact⟨v,h1,r,S',u,g',hΦ,h2,h3,h4⟩
  ·obtain⟨v,h1,u,g',h2,h3,h4⟩:=L2 (P:=P) (fn:=fn) hI hr hfin hC' hm0
   exact⟨v,h1,r,S',u,g',hΦ,h2,h3,h4⟩
 cases x with
 | nx=>subst hex;exact⟨hC'.defers,hres⟩
 | rt=>subst hex;exact⟨hC'.defers,hres⟩
 | ex id=>rcases hfin with hfin|hfin<;>exact hfin.1.elim
 | pn v=>rcases hfin with hfin|hfin<;>exact hfin.1.elim
theorem FnE.of_codeG {P:Program} (hmix:P.follows .mixedOrders=true) {f N:Nat} {c:EC} {rs:List RV} {vs:List V} {S:St} {Φ:V→St→Prop} {fl wl:Bool} (hE:B4 P f) (hc:ecG fl wl P f=some (N,c,rs)) (hlen:vs.length≤N)
  (h:bdVs vs→ewp P S.boxes.length S.toks.length c (A3a Φ rs S.boxes.length S.toks.length) (fr0 vs) S):FnE P f vs S Φ:=FnE.of_bd hE fun hb'=>by
 have h:=h hb'
 unfold ecG at hc
 split at hc
 ·rename_i fn hf
  split at hc
  ·rename_i code hb
   split at hc
   ·rename_i c' rs' h1 h2
    simp only [Option.some.injEq,Prod.mk.injEq] at hc
    obtain⟨rfl,rfl,rfl⟩:=hc
    exact FnE.of_ewp hmix hE hf hb rfl h1 h2 hlen h
   ·cases hc
  ·cases hc
 ·cases hc
theorem FnE.of_code {P:Program} (hmix:P.follows .mixedOrders=true) {f N:Nat} {c:EC} {rs:List RV} {vs:List V} {S:St} {Φ:V→St→Prop} (hE:B4 P f) (hc:ecF P f=some (N,c,rs)) (hlen:vs.length≤N)
  (h:bdVs vs→ewp P S.boxes.length S.toks.length c (A3a Φ rs S.boxes.length S.toks.length) (fr0 vs) S):FnE P f vs S Φ:=FnE.of_codeG hmix hE hc hlen h
theorem FnE.of_codeB {P:Program} (hmix:P.follows .mixedOrders=true) {f N:Nat} {c:EC} {rs:List RV} {vs:List V} {S:St} {Φ:V→St→Prop} (hE:B4 P f) (hc:ecB P f=some (N,c,rs)) (hlen:vs.length≤N)
  (h:bdVs vs→ewp P S.boxes.length S.toks.length c (A3a Φ rs S.boxes.length S.toks.length) (fr0 vs) S):FnE P f vs S Φ:=FnE.of_codeG hmix hE hc hlen h
theorem FnE.of {P:Program} {f:Nat} {vs:List V} {S S':St} {r:V} {Φ:V→St→Prop} (h:FnS P f vs S r S') (hΦ:Φ r S'):FnE P f vs S Φ:=
 ⟨h.1,fun g w us hI hus hrel=>(h.2 g w us hI hus hrel).mono fun e w' ⟨u,g',h1,h2,h3⟩=>⟨r,S',u,g',hΦ,h1,h2,h3⟩⟩
end E
end Go.Proofs.YtmlpmdccfmmpoaaGreatDoor
end
namespace Go.Proofs.YtmlpmdccfmmpoaaGreatDoor
open E
attribute [local simp] Cv.reflU

def Gg (o:List Part):Bx:=.buf 77 2 ((o.flatMap Part.c).map .t)
def PaV (pv:V) (ps:List Part) (n:Nat) (B:List Bx):Prop:=(pv=.snil∧ps=[])∨∃kb,pv=.bw kb ps.length∧n≤kb∧B[kb]?=some (Gg ps)
def pVN (p:Posting) (pv:V):V:=.agg [vI p.kind,vI p.ent,vI p.oth,vI p.rule,pv]
def A0u (B B':List Bx) (l:List Nat):Prop:=B.length≤B'.length∧∀j x,B[j]?=some x→j∉l→B'[j]?=some x
structure FinN (B0:List Bx) (l:List Nat) (R:Posting×Int) (r:V) (S':St):Prop where
 st : ∃B' pv,S'=⟨B',[]⟩∧r=.tup [pVN R.1 pv,vI R.2]∧PaV pv R.1.parts B0.length B'∧OkU B'∧A0u B0 B' l
theorem H2 (o:List Part):(o.flatMap Part.c).length=o.length*2:=by
 induction o with
 | nil=>rfl
 | cons x o ih=>simp only [List.flatMap_cons,List.length_append,ih,List.length_cons];simp [Part.c];omega
theorem A0v (b mb:Nat) (acc rule:Int) (B:List Bx) (hU:OkU B) (s:Src) (oth:Int) (lv:V) (ps:List Part) (hb:B[b]?=some (.cells (mC s oth lv mb (ps.map Part.amt).sum))) (hmb:B[mb]?=some (.mp (mI vI (B6 ps))))
  (hl:ps.length≤8000) (ham : ∀p∈ps,Ah p.amt=true) (hac : ∀p∈ps,0≤p.acc∧p.acc≤1000000) (hacc:0≤acc∧acc≤1000000) (hlv:Uc B.length lv) :
  FnE Tryz.prog 87 [.ptr b 0,vI acc,vI rule] ⟨B,[]⟩ (FinN B [b,mb] (Bn s oth rule (Cc (ps++[⟨acc,-(ps.map Part.amt).sum⟩])))):=by
 have hne:b≠mb:=fun e=>by rw [e,hmb] at hb;cases hb
 have hbl:=A4 hb
 have hml:=A4 hmb
 obtain⟨sum,hsum⟩ : ∃z,z=(ps.map Part.amt).sum:=⟨_,rfl⟩
 have hsb:=Jt ham
 rw [←hsum] at hsb hb ⊢
 obtain⟨qs,hqs⟩ : ∃q,q=ps++[⟨acc,-sum⟩]:=⟨_,rfl⟩
 have hpm:B6 qs=Ca (B6 ps) acc ((B7 (B6 ps) acc).getD 0 + -sum):=by rw [hqs,Ed]
 have hps:=En ps acc
 have hsa:=Fs (k:=acc) ham
 have hpl:=Eo ps
 have hq0:sum + -sum=0:=by omega
 rw [←hqs]
 have hkeys:=Js qs
 have hso:=Kj qs (List.Perm.refl _)
 have hso':Ge ((B6 qs).map Prod.fst)=Aq qs:=hso
 have hql:=Eo qs
 have hqlen:qs.length≤8001:=by rw [hqs];simp;omega
 have hkl:=G5 qs
 have hrange : ∀p∈B6 qs,0≤p.1∧p.1≤1000000:=fun p hp=>by
  obtain⟨r,h1,h2⟩:=(hkeys.2 p.1).1 (List.mem_map.2 ⟨p,hp,rfl⟩)
  rw [←h2]
  rw [hqs] at h1
  rcases List.mem_append.1 h1 with h1|h1
  ·exact hac r h1
  ·simp at h1;subst h1;exact hacc
 have w1:IntKind.i64.wrap (-sum) = -sum:=wrap64 (by omega) (by omega)
 have h1:IntKind.i64.wrap ((B7 (B6 ps) acc).getD 0 + -sum)=(B7 (B6 ps) acc).getD 0 + -sum:=by rw [hps];exact wrap64 (by omega) (by omega)
 have h2:IntKind.i64.wrap (sum + -sum)=sum + -sum:=by rw [hq0];decide
 have hB1 : ∀l:List Bx,(∀n m,B.length+l.length≤n→A6 n m l l)→OkS ⟨B++l,[]⟩:=fun l hl=>(hU.more l hl).S
 have hpost:=fun (l:List Bx) (hl : ∀n m,B.length+l.length≤n→A6 n m l l)=>Mh b mb acc (-sum) ⟨B++l,[]⟩ (hB1 l hl) s oth lv sum (B6 ps) (Ae hb l) (Ae hmb l) (by omega) (hlv.ok (by simp)) h1 h2
 have hpost1:=hpost [.cells [vI 0,vI 0,vI 0,vI 0,.snil]] (fun n m h=>by simp [A6,E.leB,A3,okNs,okN])
 rw [←hpm,hq0] at hpost1
 generalize hR0:Bn s oth rule (Cc qs)=R0
 (refine FnE.of_codeB mix Tryz.call87 kb_87 (by simp) (fun hB=>?_);(try simp at hB);(try simp -implicitDefEqProofs))
 have hbE : ∀l:List Bx,(B++l)[b]?=some (.cells (mC s oth lv mb sum)):=fun l=>Ae hb l
 unfold mC at hbE
 (try simp -implicitDefEqProofs [hbE,w1])
 refine Ab hpost1 ?_
 obtain⟨M,hM⟩ : ∃M,M=(B.set mb (.mp (mI vI (B6 qs)))).set b (.cells (mC s oth lv mb 0)):=⟨_,rfl⟩
 have hset : ∀l:List Bx,((B++l).set mb (.mp (mI vI (B6 qs)))).set b (.cells (mC s oth lv mb 0))=M++l:=fun l=>by
  rw [List.set_append_left _ _ hml,List.set_append_left _ _ (by simpa using hbl),hM]
 rw [hset]
 have hBL:B.length=M.length:=by rw [hM];simp
 have hMb:M[b]?=some (.cells (mC s oth lv mb 0)):=by rw [hM,List.getElem?_set_self (by simpa using hbl)]
 have hMm:M[mb]?=some (.mp (mI vI (B6 qs))):=by rw [hM,List.getElem?_set_ne hne,List.getElem?_set_self hml]
 have hMU:OkU M:=fun n m hn=>by
  rw [hM]
  exact A6.set (show E.leB n m (.cells _) (.cells _) from ⟨A3 _,by unfold mC;have:=hlv.ok (n':=n) (m:=m) (by omega);simp [okNs,okN,this];omega⟩) b (A6.set (Ea _) mb (hU n m (by omega)))
 have hfinal : ∀(l:List Bx) n m,B.length≤n→A6 n m (M++l) ((B.set mb .dead).set b .dead):=fun l n m hn=>by
  rw [hM]
  exact A6.ext l (A6.set (show E.leB n m (.cells _) .dead from trivial) b (A6.set (show E.leB n m (.mp _) .dead from trivial) mb (hU n m hn)))
 have hMbE : ∀l:List Bx,(M++l)[b]?=some (.cells (mC s oth lv mb 0)):=fun l=>Ae hMb l
 have hMmE : ∀l:List Bx,(M++l)[mb]?=some (.mp (mI vI (B6 qs))):=fun l=>Ae hMm l
 have gz : ∀l:List Bx,(M++l)[M.length]?=l[0]?:=fun l=>by rw [List.getElem?_append_right (by omega)];congr 1;omega
 have g1 : ∀(l:List Bx) (j:Nat),(M++l)[M.length+j]?=l[j]?:=fun l j=>by rw [List.getElem?_append_right (by omega)];congr 1;omega
 have s0 : ∀(l:List Bx) (v:Bx),(M++l).set M.length v=M++l.set 0 v:=fun l v=>by rw [List.set_append_right _ _ (by omega)];simp
 have s1 : ∀(l:List Bx) (j:Nat) (v:Bx),(M++l).set (M.length+j) v=M++l.set j v:=fun l j v=>by rw [List.set_append_right _ _ (by omega)];congr 2;omega
 have hMml:mb<M.length:=by omega
 unfold mC at hMbE
 have hkept : ∀l:List Bx,A0u B (M++l) [b,mb]:=fun l=>⟨by simp;omega,fun j x hj hn=>by
  simp at hn
  refine Ae ?_ l
  rw [hM,List.getElem?_set_ne (Ne.symm hn.1),List.getElem?_set_ne (Ne.symm hn.2)];exact hj⟩
 clear hset hpost1 hpost hB1 hU hb hmb hM
 (try simp -implicitDefEqProofs [hMbE,hMmE,gz,g1,s0,s1])
 have hMU1:OkU (M++[.cells [vI 0,vI 0,vI 0,vI 0,.snil],.cells [vI 10,vI s.ent,vI oth,vI rule,.snil]]):=hMU.more _ (fun n m h=>by simp [A6,E.leB,A3,okNs,okN])
 have hk:=A02 mb _ hMU1 (by simp;omega)
 have hS:=Ri (M.length+2) mb (M++[.cells [vI 0,vI 0,vI 0,vI 0,.snil],.cells [vI 10,vI s.ent,vI oth,vI rule,.snil]]++[.cells [.mp mb]]) (B6 qs) (by rw [List.append_assoc,g1];rfl) (by rw [List.append_assoc];exact hMmE _) (by omega) hkeys.1 hrange
 rw [hso'] at hS
 have hlen2:(M++[.cells [vI 0,vI 0,vI 0,vI 0,.snil],.cells [vI 10,vI s.ent,vI oth,vI rule,.snil]]:List Bx).length=M.length+2:=by simp
 rw [hlen2] at hk
 refine Ab hk ?_
 (try simp -implicitDefEqProofs)
 simp only [List.append_assoc,List.cons_append,List.nil_append] at hS
 refine Ab hS ?_
 have hkl':(Aq qs).length≤8001:=by omega
 unfold A03
 (try simp -implicitDefEqProofs)
 obtain⟨KS,hKS⟩ : ∃K,K=Aq qs:=⟨_,rfl⟩
 refine A7 (X:=Nat×V×List Bx) (fun X=>X.1≤KS.length∧(∀x∈KS.take X.1,Ah (As qs x)=true)∧(∀n m,M.length+2+X.2.2.length≤n→A6 n m X.2.2 X.2.2)∧
   ((X.2.1=.snil∧pre qs (KS.take X.1)=[])∨∃j,X.2.1=.bw (M.length+(j+2)) (pre qs (KS.take X.1)).length∧X.2.2[j]?=some (Gg (pre qs (KS.take X.1)))))
  (fun X=>[(0,.ptr b 0),(6,.ptr M.length 0),(8,.ptr (M.length+1) 0),(36,.t (.sl (KS.map fun n=>[T.int .i64 n]))),(37,vI KS.length),(38,vI X.1)])
  (fun X=>⟨M++(.cells [vI 0,vI 0,vI 0,vI 0,.snil]::.cells [vI 10,vI s.ent,vI oth,vI rule,X.2.1]::X.2.2),[]⟩) (fun X=>KS.length-X.1) (0,.snil,[]) ⟨by simp,by simp,fun _ _ _=>trivial,.inl ⟨rfl,rfl⟩⟩ ?hs ?_
 case hs=>
  have hle:=fun (l l':List Bx) n m h=>A6.appU (l:=l) (l':=l') (hMU n m h)
  rw [hKS]
  simp [g1,s1,hle,E.leB,A3,okNs,okN]
  rw [hBL]
  exact⟨by omega,by omega,leA.refl _⟩
 rintro ⟨k,pv,C⟩ ⟨hk1,hk2,hCU,hpv⟩ hbd
 simp only [] at hk1 hk2 hCU hpv
 clear hbd
 have hpl2:=Vn qs (KS.take k)
 rw [List.length_take] at hpl2
 have hklen:KS.length≤8001:=by rw [hKS];exact hkl'
 have e3:IntKind.i64.wrap ((k:Int)+1)=(k:Int)+1:=wrap64 (by omega) (by omega)
 have hle:=fun (l l':List Bx) n m h=>A6.appU (l:=l) (l':=l') (hMU n m h)
 have hpvU : ∀n m,M.length+2+C.length≤n→okN n m pv=true:=fun n m hn=>by
  rcases hpv with ⟨rfl,_⟩|⟨j,rfl,hj⟩
  ·rfl
  ·have:=A4 hj
   simp [okN];omega
 have hXU : ∀(pv':V) (C':List Bx),(∀n m,M.length+2+C'.length≤n→A6 n m C' C'∧okN n m pv'=true)→∀n m,M.length+2+C'.length≤n→A6 n m (M++(.cells [vI 0,vI 0,vI 0,vI 0,.snil]::.cells [vI 10,vI s.ent,vI oth,vI rule,pv']::C')) (M++(.cells [vI 0,vI 0,vI 0,vI 0,.snil]::.cells [vI 10,vI s.ent,vI oth,vI rule,pv']::C')):=fun pv' C' hc n m hn=>by
  rw [hle _ _ _ _ (by omega)]
  exact⟨⟨A3 _,rfl⟩,⟨A3 _,by simp [okNs,okN,(hc n m hn).2]⟩,(hc n m hn).1⟩
 have hZ:=hXU pv C fun n m hn=>⟨hCU n m hn,hpvU n m hn⟩
 rcases Nat.lt_or_ge k KS.length with h|h
 ·obtain⟨x,hx⟩:=Aa h
  have hxm:x∈Aq qs:=by rw [←hKS];exact List.mem_of_getElem? hx
  have hfm:=L7 vI x (B6 qs)
  have hps2:=En qs x
  have ha:=P8 (As qs x)
  have hsn:=Rj qs (KS.take k) x
  have htn:=Ag hx
  have g3:(KS.map fun n=>[T.int .i64 n])[k]?=some [T.int .i64 x]:=by simp [hx]
  have g4 : ∀hi,(KS.map fun n=>[T.int .i64 n])[k]'hi=[T.int .i64 x]:=fun hi=>by rw [List.getElem?_eq_getElem hi] at g3;exact Option.some.inj g3
  generalize hv:As qs x=v at *
  cases hb2:Ah v
  ·rw [hb2] at ha
   have hbad:=Mk qs hxm (by rw [hv];exact hb2)
   rw [hbad] at hR0
   subst hR0
   ((try simp at ha);(try simp -implicitDefEqProofs [h,g3,g4,hMbE,hMmE,g1,gz,s0,s1,hfm,hps2]);repeat' first|(with_reducible apply A0<;>first|(simp only [eras,era,A1];first|with_reducible assumption)|(simp -implicitDefEqProofs [h,g3,g4,hMbE,hMmE,g1,gz,s0,s1,hfm,hps2])))
   refine⟨.tup [pVN Bb .snil,vI 2],⟨_,[]⟩,⟨_,.snil,rfl,rfl,.inl ⟨rfl,rfl⟩,fun n m hn=>hZ n m (by simp at hn;omega),hkept _⟩,.inl ?_⟩
   simp [g1,gz,pVN,Bb,hBL,okN,okNs]
   exact hZ _ _ (by omega)
  ·rw [hb2] at ha
   have hk2' : ∀y∈KS.take (k+1),Ah (As qs y)=true:=fun y hy=>by
    rw [htn] at hy
    rcases List.mem_append.1 hy with hy|hy
    ·exact hk2 y hy
    ·simp at hy;subst hy;rw [hv];exact hb2
   rw [←htn] at hsn
   by_cases v0:v=0
   ·rw [if_pos v0,List.append_nil] at hsn
    subst v0
    ((try simp at ha);(try simp -implicitDefEqProofs [h,g3,g4,hMbE,hMmE,g1,gz,s0,s1,hfm,hps2,e3]);repeat' first|(with_reducible apply A0<;>first|(simp only [eras,era,A1];first|with_reducible assumption)|(simp -implicitDefEqProofs [h,g3,g4,hMbE,hMmE,g1,gz,s0,s1,hfm,hps2,e3])))
    refine⟨k+1,pv,C,⟨by omega,hk2',hCU,by rw [hsn];exact hpv⟩,by omega,by omega,hZ _ _ (by omega),by omega,by push_cast;rfl⟩
   ·rw [if_neg v0] at hsn
    have v1:(v != 0)=true:=by simpa using v0
    generalize pre qs (KS.take k)=Q at *
    rcases hpv with ⟨rfl,rfl⟩|⟨j,rfl,hj⟩
    ·((try simp at ha);(try simp -implicitDefEqProofs [h,g3,g4,hMbE,hMmE,g1,gz,s0,s1,hfm,hps2,e3,v0,v1,maxLen]);repeat' first|(with_reducible apply A0<;>first|(simp only [eras,era,A1];first|with_reducible assumption)|(simp -implicitDefEqProofs [h,g3,g4,hMbE,hMmE,g1,gz,s0,s1,hfm,hps2,e3,v0,v1,maxLen])))
     have hN : ∀n m,M.length+2+(C++[Gg [⟨x,v⟩]]).length≤n→A6 n m (C++[Gg [⟨x,v⟩]]) (C++[Gg [⟨x,v⟩]]):=fun n m hn=>by
      simp at hn
      exact (A6.appU (hCU n m (by omega))).2 ⟨Mx _ _ _ _ _,trivial⟩
     refine⟨k+1,.bw (M.length+(C.length+1+1)) 1,C++[Gg [⟨x,v⟩]],⟨by omega,hk2',hN,.inr ⟨C.length,by rw [hsn];rfl,by rw [hsn];simp⟩⟩,by omega,by omega,?_,by omega,by push_cast;rfl⟩
     exact hXU _ _ (fun n m hn=>⟨hN n m hn,by simp at hn;simp [okN];omega⟩) _ _ (by simp;omega)
    ·unfold Gg at hj
     have hQl:Q.length*2≤((Q.flatMap Part.c).map V.t).length:=by rw [List.length_map,H2];exact Nat.le_refl _
     have hQt:((Q.flatMap Part.c).map V.t).take (Q.length*2)=(Q.flatMap Part.c).map V.t:=List.take_of_length_le (by rw [List.length_map,H2];exact Nat.le_refl _)
     have hQ8:Q.length≤8001:=by omega
     obtain⟨CQ,hCQ⟩ : ∃CQ,CQ=(Q.flatMap Part.c).map V.t:=⟨_,rfl⟩
     rw [←hCQ] at hj hQl hQt
     have hjl:=A4 hj
     ((try simp at ha);(try simp -implicitDefEqProofs [h,g3,g4,hMbE,hMmE,g1,gz,s0,s1,hfm,hps2,e3,v0,v1,maxLen,hj,hQl,hQt]);repeat' first|(with_reducible apply A0<;>first|(simp only [eras,era,A1];first|with_reducible assumption)|(simp -implicitDefEqProofs [h,g3,g4,hMbE,hMmE,g1,gz,s0,s1,hfm,hps2,e3,v0,v1,maxLen,hj,hQl,hQt])))
     have hb9:Gg (Q++[⟨x,v⟩])=.buf 77 2 (CQ++[V.t (.int .i64 x),V.t (.int .i64 v)]):=by
      unfold Gg;rw [List.flatMap_append,List.map_append,←hCQ];rfl
     have hN : ∀n m,M.length+2+(C.set j .dead++[Gg (Q++[⟨x,v⟩])]).length≤n→A6 n m (C.set j .dead++[Gg (Q++[⟨x,v⟩])]) (C.set j .dead++[Gg (Q++[⟨x,v⟩])]):=fun n m hn=>by
      simp at hn
      exact (A6.appU (A6.set (show E.leB n m .dead .dead from trivial) j (hCU n m (by omega)))).2 ⟨Mx _ _ _ _ _,trivial⟩
     have hXN:=hXU (.bw (M.length+(C.length+1+1)) (Q.length+1)) _ (fun n m hn=>⟨hN n m hn,by simp at hn;simp [okN];omega⟩) (M.length+(C.length+1+1+1)) 0 (by simp;omega)
     rw [hb9] at hXN hN
     refine⟨⟨by omega,by omega⟩,k+1,.bw (M.length+(C.length+1+1)) (Q.length+1),C.set j .dead++[.buf 77 2 (CQ++[V.t (.int .i64 x),V.t (.int .i64 v)])],⟨by omega,hk2',hN,.inr ⟨C.length,by rw [hsn];simp,by rw [hsn,hb9];simp⟩⟩,by omega,by omega,?_,by omega,by push_cast;rfl⟩
     simpa using hXN
 ·have hkk:k=KS.length:=by omega
  subst hkk
  rw [List.take_of_length_le (Nat.le_refl _)] at hk2 hpv
  have hgood:=Mj qs (by rw [←hKS];exact hk2)
  rw [←hKS] at hgood
  rw [hgood] at hR0
  generalize pre qs KS=q at *
  by_cases q0:q=[]
  ·subst q0
   subst hR0
   rcases hpv with ⟨rfl,_⟩|⟨j,rfl,hj⟩
   ·(try simp -implicitDefEqProofs [h,hMbE,hMmE,g1,gz,s0,s1])
    refine⟨.tup [pVN Bb .snil,vI 0],⟨_,[]⟩,⟨_,.snil,rfl,rfl,.inl ⟨rfl,rfl⟩,fun n m hn=>hZ n m (by simp at hn;omega),hkept _⟩,.inl ?_⟩
    simp [g1,gz,pVN,Bb,hBL,okN,okNs]
    exact hZ _ _ (by omega)
   ·(try simp -implicitDefEqProofs [h,hMbE,hMmE,g1,gz,s0,s1])
    refine⟨.tup [pVN Bb .snil,vI 0],⟨_,[]⟩,⟨_,.snil,rfl,rfl,.inl ⟨rfl,rfl⟩,fun n m hn=>hZ n m (by simp at hn;omega),hkept _⟩,.inl ?_⟩
    simp [g1,gz,pVN,Bb,hBL,okN,okNs]
    exact hZ _ _ (by omega)
  ·have q1:((q.length:Int)==0)=false:=by simp [q0]
   rcases hpv with ⟨_,hq⟩|⟨j,rfl,hj⟩
   ·exact absurd hq q0
   (try simp -implicitDefEqProofs [h,hMbE,hMmE,g1,gz,s0,s1,q0,q1,hj])
   subst hR0
   have hjl:=A4 hj
   have hfi:Bn s oth rule (some q)=(⟨10,s.ent,oth,rule,q⟩,0):=by unfold Bn F8;simp [q0]
   rw [hfi]
   have hZ2 : ∀n m,M.length+2+C.length≤n→A6 n m (M++(.cells [vI 10,vI s.ent,vI oth,vI rule,.bw (M.length+(j+2)) q.length]::.cells [vI 10,vI s.ent,vI oth,vI rule,.bw (M.length+(j+2)) q.length]::C)) (M++(.cells [vI 10,vI s.ent,vI oth,vI rule,.bw (M.length+(j+2)) q.length]::.cells [vI 10,vI s.ent,vI oth,vI rule,.bw (M.length+(j+2)) q.length]::C)):=fun n m hn=>by
    rw [hle _ _ _ _ (by omega)]
    have:=hpvU n m hn
    exact⟨⟨A3 _,by simp [okNs,okN] at this ⊢;exact this⟩,⟨A3 _,by simp [okNs,okN] at this ⊢;exact this⟩,hCU n m hn⟩
   refine⟨.tup [pVN ⟨10,s.ent,oth,rule,q⟩ (.bw (M.length+(j+2)) q.length),vI 0],⟨_,[]⟩,⟨_,.bw (M.length+(j+2)) q.length,rfl,rfl,.inr ⟨M.length+(j+2),rfl,by omega,by rw [g1];simpa using hj⟩,fun n m hn=>hZ2 n m (by simp at hn;omega),hkept _⟩,.inl ?_⟩
   simp [g1,gz,pVN,hBL,okN,okNs]
   exact⟨hZ2 _ _ (by omega),by omega⟩
end Go.Proofs.YtmlpmdccfmmpoaaGreatDoor
