/- Chapter 35: the machine's posting. -/
import Derived.Test.YtmlpmdccfmmpoaaGreatExK
import Derived.Test.YtmlpmdccfmmpoaaGreatExO
set_option linter.unusedSimpArgs false
set_option linter.unusedVariables false
set_option maxHeartbeats 4000000
set_option maxRecDepth 8000
namespace Go.Proofs.YtmlpmdccfmmpoaaGreat
open E

def pV (p:Posting):V:=.agg [vI p.kind,vI p.ent,vI p.oth,vI p.rule,.t (.sl (p.parts.map Part.c))]
def peV (r:Posting×Int):V:=.tup [pV r.1,vI r.2]
def Cj (s:Src) (oth rule:Int) (r:Option (List Part)):Posting×Int:=match r with
 | none=>(B7,2)
 | some q=>(Bq s oth rule q,0)
theorem J2 {k:Int} : ∀{ps:List Part},(∀p∈ps,Ah p.amt=true)→-(1000000000000*(ps.length:Int))≤Ax ps k∧Ax ps k≤1000000000000*(ps.length:Int)
 | [],_=>by simp [Ax]
 | p::ps,h=>by
  have ih:=J2 (k:=k) (ps:=ps) fun q hq=>h q (by simp [hq])
  have h1:=Ht (h p (by simp))
  rw [O7,List.length_cons]
  push_cast
  split<;>omega
theorem Od : ∀{ps:List Part},(∀p∈ps,Ah p.amt=true)→-(1000000000000*(ps.length:Int))≤(ps.map Part.amt).sum∧(ps.map Part.amt).sum≤1000000000000*(ps.length:Int)
 | [],_=>by simp
 | p::ps,h=>by
  have ih:=Od (ps:=ps) fun q hq=>h q (by simp [hq])
  have h1:=Ht (h p (by simp))
  rw [List.map_cons,List.sum_cons,List.length_cons]
  push_cast
  omega
def pre (ps:List Part) (ks:List Int):List Part:=(ks.filter fun k=>Ax ps k != 0).map fun k=>⟨k,Ax ps k⟩
theorem T1 (ps:List Part) (ks:List Int) (k:Int):pre ps (ks++[k])=pre ps ks++(if Ax ps k=0 then [] else [⟨k,Ax ps k⟩]):=by
 unfold pre
 rw [List.filter_append,List.map_append]
 congr 1
 by_cases h:Ax ps k=0
 ·rw [if_pos h,List.filter_cons_of_neg (by simp [h])];rfl
 ·rw [if_neg h,List.filter_cons_of_pos (by simp [h])];rfl
theorem Uy (ps:List Part) (ks:List Int):(pre ps ks).length≤ks.length:=by
 unfold pre;rw [List.length_map];exact List.length_filter_le _ _
theorem Oe (ps:List Part) (h : ∀k∈Au ps,Ah (Ax ps k)=true):D7 ps=some (pre ps (Au ps)):=by
 unfold D7 pre;rw [if_pos (List.all_eq_true.2 h)]
theorem Of (ps:List Part) {k:Int} (hk:k∈Au ps) (h:Ah (Ax ps k)=false):D7 ps=none:=by
 unfold D7;rw [if_neg (fun e=>by rw [List.all_eq_true.1 e k hk] at h;cases h)]
theorem Ft : ∀(ps:List Part),(Au ps).length≤ps.length
 | []=>by simp [Au]
 | p::ps=>by
  have ih:=Ft ps
  have e : ∀(k:Int) (l:List Int),(Gt k l).length≤l.length+1:=fun k l=>by
   induction l with
   | nil=>simp [Gt]
   | cons y l ih=>unfold Gt;split<;>(try split)<;>simp<;>omega
  have h2:=e p.acc (Au ps)
  have e2:Au (p::ps)=Gt p.acc (Au ps):=rfl
  rw [e2,List.length_cons];omega
def Qt (n:Nat) (lv:V):Prop:=lv=.snil∨∃i k,lv=.bw i k∧i<n
theorem Qt.ok {n n' m:Nat} {lv:V} (h:Qt n lv) (hn:n≤n'):okN n' m lv=true:=by
 rcases h with rfl|⟨i,k,rfl,hi⟩
 ·rfl
 ·simp [okN];omega
theorem T2 (b mb:Nat) (acc rule:Int) (B:List Bx) (hU:OkU B) (s:Src) (oth:Int) (lv:V) (ps:List Part) (hb:B[b]?=some (.cells (mC s oth lv mb (ps.map Part.amt).sum))) (hmb:B[mb]?=some (.mp (mI vI (Br ps))))
  (hl:ps.length≤8000) (ham : ∀p∈ps,Ah p.amt=true) (hac : ∀p∈ps,0≤p.acc∧p.acc≤1000000) (hacc:0≤acc∧acc≤1000000) (hlv:Qt B.length lv) :
  FnS Tryz.prog 51 [.ptr b 0,vI acc,vI rule] ⟨B,[]⟩ (peV (Cj s oth rule (D7 (ps++[⟨acc,-(ps.map Part.amt).sum⟩])))) ⟨(B.set mb .dead).set b .dead,[]⟩:=by
 have hne:b≠mb:=fun e=>by rw [e,hmb] at hb;cases hb
 have hbl:=A5 hb
 have hml:=A5 hmb
 obtain⟨sum,hsum⟩ : ∃z,z=(ps.map Part.amt).sum:=⟨_,rfl⟩
 have hsb:=Od ham
 rw [←hsum] at hsb hb ⊢
 obtain⟨qs,hqs⟩ : ∃q,q=ps++[⟨acc,-sum⟩]:=⟨_,rfl⟩
 have hpm:Br qs=Cv (Br ps) acc ((Bw (Br ps) acc).getD 0 + -sum):=by rw [hqs,Gu]
 have hps:=Iw ps acc
 have hsa:=J2 (k:=acc) ham
 have hpl:=Ix ps
 have hq0:sum + -sum=0:=by omega
 rw [←hqs]
 have hkeys:=Jz qs
 have hso:=Mh qs (List.Perm.refl _)
 have hso':Er ((Br qs).map Prod.fst)=Au qs:=hso
 have hql:=Ix qs
 have hqlen:qs.length≤8001:=by rw [hqs];simp;omega
 have hkl:=Ft qs
 have hrange : ∀p∈Br qs,0≤p.1∧p.1≤1000000:=fun p hp=>by
  obtain⟨r,h1,h2⟩:=(hkeys.2 p.1).1 (List.mem_map.2 ⟨p,hp,rfl⟩)
  rw [←h2]
  rw [hqs] at h1
  rcases List.mem_append.1 h1 with h1|h1
  ·exact hac r h1
  ·simp at h1;subst h1;exact hacc
 have w1:IntKind.i64.wrap (-sum) = -sum:=wrap64 (by omega) (by omega)
 have h1:IntKind.i64.wrap ((Bw (Br ps) acc).getD 0 + -sum)=(Bw (Br ps) acc).getD 0 + -sum:=by rw [hps];exact wrap64 (by omega) (by omega)
 have h2:IntKind.i64.wrap (sum + -sum)=sum + -sum:=by rw [hq0];decide
 have hB1 : ∀l:List Bx,(∀n m,B.length+l.length≤n→A6 n m l l)→OkS ⟨B++l,[]⟩:=fun l hl=>(hU.more l hl).S
 have hpost:=fun (l:List Bx) (hl : ∀n m,B.length+l.length≤n→A6 n m l l)=>Ss b mb acc (-sum) ⟨B++l,[]⟩ (hB1 l hl) s oth lv sum (Br ps) (Ad hb l) (Ad hmb l) (by omega) (hlv.ok (by simp)) h1 h2
 have hpost1:=hpost [.cells [vI 0,vI 0,vI 0,vI 0,.snil]] (fun n m h=>by simp [A6,E.leB,A3,okNs,okN])
 rw [←hpm,hq0] at hpost1
 (refine FnS.of_code mix Tryz.call51 k_51 (by simp) (fun hB=>?_);(try simp at hB);(try simp -implicitDefEqProofs))
 have hbE : ∀l:List Bx,(B++l)[b]?=some (.cells (mC s oth lv mb sum)):=fun l=>Ad hb l
 unfold mC at hbE
 (try simp -implicitDefEqProofs [hbE,w1])
 refine Ab hpost1 ?_
 obtain⟨M,hM⟩ : ∃M,M=(B.set mb (.mp (mI vI (Br qs)))).set b (.cells (mC s oth lv mb 0)):=⟨_,rfl⟩
 have hset : ∀l:List Bx,((B++l).set mb (.mp (mI vI (Br qs)))).set b (.cells (mC s oth lv mb 0))=M++l:=fun l=>by
  rw [List.set_append_left _ _ hml,List.set_append_left _ _ (by simpa using hbl),hM]
 rw [hset]
 have hBL:B.length=M.length:=by rw [hM];simp
 have hMb:M[b]?=some (.cells (mC s oth lv mb 0)):=by rw [hM,List.getElem?_set_self (by simpa using hbl)]
 have hMm:M[mb]?=some (.mp (mI vI (Br qs))):=by rw [hM,List.getElem?_set_ne hne,List.getElem?_set_self hml]
 have hMU:OkU M:=fun n m hn=>by
  rw [hM]
  exact A6.set (show E.leB n m (.cells _) (.cells _) from ⟨A3 _,by unfold mC;have:=hlv.ok (n':=n) (m:=m) (by omega);simp [okNs,okN,this];omega⟩) b (A6.set (D1 _) mb (hU n m (by omega)))
 have hfinal : ∀(l:List Bx) n m,B.length≤n→A6 n m (M++l) ((B.set mb .dead).set b .dead):=fun l n m hn=>by
  rw [hM]
  exact A6.ext l (A6.set (show E.leB n m (.cells _) .dead from trivial) b (A6.set (show E.leB n m (.mp _) .dead from trivial) mb (hU n m hn)))
 have hMbE : ∀l:List Bx,(M++l)[b]?=some (.cells (mC s oth lv mb 0)):=fun l=>Ad hMb l
 have hMmE : ∀l:List Bx,(M++l)[mb]?=some (.mp (mI vI (Br qs))):=fun l=>Ad hMm l
 have gz : ∀l:List Bx,(M++l)[M.length]?=l[0]?:=fun l=>by rw [List.getElem?_append_right (by omega)];congr 1;omega
 have g1 : ∀(l:List Bx) (j:Nat),(M++l)[M.length+j]?=l[j]?:=fun l j=>by rw [List.getElem?_append_right (by omega)];congr 1;omega
 have s0 : ∀(l:List Bx) (v:Bx),(M++l).set M.length v=M++l.set 0 v:=fun l v=>by rw [List.set_append_right _ _ (by omega)];simp
 have s1 : ∀(l:List Bx) (j:Nat) (v:Bx),(M++l).set (M.length+j) v=M++l.set j v:=fun l j v=>by rw [List.set_append_right _ _ (by omega)];congr 2;omega
 have hMml:mb<M.length:=by omega
 unfold mC at hMbE
 rw [hBL]
 clear hset hpost1 hpost hB1 hU hb hmb hM
 (try simp -implicitDefEqProofs [hMbE,hMmE,gz,g1,s0,s1])
 have hMU1:OkU (M++[.cells [vI 0,vI 0,vI 0,vI 0,.snil],.cells [vI 10,vI s.ent,vI oth,vI rule,.snil]]):=hMU.more _ (fun n m h=>by simp [A6,E.leB,A3,okNs,okN])
 have hk:=Wv mb _ hMU1 (by simp;omega)
 have hS:=Sx (M.length+2) mb (M++[.cells [vI 0,vI 0,vI 0,vI 0,.snil],.cells [vI 10,vI s.ent,vI oth,vI rule,.snil]]++[.cells [.mp mb]]) (Br qs) (by rw [List.append_assoc,g1];rfl) (by rw [List.append_assoc];exact hMmE _) (by omega) hkeys.1 hrange
 rw [hso'] at hS
 have hlen2:(M++[.cells [vI 0,vI 0,vI 0,vI 0,.snil],.cells [vI 10,vI s.ent,vI oth,vI rule,.snil]]:List Bx).length=M.length+2:=by simp
 rw [hlen2] at hk
 refine Ab hk ?_
 (try simp -implicitDefEqProofs)
 simp only [List.append_assoc,List.cons_append,List.nil_append] at hS
 refine Ab hS ?_
 have hkl':(Au qs).length≤8001:=by omega
 unfold Vv
 (try simp -implicitDefEqProofs)
 obtain⟨KS,hKS⟩ : ∃K,K=Au qs:=⟨_,rfl⟩
 have hres : ∀k,k≤KS.length→True:=fun _ _=>trivial
 refine Bl [(.cell (M.length+1) 4,45,2)] (X:=Nat) (fun k=>k≤KS.length∧∀x∈KS.take k,Ah (Ax qs x)=true)
  (fun k=>[(0,.ptr b 0),(6,.ptr M.length 0),(8,.ptr (M.length+1) 0),(36,.t (.sl (KS.map fun n=>[T.int .i64 n]))),(37,vI KS.length),(38,vI k)])
  (fun k=>⟨M++[.cells [vI 0,vI 0,vI 0,vI 0,.snil],.cells [vI 10,vI s.ent,vI oth,vI rule,.own 0 45 2 ((pre qs (KS.take k)).map Part.c)]],[(pre qs (KS.take k)).length]⟩) (fun k=>KS.length-k) 0 ⟨by omega,by simp⟩ ?hs ?_
 case hs=>
  have hle:=fun (l l':List Bx) n m h=>A6.appU (l:=l) (l':=l') (hMU n m h)
  have e0:pre qs []=[]:=rfl
  rw [hKS]
  simp [g1,s1,e0,hle,E.leB,A3,okNs,okN]
  omega
 have hzero : ∀(e:Int),True:=fun _=>trivial
 rintro k ⟨hk1,hk2⟩ hbd
 clear hbd
 have hpl2:=Uy qs (KS.take k)
 rw [List.length_take] at hpl2
 have hmin:min k KS.length=k:=by omega
 have hklen:KS.length≤8001:=by rw [hKS];exact hkl'
 have e3:IntKind.i64.wrap ((k:Int)+1)=(k:Int)+1:=wrap64 (by omega) (by omega)
 have hle:=fun (l l':List Bx) n m h=>A6.appU (l:=l) (l':=l') (hMU n m h)
 rcases Nat.lt_or_ge k KS.length with h|h
 ·obtain⟨x,hx⟩:=Aa h
  have hxm:x∈Au qs:=by rw [←hKS];exact List.mem_of_getElem? hx
  have hfm:=Ov vI x (Br qs)
  have hps2:=Iw qs x
  have ha:=O9 (Ax qs x)
  have hsn:=T1 qs (KS.take k) x
  have htn:=Aq hx
  have g3:(KS.map fun n=>[T.int .i64 n])[k]?=some [T.int .i64 x]:=by simp [hx]
  have g4 : ∀hi,(KS.map fun n=>[T.int .i64 n])[k]'hi=[T.int .i64 x]:=fun hi=>by rw [List.getElem?_eq_getElem hi] at g3;exact Option.some.inj g3
  generalize hv:Ax qs x=v at *
  cases hb2:Ah v
  ·rw [hb2] at ha
   have hbad:=Of qs hxm (by rw [hv];exact hb2)
   rw [hbad]
   ((try simp at ha);(try simp -implicitDefEqProofs [h,g3,g4,hMbE,hMmE,g1,gz,s0,s1,hfm,hps2,Cj,peV,pV,B7]);repeat' first|(with_reducible apply A0<;>first|(simp only [eras,era,A1];first|with_reducible assumption)|(simp -implicitDefEqProofs [h,g3,g4,hMbE,hMmE,g1,gz,s0,s1,hfm,hps2,Cj,peV,pV,B7])))
   exact⟨by omega,hfinal _ _ _ (Nat.le_refl _)⟩
  ·rw [hb2] at ha
   have hk2' : ∀y∈KS.take (k+1),Ah (Ax qs y)=true:=fun y hy=>by
    rw [htn] at hy
    rcases List.mem_append.1 hy with hy|hy
    ·exact hk2 y hy
    ·simp at hy;subst hy;rw [hv];exact hb2
   rw [←htn] at hsn
   by_cases v0:v=0
   ·rw [if_pos v0,List.append_nil] at hsn
    subst v0
    ((try simp at ha);(try simp -implicitDefEqProofs [h,g3,g4,hMbE,hMmE,g1,gz,s0,s1,hfm,hps2,e3]);repeat' first|(with_reducible apply A0<;>first|(simp only [eras,era,A1];first|with_reducible assumption)|(simp -implicitDefEqProofs [h,g3,g4,hMbE,hMmE,g1,gz,s0,s1,hfm,hps2,e3])))
    refine⟨k+1,⟨by omega,hk2'⟩,by omega,?_⟩
    rw [hsn]
    simp [hle,E.leB,A3,okNs,okN]
    omega
   ·rw [if_neg v0] at hsn
    have v1:(v != 0)=true:=by simpa using v0
    ((try simp at ha);(try simp -implicitDefEqProofs [h,g3,g4,hMbE,hMmE,g1,gz,s0,s1,hfm,hps2,e3,v0,v1,maxLen]);repeat' first|(with_reducible apply A0<;>first|(simp only [eras,era,A1];first|with_reducible assumption)|(simp -implicitDefEqProofs [h,g3,g4,hMbE,hMmE,g1,gz,s0,s1,hfm,hps2,e3,v0,v1,maxLen])))
    refine⟨⟨by omega,by omega⟩,k+1,⟨by omega,hk2'⟩,by omega,?_⟩
    rw [hsn]
    simp [hle,E.leB,A3,okNs,okN,Part.c]
    omega
 ·have hkk:k=KS.length:=by omega
  subst hkk
  rw [List.take_of_length_le (Nat.le_refl _)] at hk2 ⊢
  have hgood:=Oe qs (by rw [←hKS];exact hk2)
  rw [←hKS] at hgood
  rw [hgood]
  generalize pre qs KS=q at *
  by_cases q0:q=[]
  ·subst q0
   (try simp -implicitDefEqProofs [h,hMbE,hMmE,g1,gz,s0,s1,Cj,peV,pV,B7,Bq])
   exact⟨by omega,hfinal _ _ _ (Nat.le_refl _)⟩
  ·have q1:((q.length:Int)==0)=false:=by simp [q0]
   (try simp -implicitDefEqProofs [h,hMbE,hMmE,g1,gz,s0,s1,Cj,peV,pV,Bq,q0,q1])
   exact⟨by omega,hfinal _ _ _ (Nat.le_refl _)⟩
end Go.Proofs.YtmlpmdccfmmpoaaGreat
