/- Functions whose slices grow in boxes, and that call what changes the state where the order of evaluation is open. -/
import Derived.Test.YtmlpmdccfmmpoaaGreatExK
import Derived.Test.YtmlpmdccfmmpoaaGreatExO
import Derived.Test.YtmlpmdccfmmpoaaGreatSlices
section
set_option linter.unusedSimpArgs false
set_option linter.unusedVariables false
set_option maxHeartbeats 4000000
set_option maxRecDepth 8000
namespace Go.Proofs.YtmlpmdccfmmpoaaGreat
open E

def pV (p:Posting):V:=.agg [vI p.kind,vI p.ent,vI p.oth,vI p.rule,.t (.sl (p.parts.map Part.c))]
def peV (r:Posting×Int):V:=.tup [pV r.1,vI r.2]
def finE (s:Src) (oth rule:Int) (r:Option (List Part)):Posting×Int:=match r with
 | none=>(zeroP,2)
 | some q=>(postR s oth rule q,0)
theorem sumAt_bd {k:Int} : ∀{ps:List Part},(∀p∈ps,amtB p.amt=true)→-(1000000000000*(ps.length:Int))≤sumAt ps k∧sumAt ps k≤1000000000000*(ps.length:Int)
 | [],_=>by simp [sumAt]
 | p::ps,h=>by
  have ih:=sumAt_bd (k:=k) (ps:=ps) fun q hq=>h q (by simp [hq])
  have h1:=amtB_bd (h p (by simp))
  rw [sumAt_cons,List.length_cons]
  push_cast
  split<;>omega
theorem sum_bd : ∀{ps:List Part},(∀p∈ps,amtB p.amt=true)→-(1000000000000*(ps.length:Int))≤(ps.map Part.amt).sum∧(ps.map Part.amt).sum≤1000000000000*(ps.length:Int)
 | [],_=>by simp
 | p::ps,h=>by
  have ih:=sum_bd (ps:=ps) fun q hq=>h q (by simp [hq])
  have h1:=amtB_bd (h p (by simp))
  rw [List.map_cons,List.sum_cons,List.length_cons]
  push_cast
  omega
def pre (ps:List Part) (ks:List Int):List Part:=(ks.filter fun k=>sumAt ps k != 0).map fun k=>⟨k,sumAt ps k⟩
theorem pre_snoc (ps:List Part) (ks:List Int) (k:Int):pre ps (ks++[k])=pre ps ks++(if sumAt ps k=0 then [] else [⟨k,sumAt ps k⟩]):=by
 unfold pre
 rw [List.filter_append,List.map_append]
 congr 1
 by_cases h:sumAt ps k=0
 ·rw [if_pos h,List.filter_cons_of_neg (by simp [h])]; rfl
 ·rw [if_neg h,List.filter_cons_of_pos (by simp [h])]; rfl
theorem pre_len (ps:List Part) (ks:List Int):(pre ps ks).length≤ks.length:=by
 unfold pre; rw [List.length_map]; exact List.length_filter_le _ _
theorem partsR_pre (ps:List Part) (h : ∀k∈keysOf ps,amtB (sumAt ps k)=true):partsR ps=some (pre ps (keysOf ps)):=by
 unfold partsR pre; rw [if_pos (List.all_eq_true.2 h)]
theorem partsR_bad (ps:List Part) {k:Int} (hk:k∈keysOf ps) (h:amtB (sumAt ps k)=false):partsR ps=none:=by
 unfold partsR; rw [if_neg (fun e=>by rw [List.all_eq_true.1 e k hk] at h; cases h)]
theorem keysOf_len : ∀(ps:List Part),(keysOf ps).length≤ps.length
 | []=>by simp [keysOf]
 | p::ps=>by
  have ih:=keysOf_len ps
  have e : ∀(k:Int) (l:List Int),(insK k l).length≤l.length+1:=fun k l=>by
   induction l with
   | nil=>simp [insK]
   | cons y l ih=>unfold insK; split<;>(try split)<;>simp<;>omega
  have h2:=e p.acc (keysOf ps)
  have e2:keysOf (p::ps)=insK p.acc (keysOf ps):=rfl
  rw [e2,List.length_cons]; omega
def LvOk (n:Nat) (lv:V):Prop:=lv=.snil∨∃i k,lv=.bw i k∧i<n
theorem LvOk.ok {n n' m:Nat} {lv:V} (h:LvOk n lv) (hn:n≤n'):okN n' m lv=true:=by
 rcases h with rfl | ⟨i,k,rfl,hi⟩
 ·rfl
 ·simp [okN]; omega
theorem w_finish (b mb:Nat) (acc rule:Int) (B:List Bx) (hU:OkU B) (s:Src) (oth:Int) (lv:V) (ps:List Part) (hb:B[b]?=some (.cells (mC s oth lv mb (ps.map Part.amt).sum))) (hmb:B[mb]?=some (.mp (mI vI (pmap ps))))
  (hl:ps.length≤1000) (ham : ∀p∈ps,amtB p.amt=true) (hac : ∀p∈ps,0≤p.acc∧p.acc≤1000000) (hacc:0≤acc∧acc≤1000000) (hlv:LvOk B.length lv) :
  FnS Tryz.prog 51 [.ptr b 0,vI acc,vI rule] ⟨B,[]⟩ (peV (finE s oth rule (partsR (ps++[⟨acc,-(ps.map Part.amt).sum⟩])))) ⟨(B.set mb .dead).set b .dead,[]⟩:=by
 have hne:b≠mb:=fun e=>by rw [e,hmb] at hb; cases hb
 have hbl:=lt_of_get hb
 have hml:=lt_of_get hmb
 obtain⟨sum,hsum⟩ : ∃z,z=(ps.map Part.amt).sum:=⟨_,rfl⟩
 have hsb:=sum_bd ham
 rw [←hsum] at hsb hb ⊢
 obtain⟨qs,hqs⟩ : ∃q,q=ps++[⟨acc,-sum⟩]:=⟨_,rfl⟩
 have hpm:pmap qs=aset (pmap ps) acc ((aget (pmap ps) acc).getD 0 + -sum):=by rw [hqs,pmap_snoc]
 have hps:=pmap_sum ps acc
 have hsa:=sumAt_bd (k:=acc) ham
 have hpl:=pmap_len ps
 have hq0:sum + -sum=0:=by omega
 rw [←hqs]
 have hkeys:=pmap_keys qs
 have hso:=sorted_keys qs (List.Perm.refl _)
 have hso':sortI ((pmap qs).map Prod.fst)=keysOf qs:=hso
 have hql:=pmap_len qs
 have hqlen:qs.length≤1001:=by rw [hqs]; simp; omega
 have hkl:=keysOf_len qs
 have hrange : ∀p∈pmap qs,0≤p.1∧p.1≤1000000:=fun p hp=>by
  obtain⟨r,h1,h2⟩:=(hkeys.2 p.1).1 (List.mem_map.2 ⟨p,hp,rfl⟩)
  rw [←h2]
  rw [hqs] at h1
  rcases List.mem_append.1 h1 with h1 | h1
  ·exact hac r h1
  ·simp at h1; subst h1; exact hacc
 have w1:IntKind.i64.wrap (-sum) = -sum:=wrap64 (by omega) (by omega)
 have h1:IntKind.i64.wrap ((aget (pmap ps) acc).getD 0 + -sum)=(aget (pmap ps) acc).getD 0 + -sum:=by rw [hps]; exact wrap64 (by omega) (by omega)
 have h2:IntKind.i64.wrap (sum + -sum)=sum + -sum:=by rw [hq0]; decide
 have hB1 : ∀l:List Bx,(∀n m,B.length+l.length≤n→LeBs n m l l)→OkS ⟨B++l,[]⟩:=fun l hl=>(hU.more l hl).S
 have hpost:=fun (l:List Bx) (hl : ∀n m,B.length+l.length≤n→LeBs n m l l)=>w_post b mb acc (-sum) ⟨B++l,[]⟩ (hB1 l hl) s oth lv sum (pmap ps) (app_ltU hb l) (app_ltU hmb l) (by omega) (hlv.ok (by simp)) h1 h2
 have hpost1:=hpost [.cells [vI 0,vI 0,vI 0,vI 0,.snil]] (fun n m h=>by simp [LeBs,leB,LeL_refl,okNs,okN])
 rw [←hpm,hq0] at hpost1
 (refine FnS.of_code mix Tryz.call51 k_51 (by simp) (fun hB=>?_); (try simp at hB); (try simp -implicitDefEqProofs [qc_51]))
 have hbE : ∀l:List Bx,(B++l)[b]?=some (.cells (mC s oth lv mb sum)):=fun l=>app_ltU hb l
 unfold mC at hbE
 ((try simp -implicitDefEqProofs [hbE,w1]); repeat' first | ((with_reducible first | apply gdK_em | apply cdK_em | apply pickK_em)<;>(intro hc; have hc':=hc; (try simp at hc'); simp -implicitDefEqProofs [hc,hc',hbE,w1])))
 refine callKf hpost1 ?_
 obtain⟨M,hM⟩ : ∃M,M=(B.set mb (.mp (mI vI (pmap qs)))).set b (.cells (mC s oth lv mb 0)):=⟨_,rfl⟩
 have hset : ∀l:List Bx,((B++l).set mb (.mp (mI vI (pmap qs)))).set b (.cells (mC s oth lv mb 0))=M++l:=fun l=>by
  rw [List.set_append_left _ _ hml,List.set_append_left _ _ (by simpa using hbl),hM]
 rw [hset]
 have hBL:B.length=M.length:=by rw [hM]; simp
 have hMb:M[b]?=some (.cells (mC s oth lv mb 0)):=by rw [hM,List.getElem?_set_self (by simpa using hbl)]
 have hMm:M[mb]?=some (.mp (mI vI (pmap qs))):=by rw [hM,List.getElem?_set_ne hne,List.getElem?_set_self hml]
 have hMU:OkU M:=fun n m hn=>by
  rw [hM]
  exact LeBs.set (show E.leB n m (.cells _) (.cells _) from ⟨LeL_refl _,by unfold mC; have:=hlv.ok (n':=n) (m:=m) (by omega); simp [okNs,okN,this]; omega⟩) b (LeBs.set (leB_mp _) mb (hU n m (by omega)))
 have hfinal : ∀(l:List Bx) n m,B.length≤n→LeBs n m (M++l) ((B.set mb .dead).set b .dead):=fun l n m hn=>by
  rw [hM]
  exact LeBs.ext l (LeBs.set (show E.leB n m (.cells _) .dead from trivial) b (LeBs.set (show E.leB n m (.mp _) .dead from trivial) mb (hU n m hn)))
 have hMbE : ∀l:List Bx,(M++l)[b]?=some (.cells (mC s oth lv mb 0)):=fun l=>app_ltU hMb l
 have hMmE : ∀l:List Bx,(M++l)[mb]?=some (.mp (mI vI (pmap qs))):=fun l=>app_ltU hMm l
 have gz : ∀l:List Bx,(M++l)[M.length]?=l[0]?:=fun l=>by rw [List.getElem?_append_right (by omega)]; congr 1; omega
 have g1 : ∀(l:List Bx) (j:Nat),(M++l)[M.length+j]?=l[j]?:=fun l j=>by rw [List.getElem?_append_right (by omega)]; congr 1; omega
 have s0 : ∀(l:List Bx) (v:Bx),(M++l).set M.length v=M++l.set 0 v:=fun l v=>by rw [List.set_append_right _ _ (by omega)]; simp
 have s1 : ∀(l:List Bx) (j:Nat) (v:Bx),(M++l).set (M.length+j) v=M++l.set j v:=fun l j v=>by rw [List.set_append_right _ _ (by omega)]; congr 2; omega
 have hMml:mb<M.length:=by omega
 unfold mC at hMbE
 rw [hBL]
 clear hset hpost1 hpost hB1 hU hb hmb hM
 ((try simp -implicitDefEqProofs [hMbE,hMmE,gz,g1,s0,s1]); repeat' first | ((with_reducible first | apply gdK_em | apply cdK_em | apply pickK_em)<;>(intro hc; have hc':=hc; (try simp at hc'); simp -implicitDefEqProofs [hc,hc',hMbE,hMmE,gz,g1,s0,s1])))
 have hMU1:OkU (M++[.cells [vI 0,vI 0,vI 0,vI 0,.snil],.cells [vI 10,vI s.ent,vI oth,vI rule,.snil]]):=hMU.more _ (fun n m h=>by simp [LeBs,leB,LeL_refl,okNs,okN])
 have hk:=w_Keys mb _ hMU1 (by simp; omega)
 have hS:=w_Sorted (M.length+2) mb (M++[.cells [vI 0,vI 0,vI 0,vI 0,.snil],.cells [vI 10,vI s.ent,vI oth,vI rule,.snil]]++[.cells [.mp mb]]) (pmap qs) (by rw [List.append_assoc,g1]; rfl) (by rw [List.append_assoc]; exact hMmE _) (by omega) hkeys.1 hrange
 rw [hso'] at hS
 have hlen2:(M++[.cells [vI 0,vI 0,vI 0,vI 0,.snil],.cells [vI 10,vI s.ent,vI oth,vI rule,.snil]]:List Bx).length=M.length+2:=by simp
 rw [hlen2] at hk
 refine callKf hk ?_
 ((try simp -implicitDefEqProofs); repeat' first | ((with_reducible first | apply gdK_em | apply cdK_em | apply pickK_em)<;>(intro hc; have hc':=hc; (try simp at hc'); simp -implicitDefEqProofs [hc,hc'])))
 simp only [List.append_assoc,List.cons_append,List.nil_append] at hS
 refine callKf hS ?_
 have hkl':(keysOf qs).length≤1001:=by omega
 unfold intsT
 ((try simp -implicitDefEqProofs); repeat' first | ((with_reducible first | apply gdK_em | apply cdK_em | apply pickK_em)<;>(intro hc; have hc':=hc; (try simp at hc'); simp -implicitDefEqProofs [hc,hc'])))
 obtain⟨KS,hKS⟩ : ∃K,K=keysOf qs:=⟨_,rfl⟩
 have hres : ∀k,k≤KS.length→True:=fun _ _=>trivial
 refine loop_grow [(.cell (M.length+1) 4,45,2)] (X:=Nat) (fun k=>k≤KS.length∧∀x∈KS.take k,amtB (sumAt qs x)=true)
  (fun k=>[(0,.ptr b 0),(6,.ptr M.length 0),(8,.ptr (M.length+1) 0),(36,.t (.sl (KS.map fun n=>[T.int .i64 n]))),(37,vI KS.length),(38,vI k)])
  (fun k=>⟨M++[.cells [vI 0,vI 0,vI 0,vI 0,.snil],.cells [vI 10,vI s.ent,vI oth,vI rule,.own 0 45 2 ((pre qs (KS.take k)).map Part.c)]],[(pre qs (KS.take k)).length]⟩) (fun k=>KS.length-k) 0 ⟨by omega,by simp⟩ ?hs ?_
 case hs=>
  have hle:=fun (l l':List Bx) n m h=>LeBs.appU (l:=l) (l':=l') (hMU n m h)
  have e0:pre qs []=[]:=rfl
  rw [hKS]
  simp [g1,s1,e0,hle,E.leB,LeL_refl,okNs,okN]
  omega
 have hzero : ∀(e:Int),True:=fun _=>trivial
 rintro k ⟨hk1,hk2⟩ hbd
 clear hbd
 have hpl2:=pre_len qs (KS.take k)
 rw [List.length_take] at hpl2
 have hmin:min k KS.length=k:=by omega
 have hklen:KS.length≤1001:=by rw [hKS]; exact hkl'
 have e3:IntKind.i64.wrap ((k:Int)+1)=(k:Int)+1:=wrap64 (by omega) (by omega)
 have hle:=fun (l l':List Bx) n m h=>LeBs.appU (l:=l) (l':=l') (hMU n m h)
 rcases Nat.lt_or_ge k KS.length with h | h
 ·obtain⟨x,hx⟩:=get_of_lt h
  have hxm:x∈keysOf qs:=by rw [←hKS]; exact List.mem_of_getElem? hx
  have hfm:=findM_I vI x (pmap qs)
  have hps2:=pmap_sum qs x
  have ha:=w_xamt (sumAt qs x)
  have hsn:=pre_snoc qs (KS.take k) x
  have htn:=take_next hx
  have g3:(KS.map fun n=>[T.int .i64 n])[k]?=some [T.int .i64 x]:=by simp [hx]
  have g4 : ∀hi,(KS.map fun n=>[T.int .i64 n])[k]'hi=[T.int .i64 x]:=fun hi=>by rw [List.getElem?_eq_getElem hi] at g3; exact Option.some.inj g3
  generalize hv:sumAt qs x=v at *
  cases hb2:amtB v
  ·rw [hb2] at ha
   have hbad:=partsR_bad qs hxm (by rw [hv]; exact hb2)
   rw [hbad]
   ((try simp at ha); (try simp -implicitDefEqProofs [h,g3,g4,hMbE,hMmE,g1,gz,s0,s1,hfm,hps2,finE,peV,pV,zeroP]); repeat' first | ((with_reducible first | apply gdK_em | apply cdK_em | apply pickK_em)<;>(intro hc; have hc':=hc; (try simp at hc'); simp -implicitDefEqProofs [hc,hc',h,g3,g4,hMbE,hMmE,g1,gz,s0,s1,hfm,hps2,finE,peV,pV,zeroP])) | (with_reducible apply callK_pure<;>first | (simp only [eras,era,eras_map]; first | with_reducible exact ha | simpa using ha) | (simp -implicitDefEqProofs [h,g3,g4,hMbE,hMmE,g1,gz,s0,s1,hfm,hps2,finE,peV,pV,zeroP])))
   exact⟨by omega,hfinal _ _ _ (Nat.le_refl _)⟩
  ·rw [hb2] at ha
   have hk2' : ∀y∈KS.take (k+1),amtB (sumAt qs y)=true:=fun y hy=>by
    rw [htn] at hy
    rcases List.mem_append.1 hy with hy | hy
    ·exact hk2 y hy
    ·simp at hy; subst hy; rw [hv]; exact hb2
   rw [←htn] at hsn
   by_cases v0:v=0
   ·rw [if_pos v0,List.append_nil] at hsn
    subst v0
    ((try simp at ha); (try simp -implicitDefEqProofs [h,g3,g4,hMbE,hMmE,g1,gz,s0,s1,hfm,hps2,e3]); repeat' first | ((with_reducible first | apply gdK_em | apply cdK_em | apply pickK_em)<;>(intro hc; have hc':=hc; (try simp at hc'); simp -implicitDefEqProofs [hc,hc',h,g3,g4,hMbE,hMmE,g1,gz,s0,s1,hfm,hps2,e3])) | (with_reducible apply callK_pure<;>first | (simp only [eras,era,eras_map]; first | with_reducible exact ha | simpa using ha) | (simp -implicitDefEqProofs [h,g3,g4,hMbE,hMmE,g1,gz,s0,s1,hfm,hps2,e3])))
    refine⟨k+1,⟨by omega,hk2'⟩,by omega,?_⟩
    rw [hsn]
    simp [hle,E.leB,LeL_refl,okNs,okN]
    omega
   ·rw [if_neg v0] at hsn
    have v1:(v != 0)=true:=by simpa using v0
    ((try simp at ha); (try simp -implicitDefEqProofs [h,g3,g4,hMbE,hMmE,g1,gz,s0,s1,hfm,hps2,e3,v0,v1,maxLen]); repeat' first | ((with_reducible first | apply gdK_em | apply cdK_em | apply pickK_em)<;>(intro hc; have hc':=hc; (try simp at hc'); simp -implicitDefEqProofs [hc,hc',h,g3,g4,hMbE,hMmE,g1,gz,s0,s1,hfm,hps2,e3,v0,v1,maxLen])) | (with_reducible apply callK_pure<;>first | (simp only [eras,era,eras_map]; first | with_reducible exact ha | simpa using ha) | (simp -implicitDefEqProofs [h,g3,g4,hMbE,hMmE,g1,gz,s0,s1,hfm,hps2,e3,v0,v1,maxLen])))
    refine⟨⟨by omega,by omega⟩,k+1,⟨by omega,hk2'⟩,by omega,?_⟩
    rw [hsn]
    simp [hle,E.leB,LeL_refl,okNs,okN,Part.c]
    omega
 ·have hkk:k=KS.length:=by omega
  subst hkk
  rw [List.take_of_length_le (Nat.le_refl _)] at hk2 ⊢
  have hgood:=partsR_pre qs (by rw [←hKS]; exact hk2)
  rw [←hKS] at hgood
  rw [hgood]
  generalize pre qs KS=q at *
  by_cases q0:q=[]
  ·subst q0
   ((try simp -implicitDefEqProofs [h,hMbE,hMmE,g1,gz,s0,s1,finE,peV,pV,zeroP,postR]); repeat' first | ((with_reducible first | apply gdK_em | apply cdK_em | apply pickK_em)<;>(intro hc; have hc':=hc; (try simp at hc'); simp -implicitDefEqProofs [hc,hc',h,hMbE,hMmE,g1,gz,s0,s1,finE,peV,pV,zeroP,postR])))
   exact⟨by omega,hfinal _ _ _ (Nat.le_refl _)⟩
  ·have q1:((q.length:Int)==0)=false:=by simp [q0]
   ((try simp -implicitDefEqProofs [h,hMbE,hMmE,g1,gz,s0,s1,finE,peV,pV,postR,q0,q1]); repeat' first | ((with_reducible first | apply gdK_em | apply cdK_em | apply pickK_em)<;>(intro hc; have hc':=hc; (try simp at hc'); simp -implicitDefEqProofs [hc,hc',h,hMbE,hMmE,g1,gz,s0,s1,finE,peV,pV,postR,q0,q1])))
   exact⟨by omega,hfinal _ _ _ (Nat.le_refl _)⟩
end Go.Proofs.YtmlpmdccfmmpoaaGreat
end
section
set_option linter.unusedSimpArgs false
set_option linter.unusedVariables false
set_option maxHeartbeats 4000000
set_option maxRecDepth 8000
namespace Go.Proofs.YtmlpmdccfmmpoaaGreat
open E

theorem w_pop (sb kb n:Nat) (B:List Bx) (hU : ∀m,LeBs B.length m B B) (cs:List V) (v:Int) (h1:B[sb]?=some (.cells [.bw kb (n+1)])) (h2:B[kb]?=some (.buf 3 1 cs)) (h3:cs[n]?=some (vI v)) (hn:n+1≤1000000) :
  FnS Tryz.prog 47 [.ptr sb 0] ⟨B,[]⟩ (vI v) ⟨B.set sb (.cells [.bw kb n]),[]⟩:=by
 have hkb:=lt_of_get h2
 have hcn:=lt_of_get h3
 have e1:IntKind.i64.wrap (n:Int)=(n:Int):=i64w (by omega)
 have j3:n+1≤cs.length:=by omega
 have j1:(n:Int)<(n:Int)+1:=by omega
 have j2:(n:Int)≤(n:Int)+1:=by omega
 have h3' : ∀h,cs[n]'h=vI v:=fun h=>by rw [List.getElem?_eq_getElem h] at h3; exact Option.some.inj h3
 have hfin:LeBs B.length 0 (B.set sb (.cells [.bw kb n])) (B.set sb (.cells [.bw kb n])):=LeBs.set (show E.leB B.length 0 (.cells _) (.cells _) from ⟨LeL_refl _,by simp [okNs,okN]; exact hkb⟩) sb (hU 0)
 (refine FnS.of_code mix Tryz.call47 k_47 (by simp) (fun hB=>?_); (try simp at hB); (try simp -implicitDefEqProofs [qc_47]))
 ((try simp -implicitDefEqProofs [h1,h2,h3,h3',e1,j1,j2,j3,hcn,hfin]); repeat' first | ((with_reducible first | apply gdK_em | apply cdK_em | apply pickK_em)<;>(intro hc; have hc':=hc; (try simp at hc'); simp -implicitDefEqProofs [hc,hc',h1,h2,h3,h3',e1,j1,j2,j3,hcn,hfin])))
end Go.Proofs.YtmlpmdccfmmpoaaGreat
end
section
set_option linter.unusedVariables false
namespace Go.Proofs.YtmlpmdccfmmpoaaGreat
namespace E
theorem FnS.of_codeV {P:Program} (hmix:P.follows .mixedOrders=true) {f N:Nat} {c:EC} {rs:List RV} {vs:List V} {S S':St} {r:V} (hE:Enters P f) (hc:ecG true true P f=some (N,c,rs)) (hlen:vs.length≤N)
  (h:bdVs vs→ewp P S.boxes.length S.toks.length c (FinK rs S.boxes.length S.toks.length r S') (fr0 vs) S):FnS P f vs S r S':=FnS.of_bd hE fun hb=>FnS.of_codeG hmix hE hc hlen (h hb)
end E
end Go.Proofs.YtmlpmdccfmmpoaaGreat
end
