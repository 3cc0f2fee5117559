/- Functions whose slices grow in boxes, and that call what changes the state where the order of evaluation is open. -/
import Derived.Test.YtmlpmdccfmmpoaaGreatDoorExM
import Derived.Test.YtmlpmdccfmmpoaaGreatDoorExK
import Derived.Test.YtmlpmdccfmmpoaaGreatDoorCodeM
set_option linter.unusedSimpArgs false
set_option linter.unusedVariables false
set_option maxHeartbeats 4000000
set_option maxRecDepth 8000
namespace Go.Proofs.YtmlpmdccfmmpoaaGreatDoor
open E
theorem G4 {α:Type} (f:α→Int) : ∀{l:List α},(∀(i:Nat) (x y:α),l[i]?=some x→l[i+1]?=some y→f x<f y)→l.Pairwise fun x y=>f x<f y
 | [],_=>List.Pairwise.nil
 | x::l,h=>by
  have ih:=G4 f (l:=l) fun i a b ha hb=>h (i+1) a b (by simpa using ha) (by simpa using hb)
  refine List.pairwise_cons.2 ⟨fun z hz=>?_,ih⟩
  match l,ih,h,hz with
  | y::l,ih,h,hz=>
   have h1:=h 0 x y (by simp) (by simp)
   rcases List.mem_cons.1 hz with rfl|hz
   ·exact h1
   ·exact Int.lt_trans h1 ((List.pairwise_cons.1 ih).1 z hz)
theorem I9 {l:List Src} (h:Dc l=true):l.Pairwise fun a b=>a.ent<b.ent:=by
 apply G4
 intro i x y hx hy
 have h2:=(Bool.and_eq_true _ _▸h:_∧_).2
 have hi:=(List.getElem?_eq_some_iff.1 hy).1
 have h3:=List.all_eq_true.1 h2 (i+1) (by simpa using hi)
 have hx':l.getD i ⟨0,false,0,0,[]⟩=x:=by rw [List.getD_eq_getElem?_getD,hx];rfl
 have hy':l.getD (i+1) ⟨0,false,0,0,[]⟩=y:=by rw [List.getD_eq_getElem?_getD,hy];rfl
 simp only [Nat.add_sub_cancel,hx',hy'] at h3
 simpa using h3
theorem E2 {l:List Src} (h:Dc l=true) {s:Src} (hs:s∈l):0≤s.ent∧s.ent<12∧∀x∈s.items,Ah x.amt=true:=by
 have h2:=List.all_eq_true.1 (Bool.and_eq_true _ _▸h:_∧_).1 s hs
 simp only [Bool.and_eq_true,decide_eq_true_eq,List.all_eq_true] at h2
 exact⟨h2.1.1,h2.1.2,h2.2⟩
def Xb (c:List Code) (l:List Src):List ((Code×Nat)×(Src×Int)):=c.zipIdx.flatMap fun x=>(Em l x.1.pair).map fun z=>(x,z)
theorem Mi (c:List Code) (l:List Src):Ff c l=Bi ((Xb c l).map fun y=>Ce y.1.1 y.2.1 y.2.2 y.1.2):=by
 unfold Ff Zy Xb
 congr 1
 rw [List.flatMap_map,List.map_flatMap]
 congr 1
 funext x
 rw [List.map_map]
 rfl
theorem A2t {c:List Code} {l:List Src} {y:(Code×Nat)×(Src×Int)} (h:y∈Xb c l):c[y.1.2]?=some y.1.1∧y.2.1∈l∧y.2.1.full=true∧(if y.1.1.pair=true then ∃o∈l,o.full=true∧o.ent=y.2.2∧o.ent≠y.2.1.ent else y.2.2 = -1):=by
 unfold Xb at h
 obtain⟨x,hx,hy⟩:=List.mem_flatMap.1 h
 obtain⟨z,hz,rfl⟩:=List.mem_map.1 hy
 unfold Em at hz
 obtain⟨s,hs,hz⟩:=List.mem_flatMap.1 hz
 obtain⟨o,ho,rfl⟩:=List.mem_map.1 hz
 have hs:=List.mem_filter.1 hs
 refine⟨?_,hs.1,hs.2,?_⟩
 ·have:=List.mk_mem_zipIdx_iff_getElem?.1 (show (x.1,x.2)∈c.zipIdx from hx)
  exact this
 ·unfold G2 at ho
  by_cases hp:x.1.pair=true
  ·rw [if_pos hp] at ho ⊢
   obtain⟨t,ht,rfl⟩:=List.mem_map.1 ho
   have ht:=List.mem_filter.1 ht
   simp only [Bool.and_eq_true,bne_iff_ne,ne_eq] at ht
   exact⟨t,ht.1,ht.2.1,rfl,ht.2.2⟩
  ·rw [if_neg hp] at ho ⊢
   simpa using ho
theorem A2u {c:List Code} {l:List Src} {q:List Posting} (h:Ff c l=some q) {p:Posting} (hp:p∈q) :
  ∃y∈Xb c l,Ce y.1.1 y.2.1 y.2.2 y.1.2=some p∧p.kind=10∧p.rule=y.1.2∧p.ent=y.2.1.ent∧p.oth=y.2.2∧PartsOk p.parts∧p.parts≠[]:=by
 rw [Mi] at h
 obtain⟨h1,h2⟩:=H0 h hp
 obtain⟨y,hy,he⟩:=List.mem_map.1 h1
 have he':=he
 unfold Ce at he
 cases hx:Aw y.2.1 y.2.2 y.1.1.ins [] [] [] with
 | none=>rw [hx] at he;cases he
 | some ps=>
  rw [hx] at he
  simp only [Option.map_some,Option.some.injEq] at he
  by_cases hps:ps=[]
  ·unfold F8 at he;rw [if_pos hps] at he;subst he;exact absurd rfl h2
  ·unfold F8 at he
   rw [if_neg hps] at he
   subst he
   exact⟨y,hy,he',rfl,rfl,rfl,rfl,Gz hx,h2⟩
def Bb:Posting:=⟨0,0,0,0,[]⟩
def Cx (c:List Code) (l:List Src):List Posting×Int:=
 if Dc l=true∧(c.all fun x=>(D7 x).2)=true then match Ff c l with
  | some q=>(q,0)
  | none=>([],2)
 else ([],1)
def findS (l:List Src) (k:Int):Option Src:=l.find? fun s=>s.ent==k&&s.full
theorem Xc (c:List Code) (l:List Src):Ff c l=Bi ((List.range c.length).flatMap fun i=>(Em l (c.getD i ⟨[],false,[]⟩).pair).map fun z=>Ce (c.getD i ⟨[],false,[]⟩) z.1 z.2 i):=by
 unfold Ff Zy
 congr 1
 rw [List.flatMap_map]
 have e:c.zipIdx=(List.range c.length).map fun i=>(c.getD i ⟨[],false,[]⟩,i):=by
  apply List.ext_getElem?
  intro i
  rw [List.getElem?_zipIdx,List.getElem?_map]
  rcases Nat.lt_or_ge i c.length with h|h
  ·simp [h]
  ·simp [h]
 rw [e,List.flatMap_map]
theorem Xd {l:List Src} : Dc l=true↔(∀s∈l,0≤s.ent∧s.ent<12∧∀x∈s.items,Ah x.amt=true)∧l.Pairwise fun a b=>a.ent<b.ent:=by
 constructor
 ·exact fun h=>⟨fun s hs=>E2 h hs,I9 h⟩
 ·rintro ⟨h1,h2⟩
  unfold Dc
  rw [Bool.and_eq_true]
  refine⟨List.all_eq_true.2 fun s hs=>by simpa [and_assoc] using h1 s hs,List.all_eq_true.2 fun i hi=>?_⟩
  have hi:=List.mem_range.1 hi
  match i,hi with
  | 0,_=>rfl
  | i+1,hi=>
   have:=List.pairwise_iff_getElem.1 h2 i (i+1) (by omega) hi (by omega)
   simp only [Nat.add_sub_cancel,List.getD_eq_getElem?_getD,List.getElem?_eq_getElem hi,List.getElem?_eq_getElem (show i<l.length by omega),Option.getD_some]
   simp [this]
def pV (p:Posting):V:=.agg [vI p.kind,vI p.ent,vI p.oth,vI p.rule,.t (.sl (p.parts.map Part.c))]
def peV (r:Posting×Int):V:=.tup [pV r.1,vI r.2]
def Bn (s:Src) (oth rule:Int) (r:Option (List Part)):Posting×Int:=match r with
 | none=>(Bb,2)
 | some q=>(F8 s oth rule q,0)
theorem Fs {k:Int} : ∀{ps:List Part},(∀p∈ps,Ah p.amt=true)→-(1000000000000*(ps.length:Int))≤As ps k∧As ps k≤1000000000000*(ps.length:Int)
 | [],_=>by simp [As]
 | p::ps,h=>by
  have ih:=Fs (k:=k) (ps:=ps) fun q hq=>h q (by simp [hq])
  have h1:=G3 (h p (by simp))
  rw [U7,List.length_cons]
  push_cast
  split<;>omega
theorem Jt : ∀{ps:List Part},(∀p∈ps,Ah p.amt=true)→-(1000000000000*(ps.length:Int))≤(ps.map Part.amt).sum∧(ps.map Part.amt).sum≤1000000000000*(ps.length:Int)
 | [],_=>by simp
 | p::ps,h=>by
  have ih:=Jt (ps:=ps) fun q hq=>h q (by simp [hq])
  have h1:=G3 (h p (by simp))
  rw [List.map_cons,List.sum_cons,List.length_cons]
  push_cast
  omega
def pre (ps:List Part) (ks:List Int):List Part:=(ks.filter fun k=>As ps k != 0).map fun k=>⟨k,As ps k⟩
theorem Rj (ps:List Part) (ks:List Int) (k:Int):pre ps (ks++[k])=pre ps ks++(if As ps k=0 then [] else [⟨k,As ps k⟩]):=by
 unfold pre
 rw [List.filter_append,List.map_append]
 congr 1
 by_cases h:As ps k=0
 ·rw [if_pos h,List.filter_cons_of_neg (by simp [h])];rfl
 ·rw [if_neg h,List.filter_cons_of_pos (by simp [h])];rfl
theorem Vn (ps:List Part) (ks:List Int):(pre ps ks).length≤ks.length:=by
 unfold pre;rw [List.length_map];exact List.length_filter_le _ _
theorem Mj (ps:List Part) (h : ∀k∈Aq ps,Ah (As ps k)=true):Cc ps=some (pre ps (Aq ps)):=by
 unfold Cc pre;rw [if_pos (List.all_eq_true.2 h)]
theorem Mk (ps:List Part) {k:Int} (hk:k∈Aq ps) (h:Ah (As ps k)=false):Cc ps=none:=by
 unfold Cc;rw [if_neg (fun e=>by rw [List.all_eq_true.1 e k hk] at h;cases h)]
theorem G5 : ∀(ps:List Part),(Aq ps).length≤ps.length
 | []=>by simp [Aq]
 | p::ps=>by
  have ih:=G5 ps
  have e : ∀(k:Int) (l:List Int),(Jq k l).length≤l.length+1:=fun k l=>by
   induction l with
   | nil=>simp [Jq]
   | cons y l ih=>unfold Jq;split<;>(try split)<;>simp<;>omega
  have h2:=e p.acc (Aq ps)
  have e2:Aq (p::ps)=Jq p.acc (Aq ps):=rfl
  rw [e2,List.length_cons];omega
def Uc (n:Nat) (lv:V):Prop:=lv=.snil∨∃i k,lv=.bw i k∧i<n
theorem Uc.ok {n n' m:Nat} {lv:V} (h:Uc n lv) (hn:n≤n'):okN n' m lv=true:=by
 rcases h with rfl|⟨i,k,rfl,hi⟩
 ·rfl
 ·simp [okN];omega
theorem Rk (b mb:Nat) (acc rule:Int) (B:List Bx) (hU:OkU B) (s:Src) (oth:Int) (lv:V) (ps:List Part) (hb:B[b]?=some (.cells (mC s oth lv mb (ps.map Part.amt).sum))) (hmb:B[mb]?=some (.mp (mI vI (B6 ps))))
  (hl:ps.length≤8000) (ham : ∀p∈ps,Ah p.amt=true) (hac : ∀p∈ps,0≤p.acc∧p.acc≤1000000) (hacc:0≤acc∧acc≤1000000) (hlv:Uc B.length lv) :
  FnS Tryz.prog 87 [.ptr b 0,vI acc,vI rule] ⟨B,[]⟩ (peV (Bn s oth rule (Cc (ps++[⟨acc,-(ps.map Part.amt).sum⟩])))) ⟨(B.set mb .dead).set b .dead,[]⟩:=by
 have hne:b≠mb:=fun e=>by rw [e,hmb] at hb;cases hb
 have hbl:=A4 hb
 have hml:=A4 hmb
 obtain⟨sum,hsum⟩ : ∃z,z=(ps.map Part.amt).sum:=⟨_,rfl⟩
 have hsb:=Jt ham
 rw [←hsum] at hsb hb ⊢
 obtain⟨qs,hqs⟩ : ∃q,q=ps++[⟨acc,-sum⟩]:=⟨_,rfl⟩
 have hpm:B6 qs=Ca (B6 ps) acc ((B7 (B6 ps) acc).getD 0 + -sum):=by rw [hqs,Ed]
 have hps:=En ps acc
 have hsa:=Fs (k:=acc) ham
 have hpl:=Eo ps
 have hq0:sum + -sum=0:=by omega
 rw [←hqs]
 have hkeys:=Js qs
 have hso:=Kj qs (List.Perm.refl _)
 have hso':Ge ((B6 qs).map Prod.fst)=Aq qs:=hso
 have hql:=Eo qs
 have hqlen:qs.length≤8001:=by rw [hqs];simp;omega
 have hkl:=G5 qs
 have hrange : ∀p∈B6 qs,0≤p.1∧p.1≤1000000:=fun p hp=>by
  obtain⟨r,h1,h2⟩:=(hkeys.2 p.1).1 (List.mem_map.2 ⟨p,hp,rfl⟩)
  rw [←h2]
  rw [hqs] at h1
  rcases List.mem_append.1 h1 with h1|h1
  ·exact hac r h1
  ·simp at h1;subst h1;exact hacc
 have w1:IntKind.i64.wrap (-sum) = -sum:=wrap64 (by omega) (by omega)
 have h1:IntKind.i64.wrap ((B7 (B6 ps) acc).getD 0 + -sum)=(B7 (B6 ps) acc).getD 0 + -sum:=by rw [hps];exact wrap64 (by omega) (by omega)
 have h2:IntKind.i64.wrap (sum + -sum)=sum + -sum:=by rw [hq0];decide
 have hB1 : ∀l:List Bx,(∀n m,B.length+l.length≤n→A6 n m l l)→OkS ⟨B++l,[]⟩:=fun l hl=>(hU.more l hl).S
 have hpost:=fun (l:List Bx) (hl : ∀n m,B.length+l.length≤n→A6 n m l l)=>Mh b mb acc (-sum) ⟨B++l,[]⟩ (hB1 l hl) s oth lv sum (B6 ps) (Ae hb l) (Ae hmb l) (by omega) (hlv.ok (by simp)) h1 h2
 have hpost1:=hpost [.cells [vI 0,vI 0,vI 0,vI 0,.snil]] (fun n m h=>by simp [A6,E.leB,A3,okNs,okN])
 rw [←hpm,hq0] at hpost1
 (refine FnS.of_code mix Tryz.call87 k_87 (by simp) (fun hB=>?_);(try simp at hB);(try simp -implicitDefEqProofs))
 have hbE : ∀l:List Bx,(B++l)[b]?=some (.cells (mC s oth lv mb sum)):=fun l=>Ae hb l
 unfold mC at hbE
 (try simp -implicitDefEqProofs [hbE,w1])
 refine Ab hpost1 ?_
 obtain⟨M,hM⟩ : ∃M,M=(B.set mb (.mp (mI vI (B6 qs)))).set b (.cells (mC s oth lv mb 0)):=⟨_,rfl⟩
 have hset : ∀l:List Bx,((B++l).set mb (.mp (mI vI (B6 qs)))).set b (.cells (mC s oth lv mb 0))=M++l:=fun l=>by
  rw [List.set_append_left _ _ hml,List.set_append_left _ _ (by simpa using hbl),hM]
 rw [hset]
 have hBL:B.length=M.length:=by rw [hM];simp
 have hMb:M[b]?=some (.cells (mC s oth lv mb 0)):=by rw [hM,List.getElem?_set_self (by simpa using hbl)]
 have hMm:M[mb]?=some (.mp (mI vI (B6 qs))):=by rw [hM,List.getElem?_set_ne hne,List.getElem?_set_self hml]
 have hMU:OkU M:=fun n m hn=>by
  rw [hM]
  exact A6.set (show E.leB n m (.cells _) (.cells _) from ⟨A3 _,by unfold mC;have:=hlv.ok (n':=n) (m:=m) (by omega);simp [okNs,okN,this];omega⟩) b (A6.set (Ea _) mb (hU n m (by omega)))
 have hfinal : ∀(l:List Bx) n m,B.length≤n→A6 n m (M++l) ((B.set mb .dead).set b .dead):=fun l n m hn=>by
  rw [hM]
  exact A6.ext l (A6.set (show E.leB n m (.cells _) .dead from trivial) b (A6.set (show E.leB n m (.mp _) .dead from trivial) mb (hU n m hn)))
 have hMbE : ∀l:List Bx,(M++l)[b]?=some (.cells (mC s oth lv mb 0)):=fun l=>Ae hMb l
 have hMmE : ∀l:List Bx,(M++l)[mb]?=some (.mp (mI vI (B6 qs))):=fun l=>Ae hMm l
 have gz : ∀l:List Bx,(M++l)[M.length]?=l[0]?:=fun l=>by rw [List.getElem?_append_right (by omega)];congr 1;omega
 have g1 : ∀(l:List Bx) (j:Nat),(M++l)[M.length+j]?=l[j]?:=fun l j=>by rw [List.getElem?_append_right (by omega)];congr 1;omega
 have s0 : ∀(l:List Bx) (v:Bx),(M++l).set M.length v=M++l.set 0 v:=fun l v=>by rw [List.set_append_right _ _ (by omega)];simp
 have s1 : ∀(l:List Bx) (j:Nat) (v:Bx),(M++l).set (M.length+j) v=M++l.set j v:=fun l j v=>by rw [List.set_append_right _ _ (by omega)];congr 2;omega
 have hMml:mb<M.length:=by omega
 unfold mC at hMbE
 rw [hBL]
 clear hset hpost1 hpost hB1 hU hb hmb hM
 (try simp -implicitDefEqProofs [hMbE,hMmE,gz,g1,s0,s1])
 have hMU1:OkU (M++[.cells [vI 0,vI 0,vI 0,vI 0,.snil],.cells [vI 10,vI s.ent,vI oth,vI rule,.snil]]):=hMU.more _ (fun n m h=>by simp [A6,E.leB,A3,okNs,okN])
 have hk:=A02 mb _ hMU1 (by simp;omega)
 have hS:=Ri (M.length+2) mb (M++[.cells [vI 0,vI 0,vI 0,vI 0,.snil],.cells [vI 10,vI s.ent,vI oth,vI rule,.snil]]++[.cells [.mp mb]]) (B6 qs) (by rw [List.append_assoc,g1];rfl) (by rw [List.append_assoc];exact hMmE _) (by omega) hkeys.1 hrange
 rw [hso'] at hS
 have hlen2:(M++[.cells [vI 0,vI 0,vI 0,vI 0,.snil],.cells [vI 10,vI s.ent,vI oth,vI rule,.snil]]:List Bx).length=M.length+2:=by simp
 rw [hlen2] at hk
 refine Ab hk ?_
 (try simp -implicitDefEqProofs)
 simp only [List.append_assoc,List.cons_append,List.nil_append] at hS
 refine Ab hS ?_
 have hkl':(Aq qs).length≤8001:=by omega
 unfold A03
 (try simp -implicitDefEqProofs)
 obtain⟨KS,hKS⟩ : ∃K,K=Aq qs:=⟨_,rfl⟩
 have hres : ∀k,k≤KS.length→True:=fun _ _=>trivial
 refine Bm [(.cell (M.length+1) 4,77,2)] (X:=Nat) (fun k=>k≤KS.length∧∀x∈KS.take k,Ah (As qs x)=true)
  (fun k=>[(0,.ptr b 0),(6,.ptr M.length 0),(8,.ptr (M.length+1) 0),(36,.t (.sl (KS.map fun n=>[T.int .i64 n]))),(37,vI KS.length),(38,vI k)])
  (fun k=>⟨M++[.cells [vI 0,vI 0,vI 0,vI 0,.snil],.cells [vI 10,vI s.ent,vI oth,vI rule,.own 0 77 2 ((pre qs (KS.take k)).map Part.c)]],[(pre qs (KS.take k)).length]⟩) (fun k=>KS.length-k) 0 ⟨by omega,by simp⟩ ?hs ?_
 case hs=>
  have hle:=fun (l l':List Bx) n m h=>A6.appU (l:=l) (l':=l') (hMU n m h)
  have e0:pre qs []=[]:=rfl
  rw [hKS]
  simp [g1,s1,e0,hle,E.leB,A3,okNs,okN]
  omega
 have hzero : ∀(e:Int),True:=fun _=>trivial
 rintro k ⟨hk1,hk2⟩ hbd
 clear hbd
 have hpl2:=Vn qs (KS.take k)
 rw [List.length_take] at hpl2
 have hmin:min k KS.length=k:=by omega
 have hklen:KS.length≤8001:=by rw [hKS];exact hkl'
 have e3:IntKind.i64.wrap ((k:Int)+1)=(k:Int)+1:=wrap64 (by omega) (by omega)
 have hle:=fun (l l':List Bx) n m h=>A6.appU (l:=l) (l':=l') (hMU n m h)
 rcases Nat.lt_or_ge k KS.length with h|h
 ·obtain⟨x,hx⟩:=Aa h
  have hxm:x∈Aq qs:=by rw [←hKS];exact List.mem_of_getElem? hx
  have hfm:=L7 vI x (B6 qs)
  have hps2:=En qs x
  have ha:=P8 (As qs x)
  have hsn:=Rj qs (KS.take k) x
  have htn:=Ag hx
  have g3:(KS.map fun n=>[T.int .i64 n])[k]?=some [T.int .i64 x]:=by simp [hx]
  have g4 : ∀hi,(KS.map fun n=>[T.int .i64 n])[k]'hi=[T.int .i64 x]:=fun hi=>by rw [List.getElem?_eq_getElem hi] at g3;exact Option.some.inj g3
  generalize hv:As qs x=v at *
  cases hb2:Ah v
  ·rw [hb2] at ha
   have hbad:=Mk qs hxm (by rw [hv];exact hb2)
   rw [hbad]
   ((try simp at ha);(try simp -implicitDefEqProofs [h,g3,g4,hMbE,hMmE,g1,gz,s0,s1,hfm,hps2,Bn,peV,pV,Bb]);repeat' first|(with_reducible apply A0<;>first|(simp only [eras,era,A1];first|with_reducible assumption)|(simp -implicitDefEqProofs [h,g3,g4,hMbE,hMmE,g1,gz,s0,s1,hfm,hps2,Bn,peV,pV,Bb])))
   exact⟨by omega,hfinal _ _ _ (Nat.le_refl _)⟩
  ·rw [hb2] at ha
   have hk2' : ∀y∈KS.take (k+1),Ah (As qs y)=true:=fun y hy=>by
    rw [htn] at hy
    rcases List.mem_append.1 hy with hy|hy
    ·exact hk2 y hy
    ·simp at hy;subst hy;rw [hv];exact hb2
   rw [←htn] at hsn
   by_cases v0:v=0
   ·rw [if_pos v0,List.append_nil] at hsn
    subst v0
    ((try simp at ha);(try simp -implicitDefEqProofs [h,g3,g4,hMbE,hMmE,g1,gz,s0,s1,hfm,hps2,e3]);repeat' first|(with_reducible apply A0<;>first|(simp only [eras,era,A1];first|with_reducible assumption)|(simp -implicitDefEqProofs [h,g3,g4,hMbE,hMmE,g1,gz,s0,s1,hfm,hps2,e3])))
    refine⟨k+1,⟨by omega,hk2'⟩,by omega,?_⟩
    rw [hsn]
    simp [hle,E.leB,A3,okNs,okN]
    omega
   ·rw [if_neg v0] at hsn
    have v1:(v != 0)=true:=by simpa using v0
    ((try simp at ha);(try simp -implicitDefEqProofs [h,g3,g4,hMbE,hMmE,g1,gz,s0,s1,hfm,hps2,e3,v0,v1,maxLen]);repeat' first|(with_reducible apply A0<;>first|(simp only [eras,era,A1];first|with_reducible assumption)|(simp -implicitDefEqProofs [h,g3,g4,hMbE,hMmE,g1,gz,s0,s1,hfm,hps2,e3,v0,v1,maxLen])))
    refine⟨⟨by omega,by omega⟩,k+1,⟨by omega,hk2'⟩,by omega,?_⟩
    rw [hsn]
    simp [hle,E.leB,A3,okNs,okN,Part.c]
    omega
 ·have hkk:k=KS.length:=by omega
  subst hkk
  rw [List.take_of_length_le (Nat.le_refl _)] at hk2 ⊢
  have hgood:=Mj qs (by rw [←hKS];exact hk2)
  rw [←hKS] at hgood
  rw [hgood]
  generalize pre qs KS=q at *
  by_cases q0:q=[]
  ·subst q0
   (try simp -implicitDefEqProofs [h,hMbE,hMmE,g1,gz,s0,s1,Bn,peV,pV,Bb,F8])
   exact⟨by omega,hfinal _ _ _ (Nat.le_refl _)⟩
  ·have q1:((q.length:Int)==0)=false:=by simp [q0]
   (try simp -implicitDefEqProofs [h,hMbE,hMmE,g1,gz,s0,s1,Bn,peV,pV,F8,q0,q1])
   exact⟨by omega,hfinal _ _ _ (Nat.le_refl _)⟩
theorem A7o (sb kb n:Nat) (B:List Bx) (hU : ∀m,A6 B.length m B B) (cs:List V) (v:Int) (h1:B[sb]?=some (.cells [.bw kb (n+1)])) (h2:B[kb]?=some (.buf 3 1 cs)) (h3:cs[n]?=some (vI v)) (hn:n+1≤1000000) :
  FnS Tryz.prog 108 [.ptr sb 0] ⟨B,[]⟩ (vI v) ⟨B.set sb (.cells [.bw kb n]),[]⟩:=by
 have hkb:=A4 h2
 have hcn:=A4 h3
 have e1:IntKind.i64.wrap (n:Int)=(n:Int):=Ek (by omega)
 have j3:n+1≤cs.length:=by omega
 have j1:(n:Int)<(n:Int)+1:=by omega
 have j2:(n:Int)≤(n:Int)+1:=by omega
 have h3' : ∀h,cs[n]'h=vI v:=fun h=>by rw [List.getElem?_eq_getElem h] at h3;exact Option.some.inj h3
 have hfin:A6 B.length 0 (B.set sb (.cells [.bw kb n])) (B.set sb (.cells [.bw kb n])):=A6.set (show E.leB B.length 0 (.cells _) (.cells _) from ⟨A3 _,by simp [okNs,okN];exact hkb⟩) sb (hU 0)
 (refine FnS.of_code mix Tryz.call108 k_108 (by simp) (fun hB=>?_);(try simp at hB);(try simp -implicitDefEqProofs))
 ((try simp -implicitDefEqProofs [h1,h2,h3,h3',e1,j1,j2,j3,hcn,hfin]);repeat' first|((with_reducible first|apply Ac|apply Ad|apply A5)<;>(intro hc;have hc':=hc;(try simp at hc');simp -implicitDefEqProofs [hc,hc',h1,h2,h3,h3',e1,j1,j2,j3,hcn,hfin])))
end Go.Proofs.YtmlpmdccfmmpoaaGreatDoor
section
set_option linter.unusedVariables false
namespace Go.Proofs.YtmlpmdccfmmpoaaGreatDoor
namespace E
theorem FnS.of_codeV {P:Program} (hmix:P.follows .mixedOrders=true) {f N:Nat} {c:EC} {rs:List RV} {vs:List V} {S S':St} {r:V} (hE:B4 P f) (hc:ecG true true P f=some (N,c,rs)) (hlen:vs.length≤N)
  (h:bdVs vs→ewp P S.boxes.length S.toks.length c (I2 rs S.boxes.length S.toks.length r S') (fr0 vs) S):FnS P f vs S r S':=FnS.of_bd hE fun hb=>FnS.of_codeG hmix hE hc hlen (h hb)
end E
end Go.Proofs.YtmlpmdccfmmpoaaGreatDoor
end
