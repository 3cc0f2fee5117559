/- Chapter 35: a code is executed; its boxes. -/
import Derived.Test.YtmlpmdccfmmpoaaGreatDoorExV
import Derived.Test.YtmlpmdccfmmpoaaGreatDoorCodeB
import Derived.Test.YtmlpmdccfmmpoaaGreatDoorIn6
set_option linter.unusedSimpArgs false
set_option linter.unusedVariables false
set_option maxHeartbeats 4000000
set_option maxRecDepth 8000
namespace Go.Proofs.YtmlpmdccfmmpoaaGreatDoor
open E

def MB (B:List Bx) (b mb:Nat) (s:Src) (oth:Int) (lv:V) (ps:List Part):List Bx:=(B.set mb (.mp (mI vI (B6 ps)))).set b (.cells (mC s oth lv mb (ps.map Part.amt).sum))
section
variable {B:List Bx} {b mb:Nat} {s:Src} {oth:Int} {lv lv':V} {ps ps':List Part}
theorem G6:(MB B b mb s oth lv ps).length=B.length:=by simp [MB]
theorem A5k (hb:b<B.length):(MB B b mb s oth lv ps)[b]?=some (.cells (mC s oth lv mb (ps.map Part.amt).sum)):=by
 unfold MB;rw [List.getElem?_set_self (by simpa using hb)]
theorem A5l (hm:mb<B.length) (hne:b≠mb):(MB B b mb s oth lv ps)[mb]?=some (.mp (mI vI (B6 ps))):=by
 unfold MB;rw [List.getElem?_set_ne hne,List.getElem?_set_self hm]
theorem A5m (lv':V):(MB B b mb s oth lv ps).set b (.cells (mC s oth lv' mb (ps.map Part.amt).sum))=MB B b mb s oth lv' ps:=by
 unfold MB;rw [List.set_set]
theorem Pa (hne:b≠mb):((MB B b mb s oth lv ps).set mb (.mp (mI vI (B6 ps')))).set b (.cells (mC s oth lv mb (ps'.map Part.amt).sum))=MB B b mb s oth lv ps':=by
 unfold MB;rw [List.set_comm _ _ hne,List.set_set,List.set_set]
theorem O4 (hU:OkU B) (hm:mb<B.length) {n m:Nat} (hn:B.length≤n) (hlv:Uc n lv):A6 n m (MB B b mb s oth lv ps) (MB B b mb s oth lv ps):=by
 unfold MB
 exact A6.set (show E.leB n m (.cells _) (.cells _) from ⟨A3 _,by unfold mC;have:=hlv.ok (m:=m) (Nat.le_refl n);simp [okNs,okN,this];omega⟩) b (A6.set (Ea _) mb (hU n m hn))
theorem Lb (hU:OkU B) (l:List Bx) {n m:Nat} (hn:B.length≤n):A6 n m (MB B b mb s oth lv ps++l) ((B.set mb .dead).set b .dead):=by
 unfold MB
 exact A6.ext l (A6.set (show E.leB n m (.cells _) .dead from trivial) b (A6.set (show E.leB n m (.mp _) .dead from trivial) mb (hU n m hn)))
theorem Ml (hb:B[b]?=some (.cells (mC s oth .snil mb 0))) (hm:B[mb]?=some (.mp [])):MB B b mb s oth .snil []=B:=by
 have key : ∀(L:List Bx) (i:Nat) (v:Bx),L[i]?=some v→L.set i v=L:=fun L i v h=>by
  apply List.ext_getElem?
  intro j
  by_cases hj:i=j
  ·subst hj;rw [List.getElem?_set_self (A4 h),h]
  ·rw [List.getElem?_set_ne hj]
 have e1:(mI vI (B6 []):List (V×V))=[]:=rfl
 unfold MB
 rw [e1,key B mb _ hm]
 exact key B b _ hb
end
theorem Xe (l:List Item) (f t p q:Int):Az l f t true p=Az l f t true q:=by unfold Az;simp
def SvF (P:Nat) (sv:V) (st:List Int) (D:List Bx) (si:Nat):Prop:=(sv=.snil∧st=[])∨(sv=.bw (P+(si+3)) st.length∧∃cs,D[si]?=some (.buf 3 1 cs)∧cs.take st.length=st.reverse.map vI)
def LvF (P:Nat) (lv:V) (loc:List Int) (D:List Bx) (li:Nat):Prop:=(lv=.snil∧loc=[])∨(lv=.bw (P+(li+3)) loc.length∧D[li]?=some (.buf 3 1 (loc.map vI)))
structure RS where
 k:Nat
 st:List Int
 loc:List Int
 ps:List Part
 sv:V
 lv:V
 D:List Bx
 si:Nat
 li:Nat
structure RS.Ok (c:Code) (s:Src) (oth:Int) (R:Option (List Part)) (P:Nat) (X:RS):Prop where
 k:X.k≤c.ins.length
 mea : ∃sz,Cl c X.k=some (sz,(X.st.length:Int),(X.loc.length:Int))
 ex:Aw s oth (c.ins.drop X.k) X.st X.loc X.ps=R
 ast : ∀v∈X.st,Ah v=true
 alo : ∀v∈X.loc,Ah v=true
 aps : ∀p∈X.ps,Ah p.amt=true
 acc : ∀p∈X.ps,0≤p.acc∧p.acc≤1000000
 lps:X.ps.length≤X.k
 sv:SvF P X.sv X.st X.D X.si
 lv:LvF P X.lv X.loc X.D X.li
 ne:X.si≠X.li∨X.sv=.snil∨X.lv=.snil
 D : ∀n m,A6 n m X.D X.D
def kil (sv:V) (D:List Bx) (si:Nat):List Bx:=match sv with
 | .bw _ _=>D.set si .dead
 | _=>D
theorem Vo (sv:V) (D:List Bx) (si:Nat):(kil sv D si).length=D.length:=by unfold kil;split<;>simp
theorem A06 {sv:V} {D:List Bx} {si j:Nat} (h:si≠j∨sv=.snil):(kil sv D si)[j]?=D[j]?:=by
 rcases h with h|rfl
 ·unfold kil;split
  ·rw [List.getElem?_set_ne h]
  ·rfl
 ·rfl
theorem J4 {sv:V} {D:List Bx} {si:Nat} (hD : ∀n m,A6 n m D D) (n m:Nat):A6 n m (kil sv D si) (kil sv D si):=by
 unfold kil;split
 ·exact A6.set (show E.leB n m .dead .dead from trivial) si (hD n m)
 ·exact hD n m
theorem Hf (l:List Int) (n m:Nat):E.leB n m (.buf 3 1 (l.map vI)) (.buf 3 1 (l.map vI)):=⟨rfl,rfl,A3 _,Zz fun v hv=>by obtain⟨x,_,rfl⟩:=List.mem_map.1 hv;exact⟨_,rfl⟩⟩
theorem RS.pushed {c:Code} {s:Src} {oth:Int} {R:Option (List Part)} {P:Nat} {k:Nat} {st loc:List Int} {ps:List Part} {sv lv:V} {D:List Bx} {si li:Nat} (h:RS.Ok c s oth R P ⟨k,st,loc,ps,sv,lv,D,si,li⟩) (hk:k<c.ins.length) {st':List Int} (hst : ∀v∈st',Ah v=true) {sz:Int}
  (hm:Cl c (k+1)=some (sz,(st'.length:Int),(loc.length:Int))) (hex:Aw s oth (c.ins.drop (k+1)) st' loc ps=R) :
  RS.Ok c s oth R P ⟨k+1,st',loc,ps,.bw (P+(D.length+1+3)) st'.length,lv,kil sv D si++[.dead,.buf 3 1 (st'.reverse.map vI)],D.length+1,li⟩:=by
 have hkl:=Vo sv D si
 refine⟨hk,⟨_,hm⟩,hex,hst,h.alo,h.aps,h.acc,Nat.le_succ_of_le h.lps,.inr ⟨rfl,st'.reverse.map vI,?_,?_⟩,?_,?_,fun n m=>?_⟩
 ·simp only []
  rw [List.getElem?_append_right (by omega),hkl,Nat.add_sub_cancel_left];rfl
 ·rw [List.take_of_length_le (by simp)]
 ·rcases h.lv with h1|⟨h1,h2⟩
  ·exact .inl h1
  ·refine .inr ⟨h1,?_⟩
   have hl:=A4 h2
   simp only [] at h1 h2 hl ⊢
   rw [List.getElem?_append_left (by omega),A06]
   ·exact h2
   ·rcases h.ne with h3|h3|h3
    ·exact .inl h3
    ·exact .inr h3
    ·simp only [] at h3;rw [h3] at h1;cases h1
 ·rcases h.lv with ⟨h1,_⟩|⟨_,h2⟩
  ·exact .inr (.inr h1)
  ·have hl:=A4 h2
   simp only [] at hl ⊢
   exact .inl (by omega)
 ·exact (A6.appU (J4 h.D n m)).2 ⟨trivial,Hf _ _ _,trivial⟩
theorem RS.popped {c:Code} {s:Src} {oth:Int} {R:Option (List Part)} {P:Nat} {k:Nat} {st loc:List Int} {ps ps':List Part} {sv lv:V} {D:List Bx} {si li:Nat} (h:RS.Ok c s oth R P ⟨k,st,loc,ps,sv,lv,D,si,li⟩) (hk:k<c.ins.length) {sz:Int}
  (hm:Cl c (k+1)=some (sz,(([]:List Int).length:Int),(loc.length:Int))) (hex:Aw s oth (c.ins.drop (k+1)) [] loc ps'=R) (ha : ∀p∈ps',Ah p.amt=true) (hc : ∀p∈ps',0≤p.acc∧p.acc≤1000000) (hl:ps'.length≤k+1) {cs:List V} (hcs:D[si]?=some (.buf 3 1 cs)) {i j:Nat} (hsb:sv=.bw i j) :
  RS.Ok c s oth R P ⟨k+1,[],loc,ps',.bw (P+(si+3)) 0,lv,D++[.dead],si,li⟩:=by
 refine⟨hk,⟨_,hm⟩,hex,by simp,h.alo,ha,hc,hl,.inr ⟨rfl,cs,Ae hcs _,by simp⟩,?_,?_,fun n m=>(A6.appU (h.D n m)).2 ⟨trivial,trivial⟩⟩
 ·rcases h.lv with h1|⟨h1,h2⟩
  ·exact .inl h1
  ·exact .inr ⟨h1,Ae h2 _⟩
 ·rcases h.lv with ⟨h1,_⟩|⟨h1,h2⟩
  ·exact .inr (.inr h1)
  ·rcases h.ne with h3|h3|h3
   ·exact .inl h3
   ·simp only [] at h3
    rw [h3] at hsb;cases hsb
   ·simp only [] at h3 h1;rw [h3] at h1;cases h1
theorem RS.stored {c:Code} {s:Src} {oth:Int} {R:Option (List Part)} {P:Nat} {k:Nat} {st loc:List Int} {ps:List Part} {sv lv:V} {D:List Bx} {si li:Nat} (h:RS.Ok c s oth R P ⟨k,st,loc,ps,sv,lv,D,si,li⟩) (hk:k<c.ins.length) {sz v:Int} (hv:Ah v=true)
  (hm:Cl c (k+1)=some (sz,(([]:List Int).length:Int),((loc++[v]).length:Int))) (hex:Aw s oth (c.ins.drop (k+1)) [] (loc++[v]) ps=R) {cs:List V} (hcs:D[si]?=some (.buf 3 1 cs)) {i j:Nat} (hsb:sv=.bw i j) :
  RS.Ok c s oth R P ⟨k+1,[],loc++[v],ps,.bw (P+(si+3)) 0,.bw (P+(D.length+1+3)) (loc.length+1),kil lv D li++[.dead,.buf 3 1 ((loc++[v]).map vI)],si,D.length+1⟩:=by
 have hkl:=Vo lv D li
 have hsl:=A4 hcs
 have hne:li≠si∨lv=.snil:=by
  rcases h.ne with h3|h3|h3
  ·exact .inl (Ne.symm h3)
  ·simp only [] at h3;rw [h3] at hsb;cases hsb
  ·exact .inr h3
 refine⟨hk,⟨_,hm⟩,hex,by simp,fun w hw=>?_,h.aps,h.acc,Nat.le_succ_of_le h.lps,.inr ⟨rfl,cs,?_,by simp⟩,.inr ⟨by simp,?_⟩,.inl ?_,fun n m=>?_⟩
 ·rcases List.mem_append.1 hw with hw|hw
  ·exact h.alo w hw
  ·simp at hw;rw [hw];exact hv
 ·simp only []
  rw [List.getElem?_append_left (by omega),A06 hne];exact hcs
 ·simp only []
  rw [List.getElem?_append_right (by omega),hkl,Nat.add_sub_cancel_left];rfl
 ·simp only [];omega
 ·exact (A6.appU (J4 h.D n m)).2 ⟨trivial,Hf _ _ _,trivial⟩
theorem A07 {n m i j:Nat} {D:List Bx} {li:Nat} (hD : ∀n m,A6 n m D D) (x:Bx) (v:Int) (loc:List Int):A6 n m (D.set li .dead++[x,.buf 3 1 (loc.map vI++[vI v])]) (kil (.bw i j) D li++[.dead,.buf 3 1 ((loc++[v]).map vI)]):=by
 refine (A6.appU (J4 (sv:=.bw i j) hD n m)).2 ⟨trivial,?_,trivial⟩
 have:=Hf (loc++[v]) n m
 simpa using this
theorem Xf {n m:Nat} {D:List Bx} {li:Nat} (hD : ∀n m,A6 n m D D) (x:Bx) (v:Int):A6 n m (D++[x,.buf 3 1 [vI v]]) (kil .snil D li++[.dead,.buf 3 1 (([]++[v]:List Int).map vI)]):=
 (A6.appU (hD n m)).2 ⟨trivial,Hf [v] n m,trivial⟩
theorem Dl {n m i j:Nat} {D:List Bx} {si:Nat} (hD : ∀n m,A6 n m D D) (x:Bx) (v:Int) (st:List Int):A6 n m (D.set si .dead++[x,.buf 3 1 ((st.map vI).reverse++[vI v])]) (kil (.bw i j) D si++[.dead,.buf 3 1 ((v::st).reverse.map vI)]):=by
 refine (A6.appU (J4 (sv:=.bw i j) hD n m)).2 ⟨trivial,?_,trivial⟩
 have:=Hf (v::st).reverse n m
 simpa using this
theorem J5 {n m:Nat} {D:List Bx} {si:Nat} (hD : ∀n m,A6 n m D D) (x:Bx) (v:Int):A6 n m (D++[x,.buf 3 1 [vI v]]) (kil .snil D si++[.dead,.buf 3 1 ([v].reverse.map vI)]):=
 (A6.appU (hD n m)).2 ⟨trivial,Hf [v] n m,trivial⟩
theorem Bd {B:List Bx} {b mb:Nat} {c0:Code} {s:Src} {oth:Int} {R:Option (List Part)} {P k:Nat} {cn:List UInt8} {cp:Bool} {ins:List Ins} {z:RS} {M Da:List Bx} (hz:RS.Ok c0 s oth R P z) (hzk:z.k=k+1) (hk:k<ins.length) (hP:P=B.length) (hb:b<B.length) (hml:mb<B.length) (hU:OkU B)
  (hM:M=MB B b mb s oth z.lv z.ps) (hD : ∀n m,A6 n m Da z.D) (e3:IntKind.i64.wrap ((k:Int)+1)=(k:Int)+1) {sv:V} (hsv:sv=z.sv) :
  ∃z',RS.Ok c0 s oth R P z'∧ins.length-z'.k<ins.length-k∧P≤(MB B b mb s oth z'.lv z'.ps).length+(z'.D.length+1+1+1)∧
   A6 ((MB B b mb s oth z'.lv z'.ps).length+(z'.D.length+1+1+1)) 0 (M++Bx.cells [V.t (T.str cn),V.t (T.bool cp),V.t (T.sl (List.map Ins.c ins))]::Bx.cells [V.t (T.int IntKind.i64 0),V.t (T.int IntKind.i64 0),V.t (T.int IntKind.i64 0),V.t (T.int IntKind.i64 0),V.snil]::Bx.cells [sv]::Da)
    (MB B b mb s oth z'.lv z'.ps++Bx.cells [V.t (T.str cn),V.t (T.bool cp),V.t (T.sl (List.map Ins.c ins))]::Bx.cells [V.t (T.int IntKind.i64 0),V.t (T.int IntKind.i64 0),V.t (T.int IntKind.i64 0),V.t (T.int IntKind.i64 0),V.snil]::Bx.cells [z'.sv]::z'.D)∧
   b<(MB B b mb s oth z'.lv z'.ps).length+(z'.D.length+1+1+1)∧P+1<(MB B b mb s oth z'.lv z'.ps).length+(z'.D.length+1+1+1)∧P+2<(MB B b mb s oth z'.lv z'.ps).length+(z'.D.length+1+1+1)∧(z'.k:Int)=IntKind.i64.wrap ((k:Int)+1):=by
 have hlen:(MB B b mb s oth z.lv z.ps).length=P:=by rw [G6,hP]
 have hlvk:Uc (P+(z.D.length+1+1+1)) z.lv:=by
  rcases hz.lv with ⟨h1,_⟩|⟨h1,h2⟩
  ·exact .inl h1
  ·exact .inr ⟨_,_,h1,by have:=A4 h2;omega⟩
 have hsvk:okN (P+(z.D.length+1+1+1)) 0 z.sv=true:=by
  rcases hz.sv with ⟨h1,_⟩|⟨h1,cs,h2,_⟩
  ·rw [h1];rfl
  ·rw [h1];have:=A4 h2;simp [okN];omega
 refine⟨z,hz,by omega,by omega,?_,by omega,by omega,by omega,by rw [e3,hzk];push_cast;rfl⟩
 rw [hM,hlen,hsv]
 refine (A6.appU (O4 hU hml (by omega) hlvk)).2 ⟨⟨A3 _,rfl⟩,⟨A3 _,rfl⟩,⟨A3 _,by simp [okNs,hsvk]⟩,hD _ _⟩
theorem A08 {n:Int} (h:(Db n).2=true):Ah (Db n).1=true:=by
 unfold Db at h ⊢
 split at h
 ·rename_i hc;rw [if_pos hc];exact hc
 ·cases h
def AmP (r:Int×Bool):Prop:=r.2=true→Ah r.1=true
theorem AmP.ite {c:Prop} [Decidable c] {a b:Int×Bool} (h1:AmP a) (h2:AmP b):AmP (if c then a else b):=by split<;>assumption
theorem AmP.no:AmP (0,false):=fun h=>by cases h
theorem AmP.fin (n:Int):AmP (Db n):=A08
theorem Hg {op a x y:Int} (h:(opC op a x y).2=true):Ah (opC op a x y).1=true:=by
 rw [A7k] at h ⊢
 revert h
 show AmP (opR op a x y)
 unfold opR opG A2m
 repeat' first|exact AmP.no|exact AmP.fin _|apply AmP.ite
theorem A5n (b mb:Nat) (c:Code) (rule:Int) (B:List Bx) (hU:OkU B) (s:Src) (oth:Int) (hs:s.Ok) (hb:B[b]?=some (.cells (mC s oth .snil mb 0))) (hmb:B[mb]?=some (.mp [])) (hval:(D7 c).2=true) (hlen:c.ins.length≤8000) (hpair:c.pair=true→0≤oth) :
    FnS Tryz.prog 57 [.ptr b 0,c.v,vI rule] ⟨B,[]⟩ (peV (Bn s oth rule (Aw s oth c.ins [] [] []))) ⟨(B.set mb .dead).set b .dead,[]⟩:=by
  have hne:b≠mb:=fun e=>by rw [e,hmb] at hb;cases hb
  have hbl:=A4 hb
  have hml:=A4 hmb
  have hst:=Ml hb hmb
  obtain⟨R,hR⟩ : ∃R,R=Aw s oth c.ins [] [] []:=⟨_,rfl⟩
  rw [←hR]
  have hgz : ∀(l:List Bx),(B++l)[B.length]?=l[0]?:=fun l=>by rw [List.getElem?_append_right (by omega)];congr 1;omega
  have hg1 : ∀(l:List Bx) (j:Nat),(B++l)[B.length+j]?=l[j]?:=fun l j=>by rw [List.getElem?_append_right (by omega)];congr 1;omega
  have hs1 : ∀(l:List Bx) (j:Nat) (v:Bx),(B++l).set (B.length+j) v=B++l.set j v:=fun l j v=>by rw [List.set_append_right _ _ (by omega)];congr 2;omega
  obtain⟨cn,cp,ins⟩:=c
  simp only [] at hlen hpair
  obtain⟨c0,hc0⟩ : ∃c0:Code,c0=⟨cn,cp,ins⟩:=⟨_,rfl⟩
  have hci:c0.ins=ins:=by rw [hc0]
  rw [←hc0] at hval
  (refine FnS.of_codeV mix Tryz.call57 kv_57 (by simp) (fun hB=>?_);(try simp at hB);(try simp -implicitDefEqProofs))
  (try simp -implicitDefEqProofs [hgz,hg1,hs1])
  refine A7 (X:=RS) (fun X=>X.Ok c0 s oth R B.length)
    (fun X=>[(0,.ptr b 0),(2,vI rule),(6,.ptr (B.length+1) 0),(8,.ptr (B.length+2) 0),(9,.fn (.func 108) [.ptr (B.length+2) 0]),(17,Ins.l ins),(18,vI ins.length),(19,vI X.k)])
    (fun X=>⟨MB B b mb s oth X.lv X.ps++(.cells [vS cn,vB cp,Ins.l ins]::.cells [vI 0,vI 0,vI 0,vI 0,.snil]::.cells [X.sv]::X.D),[]⟩) (fun X=>ins.length-X.k) ⟨0,[],[],[],.snil,.snil,[],0,0⟩ ?h0 ?hs ?_
  case h0=>exact⟨by simp,⟨0,rfl⟩,by rw [hR,hc0];rfl,by simp,by simp,by simp,by simp,by simp,.inl ⟨rfl,rfl⟩,.inl ⟨rfl,rfl⟩,.inr (.inl rfl),fun n m=>trivial⟩
  case hs=>
    have hle:=fun (l l':List Bx) n m h=>A6.appU (l:=l) (l':=l') (hU n m h)
    simp [hst,hle,E.leB,A3,okNs,okN]
    omega
  rintro ⟨k,st,loc,ps,sv,lv,D,si,li⟩ hok hbd
  clear hbd
  obtain⟨P,hP⟩ : ∃P,P=B.length:=⟨_,rfl⟩
  rw [←hP] at hok
  obtain⟨hk,⟨sz,hmea⟩,hex,hast,halo,haps,hacc,hlps,hsv,hlv,hnn,hD⟩:=id hok
  simp only [] at hk hmea hex hast halo haps hacc hlps hsv hlv hnn hD
  rw [hci] at hk hex
  have e3:IntKind.i64.wrap ((k:Int)+1)=(k:Int)+1:=wrap64 (by omega) (by omega)
  obtain⟨M,hM⟩ : ∃M,M=MB B b mb s oth lv ps:=⟨_,rfl⟩
  have hML:M.length=B.length:=by rw [hM,G6]
  have hMb:M[b]?=some (.cells (mC s oth lv mb (ps.map Part.amt).sum)):=by rw [hM,A5k hbl]
  have hMm:M[mb]?=some (.mp (mI vI (B6 ps))):=by rw [hM,A5l hml hne]
  have hMbE : ∀l:List Bx,(M++l)[b]?=some (.cells (mC s oth lv mb (ps.map Part.amt).sum)):=fun l=>Ae hMb l
  have hMmE : ∀l:List Bx,(M++l)[mb]?=some (.mp (mI vI (B6 ps))):=fun l=>Ae hMm l
  rw [←hP] at hML
  have gz : ∀l:List Bx,(M++l)[P]?=l[0]?:=fun l=>by rw [List.getElem?_append_right (by omega)];congr 1;omega
  have g1 : ∀(l:List Bx) (j:Nat),(M++l)[P+j]?=l[j]?:=fun l j=>by rw [List.getElem?_append_right (by omega)];congr 1;omega
  have s1 : ∀(l:List Bx) (j:Nat) (v:Bx),(M++l).set (P+j) v=M++l.set j v:=fun l j v=>by rw [List.set_append_right _ _ (by omega)];congr 2;omega
  have dg : ∀(l:List Bx) (j:Nat),(D++l)[D.length+j]?=l[j]?:=fun l j=>by rw [List.getElem?_append_right (by omega)];congr 1;omega
  have dg0 : ∀(l:List Bx),(D++l)[D.length]?=l[0]?:=fun l=>by rw [List.getElem?_append_right (by omega)];congr 1;omega
  have ds0 : ∀(l:List Bx) (v:Bx),(D++l).set D.length v=D++l.set 0 v:=fun l v=>by rw [List.set_append_right _ _ (by omega)];simp
  rw [←hM]
  rcases Nat.lt_or_ge k ins.length with h|h
  · obtain⟨x,hx⟩:=Aa h
    have hxc:(ins.map Ins.c)[k]?=some x.c:=by simp [hx]
    have hxc' : ∀h,(ins.map Ins.c)[k]'h=x.c:=fun h=>by rw [List.getElem?_eq_getElem h] at hxc;exact Option.some.inj hxc
    obtain⟨op,xa,xb⟩:=x
    obtain⟨s',hst'⟩ : ∃s',Cz ins.length c0.pair k ⟨op,xa,xb⟩ (sz,(st.length:Int),(loc.length:Int))=some s':=by
      cases he:Cz ins.length c0.pair k ⟨op,xa,xb⟩ (sz,(st.length:Int),(loc.length:Int)) with
      | some s'=>exact⟨s',rfl⟩
      | none=>
        have:=Md hmea (by rw [hci];exact hx) (by rw [hci];exact he)
        rw [this] at hval;cases hval
    obtain⟨o1,o2,hdep,rfl⟩:=Vk hst'
    have hm1:=Jp hmea (show c0.ins[k]?=some ⟨op,xa,xb⟩ by rw [hci];exact hx)
    rw [hci,hst'] at hm1
    have hbad:Ev ins.length c0.pair k ⟨op,xa,xb⟩ (loc.length:Int)=false∧E1 op (st.length:Int)=false:=by
      unfold Cz at hst'
      split at hst'
      · cases hst'
      split at hst'
      · cases hst'
      · rename_i q1 q2;exact⟨by simpa using q1,by simpa using q2⟩
    simp only [] at o1 o2 hdep hm1 hbad
    have hdr:ins.drop k=⟨op,xa,xb⟩::ins.drop (k+1):=by
      obtain⟨h1,h2⟩:=List.getElem?_eq_some_iff.1 hx
      rw [List.drop_eq_getElem_cons h1,h2]
    rw [hdr] at hex
    simp only [Aw] at hex
    have hnum:E8 ⟨op,xa,xb⟩ c0.pair (loc.length:Int)=true:=by
      have:=hbad.1
      simp only [Ev,Bool.or_eq_false_iff] at this
      simpa using this.2
    have hmbd:=P6 hmea
    simp only [] at hmbd
    have hdl:st.length≤8000:=by omega
    have hlvk : ∀n,P+(D.length+3)≤n→Uc n lv:=fun n hn=>by
      rcases hlv with ⟨h1,_⟩|⟨h1,h2⟩
      · exact .inl h1
      · exact .inr ⟨_,_,h1,by have:=A4 h2;omega⟩
    have hfull : ∀(sv':V) (l:List Bx) (n m:Nat),P+(D.length+3)≤n→okN n m sv'=true→A6 n m l l→A6 n m (M++(.cells [vS cn,vB cp,Ins.l ins]::.cells [vI 0,vI 0,vI 0,vI 0,.snil]::.cells [sv']::(D++l))) (M++(.cells [vS cn,vB cp,Ins.l ins]::.cells [vI 0,vI 0,vI 0,vI 0,.snil]::.cells [sv']::(D++l))):=fun sv' l n m hn h1 h2=>by
      rw [hM]
      exact (A6.appU (O4 hU hml (by omega) (hlvk n hn))).2 ⟨⟨A3 _,rfl⟩,⟨A3 _,rfl⟩,⟨A3 _,by simp [okNs,h1]⟩,(A6.appU (hD n m)).2 h2⟩
    have hfullL : ∀(sv':V) (l:List Bx),(M++(.cells [vS cn,vB cp,Ins.l ins]::.cells [vI 0,vI 0,vI 0,vI 0,.snil]::.cells [sv']::(D++l))).length=P+(D.length+3)+l.length:=fun sv' l=>by simp;omega
    have hS : ∀(sv':V) (l:List Bx),okN (P+(D.length+3)+l.length) 0 sv'=true→(∀n,A6 n 0 l l)→OkS ⟨M++(.cells [vS cn,vB cp,Ins.l ins]::.cells [vI 0,vI 0,vI 0,vI 0,.snil]::.cells [sv']::(D++l)),[]⟩:=fun sv' l h1 h2=>
      ⟨by simp only [hfullL];exact hfull sv' l _ _ (by omega) h1 (h2 _),trivial⟩
    have hdead : ∀l:List Bx,A6 P 0 (M++l) ((B.set mb .dead).set b .dead):=fun l=>by rw [hM];exact Lb hU l (by omega)
    have hxb : ∀(a b c:Int) (n:Nat),A6 n 0 [.cells [vI a,vI b,vI c]] [.cells [vI a,vI b,vI c]]:=fun a b c n=>⟨⟨A3 _,rfl⟩,trivial⟩
    by_cases h1:op=1
    · subst h1
      have hxa:Ah xa=true:=by simp [E8] at hnum;exact hnum.1
      have hex1:Aw s oth (ins.drop (k+1)) (xa::st) loc ps=R:=by simpa [Cm,show tk 1=0 from rfl] using hex
      have hast1 : ∀w∈xa::st,Ah w=true:=fun w hw=>by
        rcases List.mem_cons.1 hw with rfl|hw
        · exact hxa
        · exact hast w hw
      have hm2:Cl c0 (k+1)=some (max sz ((st.length:Int)+(pt 1-tk 1)),((xa::st).length:Int),(loc.length:Int)):=by rw [hm1];simp [show pt 1=1 from rfl,show tk 1=0 from rfl]
      rcases hsv with ⟨rfl,rfl⟩|⟨rfl,cs,hcs,hct⟩
      · (try simp -implicitDefEqProofs [h,hxc,hxc',Ins.l,Ins.c,gz,g1,s1,dg,dg0,ds0,hML,←hP])
        refine⟨by unfold maxLen;omega,Bd (RS.pushed hok (by rw [hci];exact h) hast1 hm2 (by rw [hci];exact hex1)) rfl h hP hbl hml hU hM ?_ e3 rfl⟩
        exact fun n m=>J5 hD _ _
      · skip
        have hsl:=A4 hcs
        have c1 : ∀l:List Bx,(D++l)[si]?=some (.buf 3 1 cs):=fun l=>Ae hcs l
        have c2 : ∀(l:List Bx) (v:Bx),(D++l).set si v=D.set si v++l:=fun l v=>List.set_append_left _ _ hsl
        have hctl:st.length≤cs.length:=by have:=congrArg List.length hct;simp at this;omega
        (try simp -implicitDefEqProofs [h,hxc,hxc',Ins.l,Ins.c,gz,g1,s1,dg,dg0,ds0,hML,←hP,c1,c2,hct])
        refine⟨⟨by omega,by unfold maxLen;omega,by omega⟩,Bd (RS.pushed hok (by rw [hci];exact h) hast1 hm2 (by rw [hci];exact hex1)) rfl h hP hbl hml hU hM ?_ e3 rfl⟩
        exact fun n m=>Dl hD _ _ _
    by_cases h2:op=2
    · subst h2
      have hxl:0≤xa∧xa<loc.length:=by simp [E8] at hnum;exact⟨hnum.1.1,hnum.1.2⟩
      obtain⟨i,rfl⟩ : ∃i:Nat,xa=i:=⟨xa.toNat,by omega⟩
      obtain⟨v,hv⟩:=Aa (show i<loc.length by omega)
      have hxa:Ah v=true:=halo v (List.mem_of_getElem? hv)
      have hex1:Aw s oth (ins.drop (k+1)) (v::st) loc ps=R:=by simpa [Cm,show tk 2=0 from rfl,List.getD_eq_getElem?_getD,hv] using hex
      obtain⟨hlv1,hlv2⟩:lv=.bw (P+(li+3)) loc.length∧D[li]?=some (.buf 3 1 (loc.map vI)):=by
        rcases hlv with ⟨_,h2⟩|h2
        · rw [h2] at hv;simp at hv
        · exact h2
      have d1 : ∀l:List Bx,(D++l)[li]?=some (.buf 3 1 (loc.map vI)):=fun l=>Ae hlv2 l
      have d2:(loc.map vI)[i]?=some (vI v):=by simp [hv]
      have d2' : ∀h,(loc.map vI)[i]'h=vI v:=fun h=>by rw [List.getElem?_eq_getElem h] at d2;exact Option.some.inj d2
      have hil:i+1≤loc.length:=by omega
      have hil2:i<loc.length:=by omega
      have hMbE':=hMbE
      rw [hlv1] at hMbE'
      unfold mC at hMbE'
      have hast1 : ∀w∈v::st,Ah w=true:=fun w hw=>by
        rcases List.mem_cons.1 hw with rfl|hw
        · exact hxa
        · exact hast w hw
      have hm2:Cl c0 (k+1)=some (max sz ((st.length:Int)+(pt 2-tk 2)),((v::st).length:Int),(loc.length:Int)):=by rw [hm1];simp [show pt 2=1 from rfl,show tk 2=0 from rfl]
      rcases hsv with ⟨rfl,rfl⟩|⟨rfl,cs,hcs,hct⟩
      · (try simp -implicitDefEqProofs [h,hxc,hxc',Ins.l,Ins.c,gz,g1,s1,dg,dg0,ds0,hML,←hP,hMbE',d1,d2,d2',hil,hil2])
        refine⟨by unfold maxLen;omega,Bd (RS.pushed hok (by rw [hci];exact h) hast1 hm2 (by rw [hci];exact hex1)) rfl h hP hbl hml hU hM ?_ e3 rfl⟩
        exact fun n m=>J5 hD _ _
      · skip
        have hsl:=A4 hcs
        have c1 : ∀l:List Bx,(D++l)[si]?=some (.buf 3 1 cs):=fun l=>Ae hcs l
        have c2 : ∀(l:List Bx) (v:Bx),(D++l).set si v=D.set si v++l:=fun l v=>List.set_append_left _ _ hsl
        have hctl:st.length≤cs.length:=by have:=congrArg List.length hct;simp at this;omega
        (try simp -implicitDefEqProofs [h,hxc,hxc',Ins.l,Ins.c,gz,g1,s1,dg,dg0,ds0,hML,←hP,c1,c2,hct,hMbE',d1,d2,d2',hil,hil2])
        refine⟨⟨by omega,by unfold maxLen;omega,by omega⟩,Bd (RS.pushed hok (by rw [hci];exact h) hast1 hm2 (by rw [hci];exact hex1)) rfl h hP hbl hml hU hM ?_ e3 rfl⟩
        exact fun n m=>Dl hD _ _ _
    by_cases h3:op=3
    · subst h3
      have hread : ∀(sv':V) (l:List Bx),okN (P+(D.length+3)+l.length) 0 sv'=true→(∀n,A6 n 0 l l)→FnS Tryz.prog 71 [.ptr b 0,vI xa,vI xb,vI (-1)] ⟨M++(.cells [vS cn,vB cp,Ins.l ins]::.cells [vI 0,vI 0,vI 0,vI 0,.snil]::.cells [sv']::(D++l)),[]⟩ (.tup [vI (Az s.items xa xb true 0),vB (Ah (Az s.items xa xb true 0))]) ⟨M++(.cells [vS cn,vB cp,Ins.l ins]::.cells [vI 0,vI 0,vI 0,vI 0,.snil]::.cells [sv']::(D++l)),[]⟩:=fun sv' l h1 h2=>by
        have:=P9 b xa xb (-1) _ (hS sv' l h1 h2) s oth lv mb (ps.map Part.amt).sum hs (hMbE _)
        rw [show decide ((-1:Int)<0)=true from rfl,Xe _ _ _ (-1) 0] at this
        exact this
      have hval4:Cm s oth ⟨3,xa,xb⟩ st loc=(Az s.items xa xb true 0,Ah (Az s.items xa xb true 0)):=by simp [Cm]
      rw [hval4] at hex
      obtain⟨N,hN⟩ : ∃N,N=Az s.items xa xb true 0:=⟨_,rfl⟩
      rw [←hN] at hread hex
      have hex:(if Ah N=true then Aw s oth (ins.drop (k+1)) (N::st) loc ps else none)=R:=by simpa [show tk 3=0 from rfl] using hex
      cases hxa:Ah N
      · rw [hxa] at hex hread
        simp only [Bool.false_eq_true,if_false] at hex
        rw [←hex]
        rcases hsv with ⟨rfl,rfl⟩|⟨rfl,cs,hcs,hct⟩
        · (try simp -implicitDefEqProofs [h,hxc,hxc',Ins.l,Ins.c,gz,g1,s1,dg,dg0,ds0,hML,←hP])
          refine Ab (hread _ _ rfl (hxb _ _ _)) ?_
          (try simp -implicitDefEqProofs [h,hxc,hxc',Ins.l,Ins.c,gz,g1,s1,dg,dg0,ds0,hML,←hP,hxa,Bn,peV,pV,Bb])
          exact hdead _
        · skip
          have hsl:=A4 hcs
          have c1 : ∀l:List Bx,(D++l)[si]?=some (.buf 3 1 cs):=fun l=>Ae hcs l
          have c2 : ∀(l:List Bx) (v:Bx),(D++l).set si v=D.set si v++l:=fun l v=>List.set_append_left _ _ hsl
          have hctl:st.length≤cs.length:=by have:=congrArg List.length hct;simp at this;omega
          (try simp -implicitDefEqProofs [h,hxc,hxc',Ins.l,Ins.c,gz,g1,s1,dg,dg0,ds0,hML,←hP,c1,c2,hct])
          refine Ab (hread _ _ (by simp [okN];omega) (hxb _ _ _)) ?_
          (try simp -implicitDefEqProofs [h,hxc,hxc',Ins.l,Ins.c,gz,g1,s1,dg,dg0,ds0,hML,←hP,hxa,Bn,peV,pV,Bb])
          exact hdead _
      · rw [hxa] at hex hread
        have hex1:Aw s oth (ins.drop (k+1)) (N::st) loc ps=R:=by simpa using hex
        have hast1 : ∀w∈N::st,Ah w=true:=fun w hw=>by
          rcases List.mem_cons.1 hw with rfl|hw
          · exact hxa
          · exact hast w hw
        have hm2:Cl c0 (k+1)=some (max sz ((st.length:Int)+(pt 3-tk 3)),((N::st).length:Int),(loc.length:Int)):=by rw [hm1];simp [show pt 3=1 from rfl,show tk 3=0 from rfl]
        rcases hsv with ⟨rfl,rfl⟩|⟨rfl,cs,hcs,hct⟩
        · (try simp -implicitDefEqProofs [h,hxc,hxc',Ins.l,Ins.c,gz,g1,s1,dg,dg0,ds0,hML,←hP])
          refine Ab (hread _ _ rfl (hxb _ _ _)) ?_
          (try simp -implicitDefEqProofs [h,hxc,hxc',Ins.l,Ins.c,gz,g1,s1,dg,dg0,ds0,hML,←hP,hxa])
          refine⟨by unfold maxLen;omega,Bd (RS.pushed hok (by rw [hci];exact h) hast1 hm2 (by rw [hci];exact hex1)) rfl h hP hbl hml hU hM ?_ e3 rfl⟩
          exact fun n m=>J5 hD _ _
        · skip
          have hsl:=A4 hcs
          have c1 : ∀l:List Bx,(D++l)[si]?=some (.buf 3 1 cs):=fun l=>Ae hcs l
          have c2 : ∀(l:List Bx) (v:Bx),(D++l).set si v=D.set si v++l:=fun l v=>List.set_append_left _ _ hsl
          have hctl:st.length≤cs.length:=by have:=congrArg List.length hct;simp at this;omega
          (try simp -implicitDefEqProofs [h,hxc,hxc',Ins.l,Ins.c,gz,g1,s1,dg,dg0,ds0,hML,←hP,c1,c2,hct])
          refine Ab (hread _ _ (by simp [okN];omega) (hxb _ _ _)) ?_
          (try simp -implicitDefEqProofs [h,hxc,hxc',Ins.l,Ins.c,gz,g1,s1,dg,dg0,ds0,hML,←hP,hxa,c1,c2,hct])
          refine⟨⟨by omega,by unfold maxLen;omega,by omega⟩,Bd (RS.pushed hok (by rw [hci];exact h) hast1 hm2 (by rw [hci];exact hex1)) rfl h hP hbl hml hU hM ?_ e3 rfl⟩
          exact fun n m=>Dl hD _ _ _
    by_cases h4:op=4
    · subst h4
      have hoth:0≤oth:=hpair (by have:=hnum;rw [hc0] at this;simp [E8] at this;exact this.2)
      have hMbE':=hMbE
      unfold mC at hMbE'
      have hread : ∀(sv':V) (l:List Bx),okN (P+(D.length+3)+l.length) 0 sv'=true→(∀n,A6 n 0 l l)→FnS Tryz.prog 71 [.ptr b 0,vI xa,vI xb,vI oth] ⟨M++(.cells [vS cn,vB cp,Ins.l ins]::.cells [vI 0,vI 0,vI 0,vI 0,.snil]::.cells [sv']::(D++l)),[]⟩ (.tup [vI (Az s.items xa xb false oth),vB (Ah (Az s.items xa xb false oth))]) ⟨M++(.cells [vS cn,vB cp,Ins.l ins]::.cells [vI 0,vI 0,vI 0,vI 0,.snil]::.cells [sv']::(D++l)),[]⟩:=fun sv' l h1 h2=>by
        have:=P9 b xa xb oth _ (hS sv' l h1 h2) s oth lv mb (ps.map Part.amt).sum hs (hMbE _)
        rw [show decide (oth<0)=false by simp;exact hoth] at this
        exact this
      have hval4:Cm s oth ⟨4,xa,xb⟩ st loc=(Az s.items xa xb false oth,Ah (Az s.items xa xb false oth)):=by simp [Cm]
      rw [hval4] at hex
      obtain⟨N,hN⟩ : ∃N,N=Az s.items xa xb false oth:=⟨_,rfl⟩
      rw [←hN] at hread hex
      have hex:(if Ah N=true then Aw s oth (ins.drop (k+1)) (N::st) loc ps else none)=R:=by simpa [show tk 4=0 from rfl] using hex
      cases hxa:Ah N
      · rw [hxa] at hex hread
        simp only [Bool.false_eq_true,if_false] at hex
        rw [←hex]
        rcases hsv with ⟨rfl,rfl⟩|⟨rfl,cs,hcs,hct⟩
        · (try simp -implicitDefEqProofs [h,hxc,hxc',Ins.l,Ins.c,gz,g1,s1,dg,dg0,ds0,hML,←hP,hMbE'])
          refine Ab (hread _ _ rfl (hxb _ _ _)) ?_
          (try simp -implicitDefEqProofs [h,hxc,hxc',Ins.l,Ins.c,gz,g1,s1,dg,dg0,ds0,hML,←hP,hMbE',hxa,Bn,peV,pV,Bb])
          exact hdead _
        · skip
          have hsl:=A4 hcs
          have c1 : ∀l:List Bx,(D++l)[si]?=some (.buf 3 1 cs):=fun l=>Ae hcs l
          have c2 : ∀(l:List Bx) (v:Bx),(D++l).set si v=D.set si v++l:=fun l v=>List.set_append_left _ _ hsl
          have hctl:st.length≤cs.length:=by have:=congrArg List.length hct;simp at this;omega
          (try simp -implicitDefEqProofs [h,hxc,hxc',Ins.l,Ins.c,gz,g1,s1,dg,dg0,ds0,hML,←hP,c1,c2,hct,hMbE'])
          refine Ab (hread _ _ (by simp [okN];omega) (hxb _ _ _)) ?_
          (try simp -implicitDefEqProofs [h,hxc,hxc',Ins.l,Ins.c,gz,g1,s1,dg,dg0,ds0,hML,←hP,hMbE',hxa,Bn,peV,pV,Bb])
          exact hdead _
      · rw [hxa] at hex hread
        have hex1:Aw s oth (ins.drop (k+1)) (N::st) loc ps=R:=by simpa using hex
        have hast1 : ∀w∈N::st,Ah w=true:=fun w hw=>by
          rcases List.mem_cons.1 hw with rfl|hw
          · exact hxa
          · exact hast w hw
        have hm2:Cl c0 (k+1)=some (max sz ((st.length:Int)+(pt 4-tk 4)),((N::st).length:Int),(loc.length:Int)):=by rw [hm1];simp [show pt 4=1 from rfl,show tk 4=0 from rfl]
        rcases hsv with ⟨rfl,rfl⟩|⟨rfl,cs,hcs,hct⟩
        · (try simp -implicitDefEqProofs [h,hxc,hxc',Ins.l,Ins.c,gz,g1,s1,dg,dg0,ds0,hML,←hP,hMbE'])
          refine Ab (hread _ _ rfl (hxb _ _ _)) ?_
          (try simp -implicitDefEqProofs [h,hxc,hxc',Ins.l,Ins.c,gz,g1,s1,dg,dg0,ds0,hML,←hP,hMbE',hxa])
          refine⟨by unfold maxLen;omega,Bd (RS.pushed hok (by rw [hci];exact h) hast1 hm2 (by rw [hci];exact hex1)) rfl h hP hbl hml hU hM ?_ e3 rfl⟩
          exact fun n m=>J5 hD _ _
        · skip
          have hsl:=A4 hcs
          have c1 : ∀l:List Bx,(D++l)[si]?=some (.buf 3 1 cs):=fun l=>Ae hcs l
          have c2 : ∀(l:List Bx) (v:Bx),(D++l).set si v=D.set si v++l:=fun l v=>List.set_append_left _ _ hsl
          have hctl:st.length≤cs.length:=by have:=congrArg List.length hct;simp at this;omega
          (try simp -implicitDefEqProofs [h,hxc,hxc',Ins.l,Ins.c,gz,g1,s1,dg,dg0,ds0,hML,←hP,c1,c2,hct,hMbE'])
          refine Ab (hread _ _ (by simp [okN];omega) (hxb _ _ _)) ?_
          (try simp -implicitDefEqProofs [h,hxc,hxc',Ins.l,Ins.c,gz,g1,s1,dg,dg0,ds0,hML,←hP,hMbE',hxa,c1,c2,hct])
          refine⟨⟨by omega,by unfold maxLen;omega,by omega⟩,Bd (RS.pushed hok (by rw [hci];exact h) hast1 hm2 (by rw [hci];exact hex1)) rfl h hP hbl hml hU hM ?_ e3 rfl⟩
          exact fun n m=>Dl hD _ _ _
    have hpopG : ∀(n:Nat) (v:Int) (cs:List V) (xb:Bx),(∀m,A6 (P+(D.length+3)+1) m [xb] [xb])→D[si]?=some (.buf 3 1 cs)→cs[n]?=some (vI v)→n+1≤8000→
        FnS Tryz.prog 108 [.ptr (P+2) 0] ⟨M++(.cells [vS cn,vB cp,Ins.l ins]::.cells [vI 0,vI 0,vI 0,vI 0,.snil]::.cells [.bw (P+(si+3)) (n+1)]::(D++[xb])),[]⟩ (vI v) ⟨M++(.cells [vS cn,vB cp,Ins.l ins]::.cells [vI 0,vI 0,vI 0,vI 0,.snil]::.cells [.bw (P+(si+3)) n]::(D++[xb])),[]⟩:=fun n v cs xb h0 h1 h2 h3=>by
      have hsl:=A4 h1
      have:=A7o (P+2) (P+(si+3)) n (M++(.cells [vS cn,vB cp,Ins.l ins]::.cells [vI 0,vI 0,vI 0,vI 0,.snil]::.cells [.bw (P+(si+3)) (n+1)]::(D++[xb]))) (fun m=>by rw [hfullL];exact hfull _ _ _ _ (by simp) (by simp [okN];omega) (h0 m)) cs v (by rw [g1];rfl) (by rw [g1];show (D++[xb])[si]?=_;exact Ae h1 _) h2 (by omega)
      rw [s1] at this
      exact this
    by_cases h7:op=7
    · subst h7
      obtain⟨v0,st0,rfl⟩ : ∃v0 st0,st=v0::st0:=by
        cases st with
        | nil=>exact absurd hdep (by simp [show tk 7=1 from rfl])
        | cons a l=>exact⟨a,l,rfl⟩
      rcases hsv with ⟨_,h0⟩|⟨rfl,cs,hcs,hct⟩
      · cases h0
      have hv0:=hast v0 (by simp)
      have hsl:=A4 hcs
      have hct':cs.take (st0.length+1)=st0.reverse.map vI++[vI v0]:=by have:=hct;simpa using this
      have hct0:cs.take st0.length=st0.reverse.map vI:=by
        have:=congrArg (List.take st0.length) hct'
        rwa [List.take_take,Nat.min_eq_left (by omega),List.take_left' (by simp)] at this
      have hcl:st0.length+1≤cs.length:=by have:=congrArg List.length hct';simp at this;omega
      have hcv:cs[st0.length]?=some (vI v0):=by
        have:=congrArg (fun l:List V=>l[st0.length]?) hct'
        simp only [List.getElem?_take] at this
        rw [if_pos (by omega),List.getElem?_append_right (by simp)] at this
        simpa using this
      have hd0:st0.length+1≤8000:=by simpa using hdl
      have c1 : ∀l:List Bx,(D++l)[si]?=some (.buf 3 1 cs):=fun l=>Ae hcs l
      have c2 : ∀(l:List Bx) (v:Bx),(D++l).set si v=D.set si v++l:=fun l v=>List.set_append_left _ _ hsl
      have hctr:cs.take st0.length=(st0.map vI).reverse:=by rw [hct0];simp
      have hpop:=fun (xb:Bx) (hx : ∀m,A6 (P+(D.length+3)+1) m [xb] [xb])=>hpopG st0.length v0 cs xb hx hcs hcv hd0
      have hval:Cm s oth ⟨7,xa,xb⟩ (v0::st0) loc=El v0 s:=by simp [Cm]
      rw [hval] at hex
      have hsh:=fun (sv':V) (l:List Bx) (h1:okN (P+(D.length+3)+l.length) 0 sv'=true) (h2 : ∀n,A6 n 0 l l)=>Vm b v0 _ (hS sv' l h1 h2) s oth lv mb (ps.map Part.amt).sum hs (hMbE _)
      obtain⟨r,hr⟩ : ∃r,r=El v0 s:=⟨_,rfl⟩
      rw [←hr] at hex hsh
      have hsam:r.2=true→Ah r.1=true:=fun h=>by
        rw [hr] at h ⊢
        unfold El at h ⊢
        split at h
        · rename_i hc;rw [if_pos hc];exact hc.2
        · cases h
      obtain⟨r1,r2⟩:=r
      simp only [] at hex hsh hsam
      cases hok2:r2
      · rw [hok2] at hex
        simp only [Bool.false_eq_true,if_false] at hex
        rw [←hex]
        rw [hok2] at hsh
        (try simp -implicitDefEqProofs [h,hxc,hxc',Ins.l,Ins.c,gz,g1,s1,dg,dg0,ds0,hML,←hP,c1,c2])
        refine Ab (hpop _ (fun m=>⟨⟨A3 _,rfl⟩,trivial⟩)) ?_
        (try simp -implicitDefEqProofs [h,hxc,hxc',Ins.l,Ins.c,gz,g1,s1,dg,dg0,ds0,hML,←hP,c1,c2])
        refine Ab (hsh _ _ (by simp [okN];omega) (hxb _ _ _)) ?_
        (try simp -implicitDefEqProofs [h,hxc,hxc',Ins.l,Ins.c,gz,g1,s1,dg,dg0,ds0,hML,←hP,c1,c2,hctr,Bn,peV,pV,Bb])
        all_goals exact hdead _
      · rw [hok2] at hex
        have hex1:Aw s oth (ins.drop (k+1)) (r1::st0) loc ps=R:=by simpa [show tk 7=1 from rfl] using hex
        rw [hok2] at hsh
        have hxa:=hsam hok2
        have hast1 : ∀w∈r1::st0,Ah w=true:=fun w hw=>by
          rcases List.mem_cons.1 hw with rfl|hw
          · exact hxa
          · exact hast w (by simp [hw])
        have hm2:Cl c0 (k+1)=some (max sz (((v0::st0).length:Int)+(pt 7-tk 7)),((r1::st0).length:Int),(loc.length:Int)):=by rw [hm1];simp [show pt 7=1 from rfl,show tk 7=1 from rfl]
        (try simp -implicitDefEqProofs [h,hxc,hxc',Ins.l,Ins.c,gz,g1,s1,dg,dg0,ds0,hML,←hP,c1,c2])
        refine Ab (hpop _ (fun m=>⟨⟨A3 _,rfl⟩,trivial⟩)) ?_
        (try simp -implicitDefEqProofs [h,hxc,hxc',Ins.l,Ins.c,gz,g1,s1,dg,dg0,ds0,hML,←hP,c1,c2])
        refine Ab (hsh _ _ (by simp [okN];omega) (hxb _ _ _)) ?_
        (try simp -implicitDefEqProofs [h,hxc,hxc',Ins.l,Ins.c,gz,g1,s1,dg,dg0,ds0,hML,←hP,c1,c2,hctr])
        refine⟨⟨by omega,by unfold maxLen;omega,by omega⟩,Bd (RS.pushed hok (by rw [hci];exact h) hast1 hm2 (by rw [hci];exact hex1)) rfl h hP hbl hml hU hM ?_ e3 rfl⟩
        exact fun n m=>Dl hD _ _ _
    by_cases h5:op=5
    · subst h5
      obtain⟨v0,st0,rfl⟩ : ∃v0 st0,st=v0::st0:=by
        cases st with
        | nil=>exact absurd hdep (by simp [show tk 5=1 from rfl])
        | cons a l=>exact⟨a,l,rfl⟩
      rcases hsv with ⟨_,h0⟩|⟨rfl,cs,hcs,hct⟩
      · cases h0
      have hv0:=hast v0 (by simp)
      have hsl:=A4 hcs
      have hct':cs.take (st0.length+1)=st0.reverse.map vI++[vI v0]:=by have:=hct;simpa using this
      have hct0:cs.take st0.length=st0.reverse.map vI:=by
        have:=congrArg (List.take st0.length) hct'
        rwa [List.take_take,Nat.min_eq_left (by omega),List.take_left' (by simp)] at this
      have hcl:st0.length+1≤cs.length:=by have:=congrArg List.length hct';simp at this;omega
      have hcv:cs[st0.length]?=some (vI v0):=by
        have:=congrArg (fun l:List V=>l[st0.length]?) hct'
        simp only [List.getElem?_take] at this
        rw [if_pos (by omega),List.getElem?_append_right (by simp)] at this
        simpa using this
      have hd0:st0.length+1≤8000:=by simpa using hdl
      have c1 : ∀l:List Bx,(D++l)[si]?=some (.buf 3 1 cs):=fun l=>Ae hcs l
      have c2 : ∀(l:List Bx) (v:Bx),(D++l).set si v=D.set si v++l:=fun l v=>List.set_append_left _ _ hsl
      have hctr:cs.take st0.length=(st0.map vI).reverse:=by rw [hct0];simp
      have hpop:=fun (xb:Bx) (hx : ∀m,A6 (P+(D.length+3)+1) m [xb] [xb])=>hpopG st0.length v0 cs xb hx hcs hcv hd0
      have hval:Cm s oth ⟨5,xa,xb⟩ (v0::st0) loc=opC 5 xa v0 0:=by simp [Cm,show tk 5=1 from rfl]
      rw [hval] at hex
      have hop:=X7 5 xa v0 0
      have hsam:=Hg (op:=5) (a:=xa) (x:=v0) (y:=0)
      unfold vO at hop
      obtain⟨r,hr⟩ : ∃r,r=opC 5 xa v0 0:=⟨_,rfl⟩
      rw [←hr] at hex hop hsam
      obtain⟨r1,r2⟩:=r
      simp only [] at hex hop hsam
      cases hok2:r2
      · rw [hok2] at hex
        simp only [Bool.false_eq_true,if_false] at hex
        rw [←hex]
        rw [hok2] at hop
        (try simp -implicitDefEqProofs [h,hxc,hxc',Ins.l,Ins.c,gz,g1,s1,dg,dg0,ds0,hML,←hP,c1,c2])
        iterate 4
          all_goals (repeat' with_reducible apply And.intro)
          all_goals (try simp -implicitDefEqProofs [h,hxc,hxc',Ins.l,Ins.c,gz,g1,s1,dg,dg0,ds0,hML,←hP,c1,c2])
        all_goals refine Ab (hpop _ (fun m=>⟨⟨A3 _,rfl⟩,trivial⟩)) ?_
        all_goals ((try simp at hop);(try simp -implicitDefEqProofs [h,hxc,hxc',Ins.l,Ins.c,gz,g1,s1,dg,dg0,ds0,hML,←hP,c1,c2,hctr,Bn,peV,pV,Bb]);repeat' first|(with_reducible apply A0<;>first|(simp only [eras,era,A1];first|with_reducible assumption)|(simp -implicitDefEqProofs [h,hxc,hxc',Ins.l,Ins.c,gz,g1,s1,dg,dg0,ds0,hML,←hP,c1,c2,hctr,Bn,peV,pV,Bb])))
        all_goals exact hdead _
      · rw [hok2] at hex
        have hex1:Aw s oth (ins.drop (k+1)) (r1::st0) loc ps=R:=by simpa [show tk 5=1 from rfl] using hex
        rw [hok2] at hop
        have hxa:=hsam hok2
        have hast1 : ∀w∈r1::st0,Ah w=true:=fun w hw=>by
          rcases List.mem_cons.1 hw with rfl|hw
          · exact hxa
          · exact hast w (by simp [hw])
        have hm2:Cl c0 (k+1)=some (max sz (((v0::st0).length:Int)+(pt 5-tk 5)),((r1::st0).length:Int),(loc.length:Int)):=by rw [hm1];simp [show pt 5=1 from rfl,show tk 5=1 from rfl]
        (try simp -implicitDefEqProofs [h,hxc,hxc',Ins.l,Ins.c,gz,g1,s1,dg,dg0,ds0,hML,←hP,c1,c2])
        iterate 4
          all_goals (repeat' with_reducible apply And.intro)
          all_goals (try simp -implicitDefEqProofs [h,hxc,hxc',Ins.l,Ins.c,gz,g1,s1,dg,dg0,ds0,hML,←hP,c1,c2])
        all_goals refine Ab (hpop _ (fun m=>⟨⟨A3 _,rfl⟩,trivial⟩)) ?_
        all_goals ((try simp at hop);(try simp -implicitDefEqProofs [h,hxc,hxc',Ins.l,Ins.c,gz,g1,s1,dg,dg0,ds0,hML,←hP,c1,c2,hctr]);repeat' first|(with_reducible apply A0<;>first|(simp only [eras,era,A1];first|with_reducible assumption)|(simp -implicitDefEqProofs [h,hxc,hxc',Ins.l,Ins.c,gz,g1,s1,dg,dg0,ds0,hML,←hP,c1,c2,hctr])))
        all_goals refine⟨⟨by omega,by unfold maxLen;omega,by omega⟩,Bd (RS.pushed hok (by rw [hci];exact h) hast1 hm2 (by rw [hci];exact hex1)) rfl h hP hbl hml hU hM ?_ e3 rfl⟩
        all_goals exact fun n m=>Dl hD _ _ _
    by_cases h6:op=6
    · subst h6
      obtain⟨v0,st0,rfl⟩ : ∃v0 st0,st=v0::st0:=by
        cases st with
        | nil=>exact absurd hdep (by simp [show tk 6=1 from rfl])
        | cons a l=>exact⟨a,l,rfl⟩
      rcases hsv with ⟨_,h0⟩|⟨rfl,cs,hcs,hct⟩
      · cases h0
      have hv0:=hast v0 (by simp)
      have hsl:=A4 hcs
      have hct':cs.take (st0.length+1)=st0.reverse.map vI++[vI v0]:=by have:=hct;simpa using this
      have hct0:cs.take st0.length=st0.reverse.map vI:=by
        have:=congrArg (List.take st0.length) hct'
        rwa [List.take_take,Nat.min_eq_left (by omega),List.take_left' (by simp)] at this
      have hcl:st0.length+1≤cs.length:=by have:=congrArg List.length hct';simp at this;omega
      have hcv:cs[st0.length]?=some (vI v0):=by
        have:=congrArg (fun l:List V=>l[st0.length]?) hct'
        simp only [List.getElem?_take] at this
        rw [if_pos (by omega),List.getElem?_append_right (by simp)] at this
        simpa using this
      have hd0:st0.length+1≤8000:=by simpa using hdl
      have c1 : ∀l:List Bx,(D++l)[si]?=some (.buf 3 1 cs):=fun l=>Ae hcs l
      have c2 : ∀(l:List Bx) (v:Bx),(D++l).set si v=D.set si v++l:=fun l v=>List.set_append_left _ _ hsl
      have hctr:cs.take st0.length=(st0.map vI).reverse:=by rw [hct0];simp
      have hpop:=fun (xb:Bx) (hx : ∀m,A6 (P+(D.length+3)+1) m [xb] [xb])=>hpopG st0.length v0 cs xb hx hcs hcv hd0
      have hval:Cm s oth ⟨6,xa,xb⟩ (v0::st0) loc=opC 6 xa v0 0:=by simp [Cm,show tk 6=1 from rfl]
      rw [hval] at hex
      have hop:=X7 6 xa v0 0
      have hsam:=Hg (op:=6) (a:=xa) (x:=v0) (y:=0)
      unfold vO at hop
      obtain⟨r,hr⟩ : ∃r,r=opC 6 xa v0 0:=⟨_,rfl⟩
      rw [←hr] at hex hop hsam
      obtain⟨r1,r2⟩:=r
      simp only [] at hex hop hsam
      cases hok2:r2
      · rw [hok2] at hex
        simp only [Bool.false_eq_true,if_false] at hex
        rw [←hex]
        rw [hok2] at hop
        (try simp -implicitDefEqProofs [h,hxc,hxc',Ins.l,Ins.c,gz,g1,s1,dg,dg0,ds0,hML,←hP,c1,c2])
        iterate 4
          all_goals (repeat' with_reducible apply And.intro)
          all_goals (try simp -implicitDefEqProofs [h,hxc,hxc',Ins.l,Ins.c,gz,g1,s1,dg,dg0,ds0,hML,←hP,c1,c2])
        all_goals refine Ab (hpop _ (fun m=>⟨⟨A3 _,rfl⟩,trivial⟩)) ?_
        all_goals ((try simp at hop);(try simp -implicitDefEqProofs [h,hxc,hxc',Ins.l,Ins.c,gz,g1,s1,dg,dg0,ds0,hML,←hP,c1,c2,hctr,Bn,peV,pV,Bb]);repeat' first|(with_reducible apply A0<;>first|(simp only [eras,era,A1];first|with_reducible assumption)|(simp -implicitDefEqProofs [h,hxc,hxc',Ins.l,Ins.c,gz,g1,s1,dg,dg0,ds0,hML,←hP,c1,c2,hctr,Bn,peV,pV,Bb])))
        all_goals exact hdead _
      · rw [hok2] at hex
        have hex1:Aw s oth (ins.drop (k+1)) (r1::st0) loc ps=R:=by simpa [show tk 6=1 from rfl] using hex
        rw [hok2] at hop
        have hxa:=hsam hok2
        have hast1 : ∀w∈r1::st0,Ah w=true:=fun w hw=>by
          rcases List.mem_cons.1 hw with rfl|hw
          · exact hxa
          · exact hast w (by simp [hw])
        have hm2:Cl c0 (k+1)=some (max sz (((v0::st0).length:Int)+(pt 6-tk 6)),((r1::st0).length:Int),(loc.length:Int)):=by rw [hm1];simp [show pt 6=1 from rfl,show tk 6=1 from rfl]
        (try simp -implicitDefEqProofs [h,hxc,hxc',Ins.l,Ins.c,gz,g1,s1,dg,dg0,ds0,hML,←hP,c1,c2])
        iterate 4
          all_goals (repeat' with_reducible apply And.intro)
          all_goals (try simp -implicitDefEqProofs [h,hxc,hxc',Ins.l,Ins.c,gz,g1,s1,dg,dg0,ds0,hML,←hP,c1,c2])
        all_goals refine Ab (hpop _ (fun m=>⟨⟨A3 _,rfl⟩,trivial⟩)) ?_
        all_goals ((try simp at hop);(try simp -implicitDefEqProofs [h,hxc,hxc',Ins.l,Ins.c,gz,g1,s1,dg,dg0,ds0,hML,←hP,c1,c2,hctr]);repeat' first|(with_reducible apply A0<;>first|(simp only [eras,era,A1];first|with_reducible assumption)|(simp -implicitDefEqProofs [h,hxc,hxc',Ins.l,Ins.c,gz,g1,s1,dg,dg0,ds0,hML,←hP,c1,c2,hctr])))
        all_goals refine⟨⟨by omega,by unfold maxLen;omega,by omega⟩,Bd (RS.pushed hok (by rw [hci];exact h) hast1 hm2 (by rw [hci];exact hex1)) rfl h hP hbl hml hU hM ?_ e3 rfl⟩
        all_goals exact fun n m=>Dl hD _ _ _
    by_cases h8:op=8
    · subst h8
      obtain⟨v0,st0,rfl⟩ : ∃v0 st0,st=v0::st0:=by
        cases st with
        | nil=>exact absurd hdep (by simp [show tk 8=1 from rfl])
        | cons a l=>exact⟨a,l,rfl⟩
      rcases hsv with ⟨_,h0⟩|⟨rfl,cs,hcs,hct⟩
      · cases h0
      have hv0:=hast v0 (by simp)
      have hsl:=A4 hcs
      have hct':cs.take (st0.length+1)=st0.reverse.map vI++[vI v0]:=by have:=hct;simpa using this
      have hct0:cs.take st0.length=st0.reverse.map vI:=by
        have:=congrArg (List.take st0.length) hct'
        rwa [List.take_take,Nat.min_eq_left (by omega),List.take_left' (by simp)] at this
      have hcl:st0.length+1≤cs.length:=by have:=congrArg List.length hct';simp at this;omega
      have hcv:cs[st0.length]?=some (vI v0):=by
        have:=congrArg (fun l:List V=>l[st0.length]?) hct'
        simp only [List.getElem?_take] at this
        rw [if_pos (by omega),List.getElem?_append_right (by simp)] at this
        simpa using this
      have hd0:st0.length+1≤8000:=by simpa using hdl
      have c1 : ∀l:List Bx,(D++l)[si]?=some (.buf 3 1 cs):=fun l=>Ae hcs l
      have c2 : ∀(l:List Bx) (v:Bx),(D++l).set si v=D.set si v++l:=fun l v=>List.set_append_left _ _ hsl
      have hctr:cs.take st0.length=(st0.map vI).reverse:=by rw [hct0];simp
      have hpop:=fun (xb:Bx) (hx : ∀m,A6 (P+(D.length+3)+1) m [xb] [xb])=>hpopG st0.length v0 cs xb hx hcs hcv hd0
      have hval:Cm s oth ⟨8,xa,xb⟩ (v0::st0) loc=opC 8 xa v0 0:=by simp [Cm,show tk 8=1 from rfl]
      rw [hval] at hex
      have hop:=X7 8 xa v0 0
      have hsam:=Hg (op:=8) (a:=xa) (x:=v0) (y:=0)
      unfold vO at hop
      obtain⟨r,hr⟩ : ∃r,r=opC 8 xa v0 0:=⟨_,rfl⟩
      rw [←hr] at hex hop hsam
      obtain⟨r1,r2⟩:=r
      simp only [] at hex hop hsam
      cases hok2:r2
      · rw [hok2] at hex
        simp only [Bool.false_eq_true,if_false] at hex
        rw [←hex]
        rw [hok2] at hop
        (try simp -implicitDefEqProofs [h,hxc,hxc',Ins.l,Ins.c,gz,g1,s1,dg,dg0,ds0,hML,←hP,c1,c2])
        iterate 4
          all_goals (repeat' with_reducible apply And.intro)
          all_goals (try simp -implicitDefEqProofs [h,hxc,hxc',Ins.l,Ins.c,gz,g1,s1,dg,dg0,ds0,hML,←hP,c1,c2])
        all_goals refine Ab (hpop _ (fun m=>⟨⟨A3 _,rfl⟩,trivial⟩)) ?_
        all_goals ((try simp at hop);(try simp -implicitDefEqProofs [h,hxc,hxc',Ins.l,Ins.c,gz,g1,s1,dg,dg0,ds0,hML,←hP,c1,c2,hctr,Bn,peV,pV,Bb]);repeat' first|(with_reducible apply A0<;>first|(simp only [eras,era,A1];first|with_reducible assumption)|(simp -implicitDefEqProofs [h,hxc,hxc',Ins.l,Ins.c,gz,g1,s1,dg,dg0,ds0,hML,←hP,c1,c2,hctr,Bn,peV,pV,Bb])))
        all_goals exact hdead _
      · rw [hok2] at hex
        have hex1:Aw s oth (ins.drop (k+1)) (r1::st0) loc ps=R:=by simpa [show tk 8=1 from rfl] using hex
        rw [hok2] at hop
        have hxa:=hsam hok2
        have hast1 : ∀w∈r1::st0,Ah w=true:=fun w hw=>by
          rcases List.mem_cons.1 hw with rfl|hw
          · exact hxa
          · exact hast w (by simp [hw])
        have hm2:Cl c0 (k+1)=some (max sz (((v0::st0).length:Int)+(pt 8-tk 8)),((r1::st0).length:Int),(loc.length:Int)):=by rw [hm1];simp [show pt 8=1 from rfl,show tk 8=1 from rfl]
        (try simp -implicitDefEqProofs [h,hxc,hxc',Ins.l,Ins.c,gz,g1,s1,dg,dg0,ds0,hML,←hP,c1,c2])
        iterate 4
          all_goals (repeat' with_reducible apply And.intro)
          all_goals (try simp -implicitDefEqProofs [h,hxc,hxc',Ins.l,Ins.c,gz,g1,s1,dg,dg0,ds0,hML,←hP,c1,c2])
        all_goals refine Ab (hpop _ (fun m=>⟨⟨A3 _,rfl⟩,trivial⟩)) ?_
        all_goals ((try simp at hop);(try simp -implicitDefEqProofs [h,hxc,hxc',Ins.l,Ins.c,gz,g1,s1,dg,dg0,ds0,hML,←hP,c1,c2,hctr]);repeat' first|(with_reducible apply A0<;>first|(simp only [eras,era,A1];first|with_reducible assumption)|(simp -implicitDefEqProofs [h,hxc,hxc',Ins.l,Ins.c,gz,g1,s1,dg,dg0,ds0,hML,←hP,c1,c2,hctr])))
        all_goals refine⟨⟨by omega,by unfold maxLen;omega,by omega⟩,Bd (RS.pushed hok (by rw [hci];exact h) hast1 hm2 (by rw [hci];exact hex1)) rfl h hP hbl hml hU hM ?_ e3 rfl⟩
        all_goals exact fun n m=>Dl hD _ _ _
    by_cases h9:op=9
    · subst h9
      obtain⟨v0,st0,rfl⟩ : ∃v0 st0,st=v0::st0:=by
        cases st with
        | nil=>exact absurd hdep (by simp [show tk 9=1 from rfl])
        | cons a l=>exact⟨a,l,rfl⟩
      rcases hsv with ⟨_,h0⟩|⟨rfl,cs,hcs,hct⟩
      · cases h0
      have hv0:=hast v0 (by simp)
      have hsl:=A4 hcs
      have hct':cs.take (st0.length+1)=st0.reverse.map vI++[vI v0]:=by have:=hct;simpa using this
      have hct0:cs.take st0.length=st0.reverse.map vI:=by
        have:=congrArg (List.take st0.length) hct'
        rwa [List.take_take,Nat.min_eq_left (by omega),List.take_left' (by simp)] at this
      have hcl:st0.length+1≤cs.length:=by have:=congrArg List.length hct';simp at this;omega
      have hcv:cs[st0.length]?=some (vI v0):=by
        have:=congrArg (fun l:List V=>l[st0.length]?) hct'
        simp only [List.getElem?_take] at this
        rw [if_pos (by omega),List.getElem?_append_right (by simp)] at this
        simpa using this
      have hd0:st0.length+1≤8000:=by simpa using hdl
      have c1 : ∀l:List Bx,(D++l)[si]?=some (.buf 3 1 cs):=fun l=>Ae hcs l
      have c2 : ∀(l:List Bx) (v:Bx),(D++l).set si v=D.set si v++l:=fun l v=>List.set_append_left _ _ hsl
      have hctr:cs.take st0.length=(st0.map vI).reverse:=by rw [hct0];simp
      have hpop:=fun (xb:Bx) (hx : ∀m,A6 (P+(D.length+3)+1) m [xb] [xb])=>hpopG st0.length v0 cs xb hx hcs hcv hd0
      have hval:Cm s oth ⟨9,xa,xb⟩ (v0::st0) loc=opC 9 xa v0 0:=by simp [Cm,show tk 9=1 from rfl]
      rw [hval] at hex
      have hop:=X7 9 xa v0 0
      have hsam:=Hg (op:=9) (a:=xa) (x:=v0) (y:=0)
      unfold vO at hop
      obtain⟨r,hr⟩ : ∃r,r=opC 9 xa v0 0:=⟨_,rfl⟩
      rw [←hr] at hex hop hsam
      obtain⟨r1,r2⟩:=r
      simp only [] at hex hop hsam
      cases hok2:r2
      · rw [hok2] at hex
        simp only [Bool.false_eq_true,if_false] at hex
        rw [←hex]
        rw [hok2] at hop
        (try simp -implicitDefEqProofs [h,hxc,hxc',Ins.l,Ins.c,gz,g1,s1,dg,dg0,ds0,hML,←hP,c1,c2])
        iterate 4
          all_goals (repeat' with_reducible apply And.intro)
          all_goals (try simp -implicitDefEqProofs [h,hxc,hxc',Ins.l,Ins.c,gz,g1,s1,dg,dg0,ds0,hML,←hP,c1,c2])
        all_goals refine Ab (hpop _ (fun m=>⟨⟨A3 _,rfl⟩,trivial⟩)) ?_
        all_goals ((try simp at hop);(try simp -implicitDefEqProofs [h,hxc,hxc',Ins.l,Ins.c,gz,g1,s1,dg,dg0,ds0,hML,←hP,c1,c2,hctr,Bn,peV,pV,Bb]);repeat' first|(with_reducible apply A0<;>first|(simp only [eras,era,A1];first|with_reducible assumption)|(simp -implicitDefEqProofs [h,hxc,hxc',Ins.l,Ins.c,gz,g1,s1,dg,dg0,ds0,hML,←hP,c1,c2,hctr,Bn,peV,pV,Bb])))
        all_goals exact hdead _
      · rw [hok2] at hex
        have hex1:Aw s oth (ins.drop (k+1)) (r1::st0) loc ps=R:=by simpa [show tk 9=1 from rfl] using hex
        rw [hok2] at hop
        have hxa:=hsam hok2
        have hast1 : ∀w∈r1::st0,Ah w=true:=fun w hw=>by
          rcases List.mem_cons.1 hw with rfl|hw
          · exact hxa
          · exact hast w (by simp [hw])
        have hm2:Cl c0 (k+1)=some (max sz (((v0::st0).length:Int)+(pt 9-tk 9)),((r1::st0).length:Int),(loc.length:Int)):=by rw [hm1];simp [show pt 9=1 from rfl,show tk 9=1 from rfl]
        (try simp -implicitDefEqProofs [h,hxc,hxc',Ins.l,Ins.c,gz,g1,s1,dg,dg0,ds0,hML,←hP,c1,c2])
        iterate 4
          all_goals (repeat' with_reducible apply And.intro)
          all_goals (try simp -implicitDefEqProofs [h,hxc,hxc',Ins.l,Ins.c,gz,g1,s1,dg,dg0,ds0,hML,←hP,c1,c2])
        all_goals refine Ab (hpop _ (fun m=>⟨⟨A3 _,rfl⟩,trivial⟩)) ?_
        all_goals ((try simp at hop);(try simp -implicitDefEqProofs [h,hxc,hxc',Ins.l,Ins.c,gz,g1,s1,dg,dg0,ds0,hML,←hP,c1,c2,hctr]);repeat' first|(with_reducible apply A0<;>first|(simp only [eras,era,A1];first|with_reducible assumption)|(simp -implicitDefEqProofs [h,hxc,hxc',Ins.l,Ins.c,gz,g1,s1,dg,dg0,ds0,hML,←hP,c1,c2,hctr])))
        all_goals refine⟨⟨by omega,by unfold maxLen;omega,by omega⟩,Bd (RS.pushed hok (by rw [hci];exact h) hast1 hm2 (by rw [hci];exact hex1)) rfl h hP hbl hml hU hM ?_ e3 rfl⟩
        all_goals exact fun n m=>Dl hD _ _ _
    by_cases h26:op=26
    · subst h26
      have hst0:st=[]:=by
        have:=hbad.2
        simp [E1,show pt 26=0 from rfl,show tk 26=0 from rfl] at this
        exact this
      subst hst0
      have hex1:Cc (ps++[⟨xa,-(ps.map Part.amt).sum⟩])=R:=by simpa using hex
      have hxacc:0≤xa∧xa≤1000000:=by simp [E8,Jo] at hnum;omega
      have hfin:=fun (sv':V) (l:List Bx) (h1 : ∀n m,P+(D.length+3)+l.length≤n→okN n m sv'=true) (h2 : ∀n m,A6 n m l l)=>
        Rk b mb xa rule (M++(.cells [vS cn,vB cp,Ins.l ins]::.cells [vI 0,vI 0,vI 0,vI 0,.snil]::.cells [sv']::(D++l))) (fun n m hn=>by rw [hfullL] at hn;exact hfull sv' l n m (by omega) (h1 n m hn) (h2 n m)) s oth lv ps (hMbE _) (hMmE _) (by omega) haps hacc hxacc (hlvk _ (by rw [hfullL];omega))
      rw [hex1] at hfin
      have hM2 : ∀l:List Bx,((M++l).set mb .dead).set b .dead=(B.set mb .dead).set b .dead++l:=fun l=>by
        rw [List.set_append_left _ _ (by omega),List.set_append_left _ _ (by simp;omega),hM]
        unfold MB
        rw [List.set_comm _ _ hne,List.set_set,List.set_set]
      obtain⟨Z,hZ⟩ : ∃Z,Z=(B.set mb .dead).set b .dead:=⟨_,rfl⟩
      rw [←hZ] at hM2 ⊢
      have hZl:Z.length=P:=by rw [hZ,hP];simp
      have hZle : ∀(l:List Bx),A6 P 0 (Z++l) Z:=fun l=>by
        rw [hZ]
        exact A6.ext l (A6.set (show E.leB P 0 .dead .dead from trivial) b (A6.set (show E.leB P 0 .dead .dead from trivial) mb (hU P 0 (by omega))))
      have z1 : ∀(l:List Bx) (j:Nat),(Z++l)[P+j]?=l[j]?:=fun l j=>by rw [List.getElem?_append_right (by omega)];congr 1;omega
      have z2 : ∀(l:List Bx) (j:Nat) (v:Bx),(Z++l).set (P+j) v=Z++l.set j v:=fun l j v=>by rw [List.set_append_right _ _ (by omega)];congr 2;omega
      simp only [hM2] at hfin
      obtain⟨r,hr⟩ : ∃r,r=Bn s oth rule R:=⟨_,rfl⟩
      rw [←hr] at hfin ⊢
      obtain⟨⟨p1,p2,p3,p4,p5⟩,p6⟩:=r
      unfold peV pV at hfin ⊢
      rcases hsv with ⟨rfl,_⟩|⟨rfl,cs,hcs,hct⟩
      · (try simp -implicitDefEqProofs [h,hxc,hxc',Ins.l,Ins.c,gz,g1,s1,dg,dg0,ds0,hML,←hP])
        refine Ab (hfin _ _ (fun n m _=>rfl) (fun n m=>⟨⟨A3 _,rfl⟩,trivial⟩)) ?_
        (try simp -implicitDefEqProofs [h,hxc,hxc',Ins.l,Ins.c,gz,g1,s1,dg,dg0,ds0,hML,←hP,z1,z2])
        refine⟨by omega,?_⟩
        rw [hZl]
        exact hZle _
      · have hsl:=A4 hcs
        (try simp -implicitDefEqProofs [h,hxc,hxc',Ins.l,Ins.c,gz,g1,s1,dg,dg0,ds0,hML,←hP])
        refine Ab (hfin _ _ (fun n m hn=>by simp [okN];simp at hn;omega) (fun n m=>⟨⟨A3 _,rfl⟩,trivial⟩)) ?_
        (try simp -implicitDefEqProofs [h,hxc,hxc',Ins.l,Ins.c,gz,g1,s1,dg,dg0,ds0,hML,←hP,z1,z2])
        refine⟨by omega,?_⟩
        rw [hZl]
        exact hZle _
    by_cases h24:op=24
    · subst h24
      obtain⟨v0,st0,rfl⟩ : ∃v0 st0,st=v0::st0:=by
        cases st with
        | nil=>exact absurd hdep (by simp [show tk 24=1 from rfl])
        | cons a l=>exact⟨a,l,rfl⟩
      rcases hsv with ⟨_,h0⟩|⟨rfl,cs,hcs,hct⟩
      · cases h0
      have hv0:=hast v0 (by simp)
      have hsl:=A4 hcs
      have hct':cs.take (st0.length+1)=st0.reverse.map vI++[vI v0]:=by have:=hct;simpa using this
      have hct0:cs.take st0.length=st0.reverse.map vI:=by
        have:=congrArg (List.take st0.length) hct'
        rwa [List.take_take,Nat.min_eq_left (by omega),List.take_left' (by simp)] at this
      have hcl:st0.length+1≤cs.length:=by have:=congrArg List.length hct';simp at this;omega
      have hcv:cs[st0.length]?=some (vI v0):=by
        have:=congrArg (fun l:List V=>l[st0.length]?) hct'
        simp only [List.getElem?_take] at this
        rw [if_pos (by omega),List.getElem?_append_right (by simp)] at this
        simpa using this
      have hd0:st0.length+1≤8000:=by simpa using hdl
      have c1 : ∀l:List Bx,(D++l)[si]?=some (.buf 3 1 cs):=fun l=>Ae hcs l
      have c2 : ∀(l:List Bx) (v:Bx),(D++l).set si v=D.set si v++l:=fun l v=>List.set_append_left _ _ hsl
      have hctr:cs.take st0.length=(st0.map vI).reverse:=by rw [hct0];simp
      have hpop:=fun (xb:Bx) (hx : ∀m,A6 (P+(D.length+3)+1) m [xb] [xb])=>hpopG st0.length v0 cs xb hx hcs hcv hd0
      have hs00:st0=[]:=by
        have:=hbad.2
        simp [E1,show pt 24=0 from rfl,show tk 24=1 from rfl] at this
        exact List.eq_nil_of_length_eq_zero (by omega)
      subst hs00
      have hex1:(if v0=0 then some [] else Aw s oth (ins.drop (k+1)) [] loc ps)=R:=by simpa using hex
      by_cases v00:v0=0
      · rw [if_pos v00] at hex1
        subst v00
        rw [←hex1]
        (try simp -implicitDefEqProofs [h,hxc,hxc',Ins.l,Ins.c,gz,g1,s1,dg,dg0,ds0,hML,←hP,c1,c2])
        refine Ab (hpop _ (fun m=>⟨⟨A3 _,rfl⟩,trivial⟩)) ?_
        (try simp -implicitDefEqProofs [h,hxc,hxc',Ins.l,Ins.c,gz,g1,s1,dg,dg0,ds0,hML,←hP,c1,c2,Bn,peV,pV,Bb,F8])
        all_goals exact hdead _
      · rw [if_neg v00] at hex1
        have v01:(v0==0)=false:=by simpa using v00
        have hm2:Cl c0 (k+1)=some (max sz ((([v0]:List Int).length:Int)+(pt 24-tk 24)),(([]:List Int).length:Int),(loc.length:Int)):=by rw [hm1];simp [show pt 24=0 from rfl,show tk 24=1 from rfl]
        (try simp -implicitDefEqProofs [h,hxc,hxc',Ins.l,Ins.c,gz,g1,s1,dg,dg0,ds0,hML,←hP,c1,c2])
        refine Ab (hpop _ (fun m=>⟨⟨A3 _,rfl⟩,trivial⟩)) ?_
        (try simp -implicitDefEqProofs [h,hxc,hxc',Ins.l,Ins.c,gz,g1,s1,dg,dg0,ds0,hML,←hP,c1,c2,v00,v01])
        refine Bd (RS.popped hok (by rw [hci];exact h) hm2 (by rw [hci];exact hex1) haps hacc (by omega) hcs rfl) rfl h hP hbl hml hU hM ?_ e3 rfl
        exact fun n m=>(A6.appU (hD n m)).2 ⟨trivial,trivial⟩
    by_cases h25:op=25
    · subst h25
      obtain⟨v0,st0,rfl⟩ : ∃v0 st0,st=v0::st0:=by
        cases st with
        | nil=>exact absurd hdep (by simp [show tk 25=1 from rfl])
        | cons a l=>exact⟨a,l,rfl⟩
      rcases hsv with ⟨_,h0⟩|⟨rfl,cs,hcs,hct⟩
      · cases h0
      have hv0:=hast v0 (by simp)
      have hsl:=A4 hcs
      have hct':cs.take (st0.length+1)=st0.reverse.map vI++[vI v0]:=by have:=hct;simpa using this
      have hct0:cs.take st0.length=st0.reverse.map vI:=by
        have:=congrArg (List.take st0.length) hct'
        rwa [List.take_take,Nat.min_eq_left (by omega),List.take_left' (by simp)] at this
      have hcl:st0.length+1≤cs.length:=by have:=congrArg List.length hct';simp at this;omega
      have hcv:cs[st0.length]?=some (vI v0):=by
        have:=congrArg (fun l:List V=>l[st0.length]?) hct'
        simp only [List.getElem?_take] at this
        rw [if_pos (by omega),List.getElem?_append_right (by simp)] at this
        simpa using this
      have hd0:st0.length+1≤8000:=by simpa using hdl
      have c1 : ∀l:List Bx,(D++l)[si]?=some (.buf 3 1 cs):=fun l=>Ae hcs l
      have c2 : ∀(l:List Bx) (v:Bx),(D++l).set si v=D.set si v++l:=fun l v=>List.set_append_left _ _ hsl
      have hctr:cs.take st0.length=(st0.map vI).reverse:=by rw [hct0];simp
      have hpop:=fun (xb:Bx) (hx : ∀m,A6 (P+(D.length+3)+1) m [xb] [xb])=>hpopG st0.length v0 cs xb hx hcs hcv hd0
      have hs00:st0=[]:=by
        have:=hbad.2
        simp [E1,show pt 25=0 from rfl,show tk 25=1 from rfl] at this
        exact List.eq_nil_of_length_eq_zero (by omega)
      subst hs00
      have hex1:Aw s oth (ins.drop (k+1)) [] loc (ps++[⟨xa,v0⟩])=R:=by simpa using hex
      have hxacc:0≤xa∧xa≤1000000:=by simp [E8,Jo] at hnum;omega
      have hm2:Cl c0 (k+1)=some (max sz ((([v0]:List Int).length:Int)+(pt 25-tk 25)),(([]:List Int).length:Int),(loc.length:Int)):=by rw [hm1];simp [show pt 25=0 from rfl,show tk 25=1 from rfl]
      have hv0b:=G3 hv0
      have hsb:=Jt haps
      have hsa:=Fs (k:=xa) haps
      have hpl:=Eo ps
      have hpss:=En ps xa
      have hsm:((ps++[(⟨xa,v0⟩:Part)]).map Part.amt).sum=(ps.map Part.amt).sum+v0:=by rw [List.map_append,List.sum_append];simp
      have hpo:=fun (sv':V) (l:List Bx) (h1:okN (P+(D.length+3)+l.length) 0 sv'=true) (h2 : ∀n,A6 n 0 l l)=>Mh b mb xa v0 ⟨M++(.cells [vS cn,vB cp,Ins.l ins]::.cells [vI 0,vI 0,vI 0,vI 0,.snil]::.cells [sv']::(D++l)),[]⟩ (hS sv' l h1 h2) s oth lv (ps.map Part.amt).sum (B6 ps) (hMbE _) (hMmE _) (by omega) ((hlvk _ (by rw [hfullL];omega)).ok (Nat.le_refl _)) (by rw [hpss];exact wrap64 (by omega) (by omega)) (wrap64 (by omega) (by omega))
      have hpost0:=Pa (B:=B) (s:=s) (oth:=oth) (lv:=lv) (ps:=ps) (ps':=ps++[(⟨xa,v0⟩:Part)]) hne
      rw [hsm,Ed] at hpost0
      have hMp : ∀l:List Bx,((M++l).set mb (.mp (mI vI (Ca (B6 ps) xa ((B7 (B6 ps) xa).getD 0+v0))))).set b (.cells (mC s oth lv mb ((ps.map Part.amt).sum+v0)))=MB B b mb s oth lv (ps++[⟨xa,v0⟩])++l:=fun l=>by
        rw [List.set_append_left _ _ (by omega),List.set_append_left _ _ (by simp;omega),hM,hpost0]
      simp only [hMp] at hpo
      obtain⟨M',hM'⟩ : ∃M',M'=MB B b mb s oth lv (ps++[⟨xa,v0⟩]):=⟨_,rfl⟩
      rw [←hM'] at hpo
      have hM'L:M'.length=P:=by rw [hM',G6,hP]
      (try simp -implicitDefEqProofs [h,hxc,hxc',Ins.l,Ins.c,gz,g1,s1,dg,dg0,ds0,hML,←hP,c1,c2])
      repeat' with_reducible apply And.intro
      all_goals (try simp -implicitDefEqProofs [h,hxc,hxc',Ins.l,Ins.c,gz,g1,s1,dg,dg0,ds0,hML,←hP,c1,c2])
      all_goals refine Ab (hpop _ (fun m=>⟨⟨A3 _,rfl⟩,trivial⟩)) ?_
      all_goals (try simp -implicitDefEqProofs [h,hxc,hxc',Ins.l,Ins.c,gz,g1,s1,dg,dg0,ds0,hML,←hP,c1,c2])
      all_goals refine Ab (hpo _ _ (by simp [okN];omega) (hxb _ _ _)) ?_
      all_goals (try simp -implicitDefEqProofs [hM'L])
      all_goals refine Bd (RS.popped hok (by rw [hci];exact h) hm2 (by rw [hci];exact hex1) (fun p hp=>?_) (fun p hp=>?_) (by simp;omega) hcs rfl) rfl h hP hbl hml hU hM' ?_ e3 rfl
      all_goals first
        | exact fun n m=>(A6.appU (hD n m)).2 ⟨trivial,trivial⟩
        | (rcases List.mem_append.1 hp with hp|hp
           · first|exact haps p hp|exact hacc p hp
           · simp at hp;subst hp;first|exact hv0|exact hxacc)
    by_cases h23:op=23
    · subst h23
      obtain⟨v0,st0,rfl⟩ : ∃v0 st0,st=v0::st0:=by
        cases st with
        | nil=>exact absurd hdep (by simp [show tk 23=1 from rfl])
        | cons a l=>exact⟨a,l,rfl⟩
      rcases hsv with ⟨_,h0⟩|⟨rfl,cs,hcs,hct⟩
      · cases h0
      have hv0:=hast v0 (by simp)
      have hsl:=A4 hcs
      have hct':cs.take (st0.length+1)=st0.reverse.map vI++[vI v0]:=by have:=hct;simpa using this
      have hct0:cs.take st0.length=st0.reverse.map vI:=by
        have:=congrArg (List.take st0.length) hct'
        rwa [List.take_take,Nat.min_eq_left (by omega),List.take_left' (by simp)] at this
      have hcl:st0.length+1≤cs.length:=by have:=congrArg List.length hct';simp at this;omega
      have hcv:cs[st0.length]?=some (vI v0):=by
        have:=congrArg (fun l:List V=>l[st0.length]?) hct'
        simp only [List.getElem?_take] at this
        rw [if_pos (by omega),List.getElem?_append_right (by simp)] at this
        simpa using this
      have hd0:st0.length+1≤8000:=by simpa using hdl
      have c1 : ∀l:List Bx,(D++l)[si]?=some (.buf 3 1 cs):=fun l=>Ae hcs l
      have c2 : ∀(l:List Bx) (v:Bx),(D++l).set si v=D.set si v++l:=fun l v=>List.set_append_left _ _ hsl
      have hctr:cs.take st0.length=(st0.map vI).reverse:=by rw [hct0];simp
      have hpop:=fun (xb:Bx) (hx : ∀m,A6 (P+(D.length+3)+1) m [xb] [xb])=>hpopG st0.length v0 cs xb hx hcs hcv hd0
      have hs00:st0=[]:=by
        have:=hbad.2
        simp [E1,show pt 23=0 from rfl,show tk 23=1 from rfl] at this
        exact List.eq_nil_of_length_eq_zero (by omega)
      subst hs00
      have hex1:Aw s oth (ins.drop (k+1)) [] (loc++[v0]) ps=R:=by simpa using hex
      have hm2:Cl c0 (k+1)=some (max sz ((([v0]:List Int).length:Int)+(pt 23-tk 23)),(([]:List Int).length:Int),((loc++[v0]).length:Int)):=by rw [hm1];simp [show pt 23=0 from rfl,show tk 23=1 from rfl]
      have hb':b<P:=by omega
      have hlocl:loc.length≤8000:=by omega
      have hMbE':=hMbE
      have hset : ∀(lv':V) (l:List Bx),(M++l).set b (.cells (mC s oth lv' mb (ps.map Part.amt).sum))=MB B b mb s oth lv' ps++l:=fun lv' l=>by
        rw [List.set_append_left _ _ (by omega),hM,A5m]
      unfold mC at hMbE' hset
      rcases hlv with ⟨rfl,rfl⟩|⟨rfl,hlv2⟩
      · obtain⟨M',hM'⟩ : ∃M',M'=MB B b mb s oth (.bw (P+(D.length+1+3)) 1) ps:=⟨_,rfl⟩
        have hM'L:M'.length=P:=by rw [hM',G6,hP]
        have hset':=hset (.bw (P+(D.length+1+3)) 1)
        rw [←hM'] at hset'
        (try simp -implicitDefEqProofs [h,hxc,hxc',Ins.l,Ins.c,gz,g1,s1,dg,dg0,ds0,hML,←hP,c1,c2])
        iterate 6
          all_goals (repeat' with_reducible apply And.intro)
          all_goals (try simp -implicitDefEqProofs [h,hxc,hxc',Ins.l,Ins.c,gz,g1,s1,dg,dg0,ds0,hML,←hP,c1,c2,hMbE'])
        all_goals refine Ab (hpop (.cells [vI 23,vI xa,vI xb]) (fun m=>⟨⟨A3 _,rfl⟩,trivial⟩)) ?_
        all_goals (try simp -implicitDefEqProofs [h,hxc,hxc',Ins.l,Ins.c,gz,g1,s1,dg,dg0,ds0,hML,←hP,c1,c2,hMbE',hset'])
        all_goals refine⟨by unfold maxLen;omega,Bd (RS.stored hok (by rw [hci];exact h) hv0 hm2 (by rw [hci];exact hex1) hcs rfl) rfl h hP hbl hml hU hM' ?_ e3 rfl⟩
        all_goals exact fun n m=>Xf hD _ _
      · have hll:=A4 hlv2
        have d1 : ∀l:List Bx,(D++l)[li]?=some (.buf 3 1 (loc.map vI)):=fun l=>Ae hlv2 l
        have d3 : ∀(l:List Bx) (v:Bx),(D++l).set li v=D.set li v++l:=fun l v=>List.set_append_left _ _ hll
        have d4:(loc.map vI).take loc.length=loc.map vI:=List.take_of_length_le (by simp)
        obtain⟨M',hM'⟩ : ∃M',M'=MB B b mb s oth (.bw (P+(D.length+1+3)) (loc.length+1)) ps:=⟨_,rfl⟩
        have hM'L:M'.length=P:=by rw [hM',G6,hP]
        have hset':=hset (.bw (P+(D.length+1+3)) (loc.length+1))
        rw [←hM'] at hset'
        (try simp -implicitDefEqProofs [h,hxc,hxc',Ins.l,Ins.c,gz,g1,s1,dg,dg0,ds0,hML,←hP,c1,c2])
        iterate 6
          all_goals (repeat' with_reducible apply And.intro)
          all_goals (try simp -implicitDefEqProofs [h,hxc,hxc',Ins.l,Ins.c,gz,g1,s1,dg,dg0,ds0,hML,←hP,c1,c2,hMbE',d1,d3,d4])
        all_goals refine Ab (hpop (.cells [vI 23,vI xa,vI xb]) (fun m=>⟨⟨A3 _,rfl⟩,trivial⟩)) ?_
        all_goals (try simp -implicitDefEqProofs [h,hxc,hxc',Ins.l,Ins.c,gz,g1,s1,dg,dg0,ds0,hML,←hP,c1,c2,hMbE',hset',d1,d3,d4])
        all_goals refine⟨⟨by unfold maxLen;omega,by omega⟩,Bd (RS.stored hok (by rw [hci];exact h) hv0 hm2 (by rw [hci];exact hex1) hcs rfl) rfl h hP hbl hml hU hM' ?_ e3 rfl⟩
        all_goals exact fun n m=>A07 hD _ _ _
    have hop13:op=10∨op=11∨op=12∨op=13∨op=14∨op=15∨op=16∨op=17∨op=18∨op=19∨op=20∨op=21∨op=22:=by omega
    have h1':(op==1)=false:=by simpa using h1
    have h2':(op==2)=false:=by simpa using h2
    have h3':(op==3)=false:=by simpa using h3
    have h4':(op==4)=false:=by simpa using h4
    have h5':(op==5)=false:=by simpa using h5
    have h6':(op==6)=false:=by simpa using h6
    have h7':(op==7)=false:=by simpa using h7
    have h8':(op==8)=false:=by simpa using h8
    have h9':(op==9)=false:=by simpa using h9
    have h23':(op==23)=false:=by simpa using h23
    have h24':(op==24)=false:=by simpa using h24
    have h25':(op==25)=false:=by simpa using h25
    have h26':(op==26)=false:=by simpa using h26
    by_cases hrest:op=op
    · have htk:tk op=2:=by rcases hop13 with h|h|h|h|h|h|h|h|h|h|h|h|h<;>(rw [h];rfl)
      have hpt:pt op=1:=by rcases hop13 with h|h|h|h|h|h|h|h|h|h|h|h|h<;>(rw [h];rfl)
      obtain⟨v0,v1,st0,rfl⟩ : ∃v0 v1 st0,st=v0::v1::st0:=by
        rw [htk] at hdep
        match st,hdep with
        | [],h=>exact absurd h (by simp)
        | [a],h=>exact absurd h (by simp)
        | a::b::l,_=>exact⟨a,b,l,rfl⟩
      rcases hsv with ⟨_,h0⟩|⟨rfl,cs,hcs,hct⟩
      · cases h0
      have hsl:=A4 hcs
      have hct':cs.take (st0.length+1+1)=st0.reverse.map vI++[vI v1,vI v0]:=by have:=hct;simpa using this
      have hcl:st0.length+1+1≤cs.length:=by have:=congrArg List.length hct';simp at this;omega
      have hct0:cs.take st0.length=(st0.map vI).reverse:=by
        have:=congrArg (List.take st0.length) hct'
        rw [List.take_take,Nat.min_eq_left (by omega),List.take_left' (by simp)] at this
        rw [this];simp
      have hcg : ∀j,j<st0.length+1+1→cs[j]?=(st0.reverse.map vI++[vI v1,vI v0])[j]?:=fun j hj=>by
        have:=congrArg (fun l:List V=>l[j]?) hct'
        simp only [List.getElem?_take] at this
        rwa [if_pos hj] at this
      have hc0:cs[st0.length+1]?=some (vI v0):=by rw [hcg _ (by omega),List.getElem?_append_right (by simp)];simp
      have hc1:cs[st0.length]?=some (vI v1):=by rw [hcg _ (by omega),List.getElem?_append_right (by simp)];simp
      have hd0:st0.length+1+1≤8000:=by simpa using hdl
      have c1 : ∀l:List Bx,(D++l)[si]?=some (.buf 3 1 cs):=fun l=>Ae hcs l
      have c2 : ∀(l:List Bx) (v:Bx),(D++l).set si v=D.set si v++l:=fun l v=>List.set_append_left _ _ hsl
      have hpop1:=hpopG (st0.length+1) v0 cs (.cells [vI op,vI xa,vI xb]) (fun m=>⟨⟨A3 _,rfl⟩,trivial⟩) hcs hc0 hd0
      have hpop2:=hpopG st0.length v1 cs (.cells [vI op,vI xa,vI xb]) (fun m=>⟨⟨A3 _,rfl⟩,trivial⟩) hcs hc1 (by omega)
      have hval2:Cm s oth ⟨op,xa,xb⟩ (v0::v1::st0) loc=opC op 0 v1 v0:=by
        unfold Cm
        simp only [h1,h2,h3,h4,h7,htk,if_false]
        rfl
      rw [hval2] at hex
      simp only [h23,h24,h25,h26,if_false,htk] at hex
      have hop:=X7 op 0 v1 v0
      have hsam:=Hg (op:=op) (a:=0) (x:=v1) (y:=v0)
      unfold vO at hop
      obtain⟨r,hr⟩ : ∃r,r=opC op 0 v1 v0:=⟨_,rfl⟩
      rw [←hr] at hex hop hsam
      obtain⟨r1,r2⟩:=r
      simp only [] at hex hop hsam
      cases hok2:r2
      · rw [hok2] at hex hop
        simp only [Bool.false_eq_true,if_false] at hex
        rw [←hex]
        (try simp -implicitDefEqProofs [h,hxc,hxc',Ins.l,Ins.c,gz,g1,s1,dg,dg0,ds0,hML,←hP,c1,c2,h1',h2',h3',h4',h5',h6',h7',h8',h9',h23',h24',h25',h26'])
        refine Ab hpop1 ?_
        (try simp -implicitDefEqProofs [h,hxc,hxc',Ins.l,Ins.c,gz,g1,s1,dg,dg0,ds0,hML,←hP,c1,c2])
        iterate 3
          all_goals (repeat' with_reducible apply And.intro)
          all_goals (try simp -implicitDefEqProofs [h,hxc,hxc',Ins.l,Ins.c,gz,g1,s1,dg,dg0,ds0,hML,←hP,c1,c2])
        all_goals refine Ab hpop2 ?_
        all_goals ((try simp at hop);(try simp -implicitDefEqProofs [h,hxc,hxc',Ins.l,Ins.c,gz,g1,s1,dg,dg0,ds0,hML,←hP,c1,c2,Bn,peV,pV,Bb]);repeat' first|(with_reducible apply A0<;>first|(simp only [eras,era,A1];first|with_reducible assumption)|(simp -implicitDefEqProofs [h,hxc,hxc',Ins.l,Ins.c,gz,g1,s1,dg,dg0,ds0,hML,←hP,c1,c2,Bn,peV,pV,Bb])))
        all_goals exact hdead _
      · rw [hok2] at hex hop
        have hxa:=hsam hok2
        have hex1:Aw s oth (ins.drop (k+1)) (r1::st0) loc ps=R:=by simpa using hex
        have hast1 : ∀w∈r1::st0,Ah w=true:=fun w hw=>by
          rcases List.mem_cons.1 hw with rfl|hw
          · exact hxa
          · exact hast w (by simp [hw])
        have hm2:Cl c0 (k+1)=some (max sz (((v0::v1::st0).length:Int)+(pt op-tk op)),((r1::st0).length:Int),(loc.length:Int)):=by
          rw [hm1,hpt,htk]
          simp only [h23,if_false,List.length_cons]
          congr 3
          omega
        (try simp -implicitDefEqProofs [h,hxc,hxc',Ins.l,Ins.c,gz,g1,s1,dg,dg0,ds0,hML,←hP,c1,c2,h1',h2',h3',h4',h5',h6',h7',h8',h9',h23',h24',h25',h26'])
        refine Ab hpop1 ?_
        (try simp -implicitDefEqProofs [h,hxc,hxc',Ins.l,Ins.c,gz,g1,s1,dg,dg0,ds0,hML,←hP,c1,c2])
        iterate 3
          all_goals (repeat' with_reducible apply And.intro)
          all_goals (try simp -implicitDefEqProofs [h,hxc,hxc',Ins.l,Ins.c,gz,g1,s1,dg,dg0,ds0,hML,←hP,c1,c2])
        all_goals refine Ab hpop2 ?_
        all_goals ((try simp at hop);(try simp -implicitDefEqProofs [h,hxc,hxc',Ins.l,Ins.c,gz,g1,s1,dg,dg0,ds0,hML,←hP,c1,c2,hct0]);repeat' first|(with_reducible apply A0<;>first|(simp only [eras,era,A1];first|with_reducible assumption)|(simp -implicitDefEqProofs [h,hxc,hxc',Ins.l,Ins.c,gz,g1,s1,dg,dg0,ds0,hML,←hP,c1,c2,hct0])))
        all_goals refine⟨⟨by omega,by unfold maxLen;omega,by omega⟩,Bd (RS.pushed hok (by rw [hci];exact h) hast1 hm2 (by rw [hci];exact hex1)) rfl h hP hbl hml hU hM ?_ e3 rfl⟩
        all_goals exact fun n m=>Dl hD _ _ _
    --END
    exact absurd rfl hrest
  · have hkk:k=ins.length:=by omega
    subst hkk
    rw [List.drop_of_length_le (Nat.le_refl _)] at hex
    have hRr:R=some []:=hex.symm
    rw [hRr]
    have hdead : ∀l:List Bx,A6 P 0 (M++l) ((B.set mb .dead).set b .dead):=fun l=>by rw [hM];exact Lb hU l (by omega)
    (try simp -implicitDefEqProofs [gz,g1,s1,hML,←hP,Bn,peV,pV,Bb,F8])
    exact hdead _
end Go.Proofs.YtmlpmdccfmmpoaaGreatDoor
