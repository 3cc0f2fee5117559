/- Chapter 35: results that stay in buffers; items turned; the reference's Valid and Same; the law ExecuteItems. -/
import Derived.Test.YtmlpmdccfmmpoaaGreatDoorRxB
import Derived.Test.YtmlpmdccfmmpoaaGreatDoorLea
import Derived.Test.YtmlpmdccfmmpoaaGreatDoorExV
import Derived.Test.YtmlpmdccfmmpoaaGreatDoorCodeM
import Derived.Test.YtmlpmdccfmmpoaaGreatDoorExM
set_option linter.unusedSimpArgs false
set_option linter.unusedVariables false
set_option maxHeartbeats 4000000
set_option maxRecDepth 8000
section
set_option linter.unusedSimpArgs false
set_option linter.unusedVariables false
set_option maxHeartbeats 4000000
set_option maxRecDepth 8000
namespace Go.Proofs.YtmlpmdccfmmpoaaGreatDoor
open E
section
variable {B:List Bx} {b kb:Nat} {s:Src} {oth:Int} {lv pv:V} {st:List Int} {cs:List V}
theorem Gs (n:Nat):(QM B b kb s oth lv pv n).length=B.length:=by unfold QM;simp
theorem Uo (n:Nat) (l:List Bx):(QM B b kb s oth lv pv n++l)[B.length]?=l[0]?:=by
 have:=Gs (B:=B) (b:=b) (kb:=kb) (s:=s) (oth:=oth) (lv:=lv) (pv:=pv) n
 rw [List.getElem?_append_right (by omega),this];simp
end
theorem Xj {B:List Bx} {b kb:Nat} {s:Src} {oth:Int} {lv pv:V} {st:List Int} {cs:List V} (h:QS B b kb s oth lv pv st cs) (hs:s.Ok) (ho:oth≠-2) (x:Ins) (loc:List Int) (hx:x.op=1∨x.op=2∨x.op=3∨x.op=4)
  (lb:Nat) (lcs:List V) (hl:x.op=2→lb≠b∧lv=.bw lb loc.length∧B[lb]?=some (.buf 3 1 lcs)∧lcs[x.a.toNat]?=some (vI (loc.getD x.a.toNat 0))∧0≤x.a∧x.a.toNat<loc.length∧loc.length≤8000) :
  FnS Tryz.prog 35 [.ptr b 0,x.v] ⟨B,[]⟩ (vB ((B9 s oth x st loc).2&&Ag (B9 s oth x st loc).1)) ⟨QF B b kb s oth lv pv (st.length+1)++[.dead,.buf 3 1 (((B9 s oth x st loc).1::st).reverse.map vI)],[]⟩:=by
 obtain⟨op,xa,xb⟩:=x
 simp only [] at hx hl
 have htk:=My op
 have hxU : ∀n m,E.leB n m (.cells [vI op,vI xa,vI xb]) (.cells [vI op,vI xa,vI xb]):=fun n m=>⟨A4 _,rfl⟩
 have hput:=fun v ok=>R8 h hxU (st':=st) (r:=[]) rfl v ok
 have hfin:=fun (v:Int)=>h.fin (.cells [vI op,vI xa,vI xb]) (st.length+1) ((v::st).reverse)
 have hMb:=fun l=>h.Mb st.length l
 have hMl:=Gs (B:=B) (b:=b) (kb:=kb) (s:=s) (oth:=oth) (lv:=lv) (pv:=pv) st.length
 have gz:=fun l=>Uo (B:=B) (b:=b) (kb:=kb) (s:=s) (oth:=oth) (lv:=lv) (pv:=pv) st.length l
 have hFl:(QF B b kb s oth lv pv (st.length+1)).length=B.length:=by have:=QS.flen (B:=B) (b:=b) (kb:=kb) (s:=s) (oth:=oth) (lv:=lv) (pv:=pv) (st.length+1) [];simpa using this
 have hbl:=A7 h.hb
 have hlE : ∀m,B[lb]?=some m→lb≠b→∀l,(QM B b kb s oth lv pv st.length++l)[lb]?=some m:=fun m hm hn l=>by
  have:=A7 hm
  unfold QM
  rw [List.getElem?_append_left (by simpa using this),List.getElem?_set_ne (fun e=>hn e.symm)]
  exact hm
 have hsum:=fun f t p=>Xg s f t p hs.len hs.amt
 rw [show (⟨B,[]⟩:St)=⟨QM B b kb s oth lv pv st.length,[]⟩ from by rw [h.same]]
 generalize QM B b kb s oth lv pv st.length=M at *
 generalize QF B b kb s oth lv pv (st.length+1)=F at *
 unfold B9
 simp only []
 unfold qC at hMb
 rcases hx with rfl|rfl|rfl|rfl
 ·have e:F5 1=(0,1):=by decide
  rw [e] at htk
  have hp:=hput xa true
  have hf:=hfin xa
  rw [if_pos rfl]
  simp only []
  generalize (xa::st).reverse.map vI=W at *
  (refine FnS.of_codeV mix Tryz.call35 kv_35 (by simp) (fun hB=>?_);(try simp at hB);(try simp -implicitDefEqProofs))
  ((try simp at htk);(try simp -implicitDefEqProofs [hMb,gz,hMl]);repeat' first|(with_reducible apply A0<;>first|(simp only [eras,era,A1];first|with_reducible assumption)|(simp -implicitDefEqProofs [hMb,gz,hMl])))
  refine A9 hp ?_
  (try simp -implicitDefEqProofs [hf,hFl])
 ·have e:F5 2=(0,1):=by decide
  rw [e] at htk
  obtain⟨l0,rfl,l2,l3,l4,l5,l6⟩:=hl rfl
  have hlE:=hlE _ l2 l0
  have hll:=A7 l3
  have l3' : ∀h,lcs[xa.toNat]'h=vI (loc.getD xa.toNat 0):=fun h=>by rw [List.getElem?_eq_getElem h] at l3;exact Option.some.inj l3
  have l7:xa<(loc.length:Int):=by omega
  have l8:xa.toNat+1≤lcs.length:=hll
  have hp:=hput (loc.getD xa.toNat 0) true
  have hf:=hfin (loc.getD xa.toNat 0)
  rw [if_neg (show ¬(2:Int)=1 by decide),if_pos rfl]
  simp only []
  generalize loc.getD xa.toNat 0=v at *
  generalize (v::st).reverse.map vI=W at *
  (refine FnS.of_codeV mix Tryz.call35 kv_35 (by simp) (fun hB=>?_);(try simp at hB);(try simp -implicitDefEqProofs))
  ((try simp at htk);(try simp -implicitDefEqProofs [hMb,gz,hMl,hlE,l3,l3',l4,l7,l8,hll]);repeat' first|(with_reducible apply A0<;>first|(simp only [eras,era,A1];first|with_reducible assumption)|(simp -implicitDefEqProofs [hMb,gz,hMl,hlE,l3,l3',l4,l7,l8,hll])))
  all_goals (repeat' with_reducible apply And.intro)
  all_goals refine A9 hp ?_
  all_goals (try simp -implicitDefEqProofs [hf,hFl])
 ·have e:F5 3=(0,1):=by decide
  rw [e] at htk
  have hsm:=hsum xa xb (-2)
  rw [show ((-2:Int) == -2)=true from rfl] at hsm
  have hp:=hput (An s.items xa xb true (-2)) true
  have hf:=hfin (An s.items xa xb true (-2))
  simp only [show ¬(3:Int)=1 by decide,show ¬(3:Int)=2 by decide,if_false,if_true]
  generalize An s.items xa xb true (-2)=v at *
  generalize (v::st).reverse.map vI=W at *
  unfold Src.qv at hsm
  (refine FnS.of_codeV mix Tryz.call35 kv_35 (by simp) (fun hB=>?_);(try simp at hB);(try simp -implicitDefEqProofs))
  ((try simp at htk hsm);(try simp -implicitDefEqProofs [hMb,gz,hMl]);repeat' first|(with_reducible apply A0<;>first|(simp only [eras,era,A1];first|with_reducible assumption)|(simp -implicitDefEqProofs [hMb,gz,hMl])))
  all_goals (repeat' with_reducible apply And.intro)
  all_goals ((try simp at hsm);(try simp -implicitDefEqProofs [hMb,gz,hMl]);repeat' first|(with_reducible apply A0<;>first|(simp only [eras,era,A1];first|with_reducible assumption)|(simp -implicitDefEqProofs [hMb,gz,hMl])))
  all_goals (repeat' with_reducible apply And.intro)
  all_goals refine A9 hp ?_
  all_goals (try simp -implicitDefEqProofs [hf,hFl])
 ·have e:F5 4=(0,1):=by decide
  rw [e] at htk
  have hsm:=hsum xa xb oth
  rw [show (oth == -2)=false by simpa using ho] at hsm
  have hp:=hput (An s.items xa xb false oth) true
  have hf:=hfin (An s.items xa xb false oth)
  simp only [show ¬(4:Int)=1 by decide,show ¬(4:Int)=2 by decide,show ¬(4:Int)=3 by decide,if_false,if_true]
  generalize An s.items xa xb false oth=v at *
  generalize (v::st).reverse.map vI=W at *
  unfold Src.qv at hsm
  (refine FnS.of_codeV mix Tryz.call35 kv_35 (by simp) (fun hB=>?_);(try simp at hB);(try simp -implicitDefEqProofs))
  ((try simp at htk hsm);(try simp -implicitDefEqProofs [hMb,gz,hMl]);repeat' first|(with_reducible apply A0<;>first|(simp only [eras,era,A1];first|with_reducible assumption)|(simp -implicitDefEqProofs [hMb,gz,hMl])))
  all_goals (repeat' with_reducible apply And.intro)
  all_goals ((try simp at hsm);(try simp -implicitDefEqProofs [hMb,gz,hMl]);repeat' first|(with_reducible apply A0<;>first|(simp only [eras,era,A1];first|with_reducible assumption)|(simp -implicitDefEqProofs [hMb,gz,hMl])))
  all_goals (repeat' with_reducible apply And.intro)
  all_goals refine A9 hp ?_
  all_goals (try simp -implicitDefEqProofs [hf,hFl])
theorem Xk {B:List Bx} {b kb:Nat} {s:Src} {oth:Int} {lv pv:V} {st:List Int} {cs:List V} {v0:Int} (h:QS B b kb s oth lv pv (v0::st) cs) (hs:s.Ok) (x:Ins) (loc:List Int) (hx:x.op=7∨(x.op≠1∧x.op≠2∧x.op≠3∧x.op≠4∧x.op≠7∧(F5 x.op).1=1∧tk x.op=1)) :
  FnS Tryz.prog 35 [.ptr b 0,x.v] ⟨B,[]⟩ (vB ((B9 s oth x (v0::st) loc).2&&Ag (B9 s oth x (v0::st) loc).1)) ⟨QF B b kb s oth lv pv (st.length+1)++[.dead,.buf 3 1 (((B9 s oth x (v0::st) loc).1::st).reverse.map vI)],[]⟩:=by
 obtain⟨op,xa,xb⟩:=x
 simp only [] at hx
 have htk:=My op
 have hxU : ∀n m,E.leB n m (.cells [vI op,vI xa,vI xb]) (.cells [vI op,vI xa,vI xb]):=fun n m=>⟨A4 _,rfl⟩
 have hput:=fun v ok=>R8 h hxU (st':=st) (r:=[v0]) rfl v ok
 have hpop:=R7 h hxU (n:=st.length) (v:=v0) (by simp) (h.get (by simp) (by simp))
 have hfin:=fun (v:Int)=>h.fin (.cells [vI op,vI xa,vI xb]) (st.length+1) ((v::st).reverse)
 have hMb:=fun l=>h.Mb (st.length+1) l
 have hMl:=Gs (B:=B) (b:=b) (kb:=kb) (s:=s) (oth:=oth) (lv:=lv) (pv:=pv) (st.length+1)
 have gz:=fun l=>Uo (B:=B) (b:=b) (kb:=kb) (s:=s) (oth:=oth) (lv:=lv) (pv:=pv) (st.length+1) l
 have hMb1:=fun l=>h.Mb st.length l
 have hMl1:=Gs (B:=B) (b:=b) (kb:=kb) (s:=s) (oth:=oth) (lv:=lv) (pv:=pv) st.length
 have gz1:=fun l=>Uo (B:=B) (b:=b) (kb:=kb) (s:=s) (oth:=oth) (lv:=lv) (pv:=pv) st.length l
 have hFl:(QF B b kb s oth lv pv (st.length+1)).length=B.length:=by have:=QS.flen (B:=B) (b:=b) (kb:=kb) (s:=s) (oth:=oth) (lv:=lv) (pv:=pv) (st.length+1) [];simpa using this
 have hbl:=A7 h.hb
 rw [show (⟨B,[]⟩:St)=⟨QM B b kb s oth lv pv (st.length+1),[]⟩ from by rw [←List.length_cons (a:=v0),h.same]]
 generalize QM B b kb s oth lv pv (st.length+1)=M at *
 generalize QM B b kb s oth lv pv st.length=M1 at *
 generalize QF B b kb s oth lv pv (st.length+1)=F at *
 unfold qC at hMb hMb1
 rcases hx with rfl|⟨n1,n2,n3,n4,n7,hk,hkk⟩
 ·have e:F5 7=(1,1):=by decide
  rw [e] at htk
  have hsc:=X0 v0 s.num s.den hs.num hs.den0 hs.den
  have hv:B9 s oth ⟨7,xa,xb⟩ (v0::st) loc=((D3 v0 s.num s.den).1,(D3 v0 s.num s.den).2==0):=by
   rw [←Ou];rfl
  rw [hv]
  generalize D3 v0 s.num s.den=r at *
  obtain⟨r1,r2⟩:=r
  simp only [] at hsc ⊢
  have hp:=hput r1 (r2==0)
  have hf:=hfin r1
  generalize (r1::st).reverse.map vI=W at *
  unfold sV at hsc
  (refine FnS.of_codeV mix Tryz.call35 kv_35 (by simp) (fun hB=>?_);(try simp at hB);(try simp -implicitDefEqProofs))
  ((try simp at htk);(try simp -implicitDefEqProofs [hMb,gz,hMl]);repeat' first|(with_reducible apply A0<;>first|(simp only [eras,era,A1];first|with_reducible assumption)|(simp -implicitDefEqProofs [hMb,gz,hMl])))
  refine A9 hpop ?_
  ((try simp at hsc);(try simp -implicitDefEqProofs [hMb1,gz1,hMl1]);repeat' first|(with_reducible apply A0<;>first|(simp only [eras,era,A1];first|with_reducible assumption)|(simp -implicitDefEqProofs [hMb1,gz1,hMl1])))
  all_goals (repeat' with_reducible apply And.intro)
  all_goals refine A9 hp ?_
  all_goals (try simp -implicitDefEqProofs [hf,hFl])
 ·generalize he:F5 op=tk2 at *
  obtain⟨t1,t2⟩:=tk2
  simp only [] at hk
  subst hk
  have hop:=A0g op xa v0 0
  have hv:B9 s oth ⟨op,xa,xb⟩ (v0::st) loc=opR op xa v0 0:=by
   unfold B9
   simp only []
   rw [if_neg n1,if_neg n2,if_neg n3,if_neg n4,if_neg n7,if_pos hkk];rfl
  rw [hv]
  generalize opR op xa v0 0=r at *
  obtain⟨r1,r2⟩:=r
  unfold vO at hop
  simp only [] at hop ⊢
  have hp:=hput r1 r2
  have hf:=hfin r1
  generalize (r1::st).reverse.map vI=W at *
  (refine FnS.of_codeV mix Tryz.call35 kv_35 (by simp) (fun hB=>?_);(try simp at hB);(try simp -implicitDefEqProofs))
  ((try simp at htk);(try simp -implicitDefEqProofs [hMb,gz,hMl]);repeat' first|(with_reducible apply A0<;>first|(simp only [eras,era,A1];first|with_reducible assumption)|(simp -implicitDefEqProofs [hMb,gz,hMl])))
  refine A9 hpop ?_
  have b1:(op==1)=false:=by simpa using n1
  have b2:(op==2)=false:=by simpa using n2
  have b3:(op==3)=false:=by simpa using n3
  have b4:(op==4)=false:=by simpa using n4
  have b7:(op==7)=false:=by simpa using n7
  ((try simp at hop);(try simp -implicitDefEqProofs [hMb1,gz1,hMl1,b1,b2,b3,b4,b7,n1,n2,n3,n4,n7]);repeat' first|(with_reducible apply A0<;>first|(simp only [eras,era,A1];first|with_reducible assumption)|(simp -implicitDefEqProofs [hMb1,gz1,hMl1,b1,b2,b3,b4,b7,n1,n2,n3,n4,n7])))
  all_goals (repeat' with_reducible apply And.intro)
  all_goals refine A9 hp ?_
  all_goals (try simp -implicitDefEqProofs [hf,hFl])
theorem Xl {B:List Bx} {b kb:Nat} {s:Src} {oth:Int} {lv pv:V} {st:List Int} {cs:List V} {v0 v1:Int} (h:QS B b kb s oth lv pv (v0::v1::st) cs) (hs:s.Ok) (x:Ins) (loc:List Int) (hx:x.op≠1∧x.op≠2∧x.op≠3∧x.op≠4∧x.op≠7∧(F5 x.op).1=2∧tk x.op=2) :
  FnS Tryz.prog 35 [.ptr b 0,x.v] ⟨B,[]⟩ (vB ((B9 s oth x (v0::v1::st) loc).2&&Ag (B9 s oth x (v0::v1::st) loc).1)) ⟨QF B b kb s oth lv pv (st.length+1)++[.dead,.buf 3 1 (((B9 s oth x (v0::v1::st) loc).1::st).reverse.map vI)],[]⟩:=by
 obtain⟨op,xa,xb⟩:=x
 simp only [] at hx
 have htk:=My op
 have hxU : ∀n m,E.leB n m (.cells [vI op,vI xa,vI xb]) (.cells [vI op,vI xa,vI xb]):=fun n m=>⟨A4 _,rfl⟩
 have hput:=fun v ok=>R8 h hxU (st':=st) (r:=[v0,v1]) rfl v ok
 have hpop:=R7 h hxU (n:=st.length+1) (v:=v0) (by simp) (h.get (by simp) (by simp))
 have hpop2:=R7 h hxU (n:=st.length) (v:=v1) (by simp;omega) (h.get (by simp;omega) (by simp [List.getElem?_append_left]))
 have hfin:=fun (v:Int)=>h.fin (.cells [vI op,vI xa,vI xb]) (st.length+1) ((v::st).reverse)
 have hMb:=fun l=>h.Mb (st.length+1+1) l
 have hMb2:=fun l=>h.Mb (st.length+1) l
 have hMl:=Gs (B:=B) (b:=b) (kb:=kb) (s:=s) (oth:=oth) (lv:=lv) (pv:=pv) (st.length+1+1)
 have gz:=fun l=>Uo (B:=B) (b:=b) (kb:=kb) (s:=s) (oth:=oth) (lv:=lv) (pv:=pv) (st.length+1+1) l
 have hMl2:=Gs (B:=B) (b:=b) (kb:=kb) (s:=s) (oth:=oth) (lv:=lv) (pv:=pv) (st.length+1)
 have gz2:=fun l=>Uo (B:=B) (b:=b) (kb:=kb) (s:=s) (oth:=oth) (lv:=lv) (pv:=pv) (st.length+1) l
 have hMb1:=fun l=>h.Mb st.length l
 have hMl1:=Gs (B:=B) (b:=b) (kb:=kb) (s:=s) (oth:=oth) (lv:=lv) (pv:=pv) st.length
 have gz1:=fun l=>Uo (B:=B) (b:=b) (kb:=kb) (s:=s) (oth:=oth) (lv:=lv) (pv:=pv) st.length l
 have hFl:(QF B b kb s oth lv pv (st.length+1)).length=B.length:=by have:=QS.flen (B:=B) (b:=b) (kb:=kb) (s:=s) (oth:=oth) (lv:=lv) (pv:=pv) (st.length+1) [];simpa using this
 have hbl:=A7 h.hb
 rw [show (⟨B,[]⟩:St)=⟨QM B b kb s oth lv pv (st.length+1+1),[]⟩ from by rw [←List.length_cons (a:=v1),←List.length_cons (a:=v0),h.same]]
 generalize QM B b kb s oth lv pv (st.length+1+1)=M at *
 generalize QM B b kb s oth lv pv (st.length+1)=M2 at *
 generalize QM B b kb s oth lv pv st.length=M1 at *
 generalize QF B b kb s oth lv pv (st.length+1)=F at *
 unfold qC at hMb hMb1 hMb2
 obtain⟨n1,n2,n3,n4,n7,hk,hkk⟩:=hx
 generalize he:F5 op=tk2 at *
 obtain⟨t1,t2⟩:=tk2
 simp only [] at hk
 subst hk
 have hop:=A0g op xa v1 v0
 have hv:B9 s oth ⟨op,xa,xb⟩ (v0::v1::st) loc=opR op xa v1 v0:=by
  unfold B9
  simp only []
  rw [if_neg n1,if_neg n2,if_neg n3,if_neg n4,if_neg n7,if_neg (by omega)];rfl
 rw [hv]
 generalize opR op xa v1 v0=r at *
 obtain⟨r1,r2⟩:=r
 unfold vO at hop
 simp only [] at hop ⊢
 have hp:=hput r1 r2
 have hf:=hfin r1
 generalize (r1::st).reverse.map vI=W at *
 (refine FnS.of_codeV mix Tryz.call35 kv_35 (by simp) (fun hB=>?_);(try simp at hB);(try simp -implicitDefEqProofs))
 ((try simp at htk);(try simp -implicitDefEqProofs [hMb,gz,hMl]);repeat' first|(with_reducible apply A0<;>first|(simp only [eras,era,A1];first|with_reducible assumption)|(simp -implicitDefEqProofs [hMb,gz,hMl])))
 refine A9 hpop ?_
 (try simp -implicitDefEqProofs [hMb2,gz2,hMl2])
 refine A9 hpop2 ?_
 have b1:(op==1)=false:=by simpa using n1
 have b2:(op==2)=false:=by simpa using n2
 have b3:(op==3)=false:=by simpa using n3
 have b4:(op==4)=false:=by simpa using n4
 have b7:(op==7)=false:=by simpa using n7
 ((try simp at hop);(try simp -implicitDefEqProofs [hMb1,gz1,hMl1,b1,b2,b3,b4,b7,n1,n2,n3,n4,n7]);repeat' first|(with_reducible apply A0<;>first|(simp only [eras,era,A1];first|with_reducible assumption)|(simp -implicitDefEqProofs [hMb1,gz1,hMl1,b1,b2,b3,b4,b7,n1,n2,n3,n4,n7])))
 all_goals (repeat' with_reducible apply And.intro)
 all_goals refine A9 hp ?_
 all_goals (try simp -implicitDefEqProofs [hf,hFl])
end Go.Proofs.YtmlpmdccfmmpoaaGreatDoor
end
namespace Go.Proofs.YtmlpmdccfmmpoaaGreatDoor
open E
theorem I4 {k:Int} : ∀{l:List Part},(∀p∈l,Ag p.amt=true)→-(1000000000000*(l.length:Int))≤B6 l k∧B6 l k≤1000000000000*(l.length:Int)
 | [],_=>by simp [B6]
 | p::l,h=>by
  have ih:=I4 (k:=k) (l:=l) fun q hq=>h q (by simp [hq])
  have h1:=Hi (h p (by simp))
  rw [K4,List.length_cons]
  push_cast
  split<;>omega
def SM (l:List Part):Prop:=∀(j:Nat) (k:Int),-9000000000000000000≤B6 (l.take j) k∧B6 (l.take j) k≤9000000000000000000
theorem SM.of {l:List Part} (h : ∀p∈l,Ag p.amt=true) (hl:l.length≤8001):SM l:=fun j k=>by
 have h1:=I4 (k:=k) (l:=l.take j) fun p hp=>h p (List.mem_of_mem_take hp)
 have h2:(l.take j).length≤8001:=by simp;omega
 omega
theorem SM.to {l:List Part} (h : ∀p∈l,Ag p.amt=true) (hl:l.length≤8000) (a:Int) {x:Int} (hx : -8000000000000000≤x∧x≤8000000000000000):SM (l++[⟨a,x⟩]):=fun j k=>by
 rcases Nat.lt_or_ge l.length j with hj|hj
 ·rw [List.take_of_length_le (by simp;omega)]
  have h1:=I4 (k:=k) h
  have h2:B6 (l++[⟨a,x⟩]) k=B6 l k+(if a=k then x else 0):=by unfold B6;simp
  rw [h2]
  split<;>omega
 ·rw [List.take_append_of_le_length hj]
  exact SM.of h (by omega) j k
theorem Pg {l:List Sou} {cs:List Code} (h:R4 l cs=true):l.length≤13∧cs.length≤10∧(∀c∈cs,c.ins.length≤400)∧∀x∈l,x.items.length≤60:=by
 unfold R4 Hm at h
 simp only [Bool.and_eq_true,List.all_eq_true,decide_eq_true_eq] at h
 exact⟨h.1.2,h.2,fun c hc=>(h.1.1.2 c hc).2,h.1.1.1⟩
theorem Xm {l:List Sou} {cs:List Code} (h:R4 l cs=true) (hw : ∀x∈l,x.wf) : ∀s∈l.map Sou.src,s.num.natAbs≤100000∧0<s.den∧s.den≤100000∧s.items.length≤1000:=by
 intro s hs
 obtain⟨x,hx,rfl⟩:=List.mem_map.1 hs
 have h1:=(Pg h).2.2.2 x hx
 obtain⟨h2,h3⟩:=hw x hx
 have h4:=Mi (a:=x.sh) (q:=10000) (by decide)
 have h5:=Qt (a:=x.sh) (q:=10000)
 have h6:=Mh (a:=x.sh) (q:=10000) (by decide)
 unfold Sou.src
 exact⟨by simp only [];omega,h6,by simp only [];omega,by simp only [];omega⟩
structure BalP (cs:List Code) (p:Posting):Prop where
 kind:p.kind=10
 r0:0≤p.rule
 rl:p.rule<cs.length
 oth : ∀c,cs[p.rule.toNat]?=some c→(p.oth == -1) = !c.pair
 parts:PartsOk p.parts
 two:2≤p.parts.length
 len:p.parts.length≤8000
end Go.Proofs.YtmlpmdccfmmpoaaGreatDoor
section
set_option linter.unusedVariables false
namespace Go.Proofs.YtmlpmdccfmmpoaaGreatDoor
namespace E
def A57 (rvs:List RV) (nb nt:Nat) (r:V) (S':St) (e:Ex) (a:Fr) (S1:St):Prop:=
 (match e with | .ex _=>False | .pn _=>False|_=>True)∧(nb≤S'.boxes.length∧nt≤S'.toks.length)∧
 match O2 a S1 rvs with
 | some vs=>leS S1 S'∧leV (Ie vs) r∧okN S'.boxes.length S'.toks.length r=true
 | none=>False
attribute [simp] A57
end E
end Go.Proofs.YtmlpmdccfmmpoaaGreatDoor
set_option linter.unusedSimpArgs false
set_option linter.unusedVariables false
namespace Go.Proofs.YtmlpmdccfmmpoaaGreatDoor
open E
structure Alike (a b:Src):Prop where
 ent:a.ent=b.ent
 full:a.full=b.full
 num:a.num=b.num
 den:a.den=b.den
 rd : ∀f t any p,An a.items f t any p=An b.items f t any p
end Go.Proofs.YtmlpmdccfmmpoaaGreatDoor
set_option linter.unusedSimpArgs false
set_option linter.unusedVariables false
set_option maxHeartbeats 4000000
set_option maxRecDepth 8000
namespace Go.Proofs.YtmlpmdccfmmpoaaGreatDoor
open E

theorem R9 (l:List Src) (hl:l.length≤1000000) (hi : ∀s∈l,s.items.length≤1000000):A3 Tryz.prog 32 [Src.ql l] (vB (Dh l)):=by
 obtain⟨R,hR⟩ : ∃R,R=Dh l:=⟨_,rfl⟩
 rw [←hR]
 have hok:=Lo l
 rw [←hR] at hok
 (refine A3.of_code mix Tryz.call32 k_32 (by simp) (fun hB=>?_);(try simp at hB);(try simp -implicitDefEqProofs))
 (try simp -implicitDefEqProofs)
 refine A6 (X:=Nat) (fun k=>k≤l.length∧∀j,j<k→Dt l j (l.getD j ⟨0,false,0,0,[]⟩)=false) (fun k=>[(0,Src.ql l),(3,vI k)]) (fun _=>⟨[],[]⟩) (fun k=>l.length-k) 0 ⟨by omega,fun j h=>by omega⟩ ?hs ?_
 case hs=>simp [Src.ql,okN]
 rintro k ⟨hk,hb⟩ hbd
 clear hbd
 have e3:IntKind.i64.wrap ((k:Int)+1)=(k:Int)+1:=wrap64 (by omega) (by omega)
 have e4:IntKind.i64.wrap ((k:Int)-1)=(k:Int)-1:=wrap64 (by omega) (by omega)
 rcases Nat.lt_or_ge k l.length with h|h
 ·obtain⟨s,hs⟩:=Ab h
  have hgd:l.getD k ⟨0,false,0,0,[]⟩=s:=by rw [List.getD_eq_getElem?_getD,hs];rfl
  have hsc:(l.map Src.q)[k]?=some s.q:=by simp [hs]
  have hsc' : ∀h,(l.map Src.q)[k]'h=s.q:=fun h=>by rw [List.getElem?_eq_getElem h] at hsc;exact Option.some.inj hsc
  have hcc:s.q=[.int .i64 s.ent,.bool s.full,.bool (nB s.num),.sl (qE s.num),.bool (nB s.den),.sl (qE s.den),.sl (s.items.map Item.c)]:=rfl
  rw [hcc] at hsc hsc'
  have hil:=hi s (List.mem_of_getElem? hs)
  have hfail:Dt l k s=true→R=false:=fun hq=>by
   rw [hok,List.all_eq_false]
   exact⟨k,List.mem_range.2 h,by rw [hgd,hq];simp⟩
  have hnext:Dt l k s=false→∀j,j<k+1→Dt l j (l.getD j ⟨0,false,0,0,[]⟩)=false:=fun hq j hj=>by
   rcases Nat.lt_or_ge j k with h1|h1
   ·exact hb j h1
   ·have:j=k:=by omega
    subst this;rw [hgd];exact hq
  by_cases c1:s.ent<0
  ·have hf:=hfail (by simp [Dt,c1])
   rw [hf]
   (try simp -implicitDefEqProofs [h,hsc,hsc',Src.ql,c1])
  by_cases c2:12≤s.ent
  ·have hf:=hfail (by simp [Dt,c2])
   rw [hf]
   (try simp -implicitDefEqProofs [h,hsc,hsc',Src.ql,c1,c2])
  have hrest:Dt l k s=((decide (0<k)&&decide (s.ent≤(l.getD (k-1) ⟨0,false,0,0,[]⟩).ent))||s.items.any fun x=>!Ag x.amt):=by
   unfold Dt
   have d1:decide (s.ent<0)=false:=by simpa using c1
   have d2:decide (12≤s.ent)=false:=by simpa using c2
   rw [d1,d2];rfl
  rcases Nat.eq_zero_or_pos k with k0|k0
  ·subst k0
   (try simp -implicitDefEqProofs [h,hsc,hsc',Src.ql,c1,c2])
   refine A6 (X:=Nat) (fun j=>j≤s.items.length∧∀y∈s.items.take j,Ag y.amt=true) (fun j=>[(0,Src.ql l),(3,vI (0:Int)),(4,vI j)]) (fun _=>⟨[],[]⟩) (fun j=>s.items.length-j) 0 ⟨by omega,by simp⟩ (by simp [Src.ql,okN]) ?_
   rintro j ⟨hj,hjb⟩ hbd
   clear hbd
   rcases Nat.lt_or_ge j s.items.length with h2|h2
   ·obtain⟨x,hx⟩:=Ab h2
    have e5:IntKind.i64.wrap ((j:Int)+1)=(j:Int)+1:=wrap64 (by omega) (by omega)
    have hxc:(s.items.map Item.c)[j]?=some x.c:=by simp [hx]
    have hxc' : ∀h,(s.items.map Item.c)[j]'h=x.c:=fun h=>by rw [List.getElem?_eq_getElem h] at hxc;exact Option.some.inj hxc
    have ha:=Bh x.amt
    cases hv:Ag x.amt
    ·rw [hv] at ha
     rw [hfail (by rw [hrest];simp only [Bool.or_eq_true];exact .inr (List.any_eq_true.2 ⟨x,List.mem_of_getElem? hx,by rw [hv];rfl⟩))]
     obtain⟨i1,i2,i3,i4,i5,i6,i7⟩:=x
     ((try simp at ha);(try simp -implicitDefEqProofs [h,hsc,hsc',Src.ql,h2,hxc,hxc',Item.c]);repeat' first|(with_reducible apply A0<;>first|(simp only [eras,era,A1];first|with_reducible assumption)|(simp -implicitDefEqProofs [h,hsc,hsc',Src.ql,h2,hxc,hxc',Item.c])))
    ·rw [hv] at ha
     have hfin : ∃z':Nat,(z'≤s.items.length∧∀y∈s.items.take z',Ag y.amt=true)∧s.items.length-z'<s.items.length-j∧(z':Int)=(j:Int)+1:=by
      refine⟨j+1,⟨by omega,fun y hy=>?_⟩,by omega,by push_cast;rfl⟩
      rw [Ah hx] at hy
      rcases List.mem_append.1 hy with h1|h1
      ·exact hjb y h1
      ·simp at h1;subst h1;exact hv
     obtain⟨i1,i2,i3,i4,i5,i6,i7⟩:=x
     ((try simp at ha);(try simp -implicitDefEqProofs [h,hsc,hsc',Src.ql,h2,hxc,hxc',Item.c,e5]);repeat' first|(with_reducible apply A0<;>first|(simp only [eras,era,A1];first|with_reducible assumption)|(simp -implicitDefEqProofs [h,hsc,hsc',Src.ql,h2,hxc,hxc',Item.c,e5])))
     exact hfin
   ·have hje:j=s.items.length:=by omega
    subst hje
    rw [List.take_of_length_le (Nat.le_refl _)] at hjb
    have ha:(s.items.any fun x=>!Ag x.amt)=false:=by
     rw [List.any_eq_false];intro y hy;simp [hjb y hy]
    have hn:=hnext (by rw [hrest,ha];rfl)
    have hfin : ∃z':Nat,(z'≤l.length∧∀j,j<z'→Dt l j (l.getD j ⟨0,false,0,0,[]⟩)=false)∧l.length-z'<l.length-(0:Nat)∧(z':Int)=((0:Nat):Int)+1:=⟨(0:Nat)+1,⟨by omega,hn⟩,by omega,by simp⟩
    (try simp -implicitDefEqProofs [h,hsc,hsc',Src.ql,e3])
    simpa [List.getD_eq_getElem?_getD] using hfin
  ·obtain⟨q,hq⟩:=Ab (show k-1<l.length by omega)
   have hgq:l.getD (k-1) ⟨0,false,0,0,[]⟩=q:=by rw [List.getD_eq_getElem?_getD,hq];rfl
   rw [hgq] at hrest
   have hqc:(l.map Src.q)[k-1]?=some q.q:=by simp [hq]
   have hqc' : ∀h,(l.map Src.q)[k-1]'h=q.q:=fun h=>by rw [List.getElem?_eq_getElem h] at hqc;exact Option.some.inj hqc
   have hqq:q.q=[.int .i64 q.ent,.bool q.full,.bool (nB q.num),.sl (qE q.num),.bool (nB q.den),.sl (qE q.den),.sl (q.items.map Item.c)]:=rfl
   rw [hqq] at hqc hqc'
   have i1:((k:Int)-1).toNat=k-1:=by omega
   have j1:(1:Int)≤k:=by omega
   have j2:(k:Int)-1<l.length:=by omega
   have d0:decide (0<k)=true:=by simpa using k0
   rw [d0,Bool.true_and] at hrest
   by_cases c3:s.ent≤q.ent
   ·rw [hfail (by rw [hrest];simp [c3])]
    (try simp -implicitDefEqProofs [h,hsc,hsc',hqc,hqc',Src.ql,c1,c2,k0,i1,j1,j2,e4,c3])
   ·have d3:decide (s.ent≤q.ent)=false:=by simpa using c3
    rw [d3,Bool.false_or] at hrest
    (try simp -implicitDefEqProofs [h,hsc,hsc',hqc,hqc',Src.ql,c1,c2,k0,i1,j1,j2,e4,c3])
    refine A6 (X:=Nat) (fun j=>j≤s.items.length∧∀y∈s.items.take j,Ag y.amt=true) (fun j=>[(0,Src.ql l),(3,vI k),(4,vI j)]) (fun _=>⟨[],[]⟩) (fun j=>s.items.length-j) 0 ⟨by omega,by simp⟩ (by simp [Src.ql,okN]) ?_
    rintro j ⟨hj,hjb⟩ hbd
    clear hbd
    rcases Nat.lt_or_ge j s.items.length with h2|h2
    ·obtain⟨x,hx⟩:=Ab h2
     have e5:IntKind.i64.wrap ((j:Int)+1)=(j:Int)+1:=wrap64 (by omega) (by omega)
     have hxc:(s.items.map Item.c)[j]?=some x.c:=by simp [hx]
     have hxc' : ∀h,(s.items.map Item.c)[j]'h=x.c:=fun h=>by rw [List.getElem?_eq_getElem h] at hxc;exact Option.some.inj hxc
     have ha:=Bh x.amt
     cases hv:Ag x.amt
     ·rw [hv] at ha
      rw [hfail (by rw [hrest];exact List.any_eq_true.2 ⟨x,List.mem_of_getElem? hx,by rw [hv];rfl⟩)]
      obtain⟨i1,i2,i3,i4,i5,i6,i7⟩:=x
      ((try simp at ha);(try simp -implicitDefEqProofs [h,hsc,hsc',Src.ql,h2,hxc,hxc',Item.c]);repeat' first|(with_reducible apply A0<;>first|(simp only [eras,era,A1];first|with_reducible assumption)|(simp -implicitDefEqProofs [h,hsc,hsc',Src.ql,h2,hxc,hxc',Item.c])))
     ·rw [hv] at ha
      have hfin : ∃z':Nat,(z'≤s.items.length∧∀y∈s.items.take z',Ag y.amt=true)∧s.items.length-z'<s.items.length-j∧(z':Int)=(j:Int)+1:=by
       refine⟨j+1,⟨by omega,fun y hy=>?_⟩,by omega,by push_cast;rfl⟩
       rw [Ah hx] at hy
       rcases List.mem_append.1 hy with h1|h1
       ·exact hjb y h1
       ·simp at h1;subst h1;exact hv
      obtain⟨i1,i2,i3,i4,i5,i6,i7⟩:=x
      ((try simp at ha);(try simp -implicitDefEqProofs [h,hsc,hsc',Src.ql,h2,hxc,hxc',Item.c,e5]);repeat' first|(with_reducible apply A0<;>first|(simp only [eras,era,A1];first|with_reducible assumption)|(simp -implicitDefEqProofs [h,hsc,hsc',Src.ql,h2,hxc,hxc',Item.c,e5])))
      exact hfin
    ·have hje:j=s.items.length:=by omega
     subst hje
     rw [List.take_of_length_le (Nat.le_refl _)] at hjb
     have ha:(s.items.any fun x=>!Ag x.amt)=false:=by
      rw [List.any_eq_false];intro y hy;simp [hjb y hy]
     have hn:=hnext (by rw [hrest,ha])
     have hfin : ∃z':Nat,(z'≤l.length∧∀j,j<z'→Dt l j (l.getD j ⟨0,false,0,0,[]⟩)=false)∧l.length-z'<l.length-k∧(z':Int)=(k:Int)+1:=⟨k+1,⟨by omega,hn⟩,by omega,by push_cast;rfl⟩
     (try simp -implicitDefEqProofs [h,hsc,hsc',Src.ql,e3])
     simpa [List.getD_eq_getElem?_getD] using hfin
 ·have hkk:k=l.length:=by omega
  subst hkk
  have hRt:R=true:=by
   rw [hok]
   exact List.all_eq_true.2 fun j hj=>by rw [hb j (List.mem_range.1 hj)];rfl
  rw [hRt]
  (try simp -implicitDefEqProofs [Src.ql])
end Go.Proofs.YtmlpmdccfmmpoaaGreatDoor
set_option linter.unusedSimpArgs false
set_option linter.unusedVariables false
set_option maxHeartbeats 4000000
set_option maxRecDepth 8000
namespace Go.Proofs.YtmlpmdccfmmpoaaGreatDoor
open E

theorem Aa.dead {n m:Nat} : ∀(D:List Bx),Aa n m D (List.replicate D.length .dead)
 | []=>trivial
 | x::D=>⟨trivial,Aa.dead D⟩
theorem Aa.append {n m:Nat} : ∀{A A' l l':List Bx},Aa n m A A'→Aa n m l l'→A.length=A'.length→Aa n m (A++l) (A'++l')
 | [],[],_,_,_,h,_=>h
 | a::A,b::B,l,l',h,h2,hl=>⟨h.1,Aa.append h.2 h2 (by simpa using hl)⟩
end Go.Proofs.YtmlpmdccfmmpoaaGreatDoor
set_option linter.unusedSimpArgs false
set_option linter.unusedVariables false
set_option maxHeartbeats 4000000
set_option maxRecDepth 8000
namespace Go.Proofs.YtmlpmdccfmmpoaaGreatDoor
open E

end Go.Proofs.YtmlpmdccfmmpoaaGreatDoor
end
