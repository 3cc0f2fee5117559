/- Walks of chapter 34: Own, Size, Valid, Same, Few. -/
import Derived.Test.YtmlpmdccfmmpoaaGreatRfb
set_option linter.unusedSimpArgs false
set_option linter.unusedVariables false
set_option maxHeartbeats 1000000
set_option maxRecDepth 8000
namespace Go.Proofs.YtmlpmdccfmmpoaaGreat
open E

theorem w_own (c:Code) (hlen:c.ins.length≤1000000):Pure Tryz.prog 19 [c.v] c.v:=by
 obtain⟨cn,pair,ins⟩:=c
 simp only [] at hlen
 (refine Pure.of_code mix Tryz.call19 k_19 (by simp) (fun hB=>?_); (try simp at hB); (try simp -implicitDefEqProofs [qc_19]))
 refine loop_grow [(.cell 2 2,77,3)] (X:=Nat) (fun k=>k≤ins.length) (fun k=>[(1,.ptr 0 0),(2,.ptr 1 0),(3,.ptr 2 0),(4,vI k)])
  (fun k=>⟨[.cells [vS cn,vB pair,Ins.l ins],.cells [vS [],vB false,.snil],.cells [vS cn,vB pair,.own 0 77 3 ((ins.take k).map Ins.c)]],[k]⟩) (fun k=>ins.length-k) 0 (by omega) (by simp) ?_
 rintro k hk hbd
 rcases Nat.lt_or_ge k ins.length with h | h
 ·have hx:ins[k]?=some ins[k]:=by simp [h]
  have e3:IntKind.i64.wrap ((k:Int)+1)=(k:Int)+1:=wrap64 (by omega) (by omega)
  have hrv:(ins.map Ins.c).take (k+1)=(ins.map Ins.c).take k++[ins[k].c]:=by rw [take_next (x:=ins[k].c) (by simp [h])]
  have hmin:min k ins.length=k:=by omega
  ((try simp -implicitDefEqProofs [h,e3,maxLen,hmin]); repeat' first | ((with_reducible first | apply gdK_em | apply cdK_em | apply pickK_em)<;>(intro hc; have hc':=hc; (try simp at hc'); simp -implicitDefEqProofs [hc,hc',h,e3,maxLen,hmin])))
  exact⟨⟨by omega,by omega⟩,k+1,by omega,by omega,⟨by rw [hrv]; exact .inl rfl,rfl⟩,by push_cast; rfl⟩
 ·have:k=ins.length:=by omega
  subst this
  have ht:(ins.map Ins.c).take ins.length=ins.map Ins.c:=List.take_of_length_le (by simp)
  ((try simp -implicitDefEqProofs [ht]); repeat' first | ((with_reducible first | apply gdK_em | apply cdK_em | apply pickK_em)<;>(intro hc; have hc':=hc; (try simp at hc'); simp -implicitDefEqProofs [hc,hc',ht])))

theorem w_rvalid (c:Code) (hlen:c.ins.length≤1000000):Pure Tryz.prog 31 [c.v] (vB (meaR c).2):=by
 have hm:=w_rrun c hlen
 generalize meaR c=r at *
 obtain⟨n,ok⟩:=r
 obtain⟨cn,pair,ins⟩:=c
 simp only [vO] at hm
 (refine Pure.of_code mix Tryz.call31 k_31 (by simp) (fun hB=>?_); (try simp at hB); (try simp -implicitDefEqProofs [qc_31]))
 ((try simp at hm); (try simp -implicitDefEqProofs); repeat' first | ((with_reducible first | apply gdK_em | apply cdK_em | apply pickK_em)<;>(intro hc; have hc':=hc; (try simp at hc'); simp -implicitDefEqProofs [hc,hc'])) | (with_reducible apply callK_pure<;>first | (simp only [eras,era,eras_map]; first | with_reducible exact hm | simpa using hm) | (simp -implicitDefEqProofs)))
def fewR (c:Code):Bool:=decide (c.name.length≤100)&&decide (c.ins.length≤400)
theorem w_rfew (c:Code):Pure Tryz.prog 22 [c.v] (vB (fewR c)):=by
 obtain⟨cn,pair,ins⟩:=c
 unfold fewR
 rcases (by omega:cn.length≤100∨100<cn.length) with h1 | h1<;>rcases (by omega:ins.length≤400∨400<ins.length) with h2 | h2
 ·(refine Pure.of_code mix Tryz.call22 k_22 (by simp) (fun hB=>?_); (try simp at hB); (try simp -implicitDefEqProofs [qc_22]))
  have h1':(cn.length:Int)≤100:=by omega
  have h2':(ins.length:Int)≤400:=by omega
  ((try simp -implicitDefEqProofs [h1,h2,h1',h2']); repeat' first | ((with_reducible first | apply gdK_em | apply cdK_em | apply pickK_em)<;>(intro hc; have hc':=hc; (try simp at hc'); simp -implicitDefEqProofs [hc,hc',h1,h2,h1',h2'])))
 ·(refine Pure.of_code mix Tryz.call22 k_22 (by simp) (fun hB=>?_); (try simp at hB); (try simp -implicitDefEqProofs [qc_22]))
  have h1':(cn.length:Int)≤100:=by omega
  have h2' : ¬(ins.length:Int)≤400:=by omega
  have h2n : ¬ins.length≤400:=by omega
  ((try simp -implicitDefEqProofs [h1,h2,h2n,h1',h2']); repeat' first | ((with_reducible first | apply gdK_em | apply cdK_em | apply pickK_em)<;>(intro hc; have hc':=hc; (try simp at hc'); simp -implicitDefEqProofs [hc,hc',h1,h2,h2n,h1',h2'])))
 ·(refine Pure.of_code mix Tryz.call22 k_22 (by simp) (fun hB=>?_); (try simp at hB); (try simp -implicitDefEqProofs [qc_22]))
  have h1' : ¬(cn.length:Int)≤100:=by omega
  have h1n : ¬cn.length≤100:=by omega
  ((try simp -implicitDefEqProofs [h1,h2,h1n,h1']); repeat' first | ((with_reducible first | apply gdK_em | apply cdK_em | apply pickK_em)<;>(intro hc; have hc':=hc; (try simp at hc'); simp -implicitDefEqProofs [hc,hc',h1,h2,h1n,h1'])))
 ·(refine Pure.of_code mix Tryz.call22 k_22 (by simp) (fun hB=>?_); (try simp at hB); (try simp -implicitDefEqProofs [qc_22]))
  have h1' : ¬(cn.length:Int)≤100:=by omega
  have h1n : ¬cn.length≤100:=by omega
  ((try simp -implicitDefEqProofs [h1,h2,h1n,h1']); repeat' first | ((with_reducible first | apply gdK_em | apply cdK_em | apply pickK_em)<;>(intro hc; have hc':=hc; (try simp at hc'); simp -implicitDefEqProofs [hc,hc',h1,h2,h1n,h1'])))

end Go.Proofs.YtmlpmdccfmmpoaaGreat
