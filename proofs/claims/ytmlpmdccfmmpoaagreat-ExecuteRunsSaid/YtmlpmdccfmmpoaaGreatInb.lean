/- Quotients of integers: the reference's. -/
import Derived.Test.YtmlpmdccfmmpoaaGreatIna
import Derived.Test.YtmlpmdccfmmpoaaGreatIn6
set_option linter.unusedSimpArgs false
set_option linter.unusedVariables false
set_option maxHeartbeats 2000000
set_option maxRecDepth 8000
namespace Go.Proofs.YtmlpmdccfmmpoaaGreat
open E

def qE (z:Int):List (List T):=lE .i64 (lims b4 z.natAbs)
theorem iV4 (z:Int):iV b4 .i64 z=.agg [.t (.bool (nB z)),.t (.sl (qE z))]:=rfl
def sC (n d:Int):List T:=[.bool (nB n),.sl (qE n),.bool (nB d),.sl (qE d)]
def sV (n d:Int):V:=.agg [.t (.bool (nB n)),.t (.sl (qE n)),.t (.bool (nB d)),.t (.sl (qE d))]
theorem w_rSmall (z:Int) (hz:z.natAbs≤1000000000000000000):Pure Tryz.prog 97 [iV b4 .i64 z] (.tup [vI z,vB true]):=by
 have hlx:=lvl_lims b4_2 z.natAbs
 have hx:=lims_lim b4_2 z.natAbs
 have hxl:=lims_len (B:=b4) (n:=z.natAbs) (k:=5) b4_2 (by unfold b4; omega)
 have hsig : ∀i,Pure Tryz.prog 64 [vB (decide (z<0)),.t (.sl ((lE .i64 (lims b4 z.natAbs)).drop i))] (iV b4 .i64 (sgnI (decide (z<0)) (lvl b4 ((lims b4 z.natAbs).drop i)))):=fun i=>by
  rw [lE_drop]
  exact w_rsigned _ (hx.drop i)
 have hcm : ∀n:Int,n.natAbs≤1000000000000000000→Pure Tryz.prog 113 [iV b4 .i64 n,iV b4 .i64 n] (vI 0):=fun n hn=>w_rCmp0 n (by
  have:=lims_len (B:=b4) (n:=n.natAbs) (k:=5) b4_2 (by unfold b4; omega)
  omega)
 have hof : ∀n:Int,n.natAbs≤1000000000000000000→Pure Tryz.prog 42 [vI n] (iV b4 .i64 n):=fun n hn=>w_rOf (by omega) (by omega)
 have hfz:z=sgnI (decide (z<0)) z.natAbs:=by unfold sgnI; by_cases h:z<0<;>simp [h]<;>omega
 have hle : ∀i,i≤(lims b4 z.natAbs).length→lvl b4 ((lims b4 z.natAbs).drop i)≤z.natAbs:=fun i hi=>by
  have hsp:=lvl_split b4 (lims b4 z.natAbs) hi
  rw [hlx] at hsp
  have:=Nat.le_mul_of_pos_left (lvl b4 ((lims b4 z.natAbs).drop i)) (Nat.pow_pos (n:=i) b4_0)
  omega
 have hnz:decide (z<0)=true→0<z.natAbs:=fun h=>by simp at h; omega
 rw [hfz]
 generalize z.natAbs=Z at *
 generalize decide (z<0)=nz at *
 have e0:iV b4 .i64 (sgnI nz Z)=.agg [.t (.bool nz),.t (.sl (lE .i64 (lims b4 Z)))]:=by
  have e1:(nz&&decide (0<Z))=nz:=by
   cases nz
   ·rfl
   ·simp [hnz rfl]
  unfold iV iC lT; rw [sgnI_abs,sgnI_neg,e1]; rfl
 rw [e0]
 generalize lims b4 Z=a at *
 simp only [iV4] at *
 (refine Pure.of_code mix Tryz.call97 k_97 (by simp) (fun hB=>?_); (try simp at hB); (try simp -implicitDefEqProofs [qc_97]))
 refine loop_rule (X:=Nat) (fun k=>k≤a.length) (fun k=>[(1,.ptr 0 0),(4,vI (sgnI nz (lvl b4 (a.drop k)))),(5,vI ((k:Int)-1))]) (fun _=>⟨[.cells [.t (.bool nz),.t (.sl (lE .i64 a))]],[]⟩) (fun k=>k) a.length (Nat.le_refl _) ?hs ?_
 case hs=>
  have e3:IntKind.i64.wrap ((a.length:Int)-1)=(a.length:Int)-1:=wrap64 (by omega) (by omega)
  have e4:sgnI nz 0=0:=by unfold sgnI; split<;>rfl
  simp [e3,lvl,e4]
 rintro k hk hbd
 clear hbd
 rcases Nat.eq_zero_or_pos k with k0 | k0
 ·subst k0
  rw [List.drop_zero,hlx]
  ((try simp -implicitDefEqProofs); repeat' first | ((with_reducible first | apply gdK_em | apply cdK_em | apply pickK_em)<;>(intro hc; have hc':=hc; (try simp at hc'); simp -implicitDefEqProofs [hc,hc'])))
 ·obtain⟨i,rfl⟩ : ∃i,k=i+1:=⟨k-1,by omega⟩
  obtain⟨u,hu⟩:=get_of_lt (show i<a.length by omega)
  have hub:=hx.at hu
  unfold b4 at hub
  have hdn:=lvl_drop_next (B:=b4) hu
  have hl1:=hle i (by omega)
  have g1:=lE_get (k:=.i64) hu
  have g2:=lE_get' (k:=.i64) hu
  have h5 : ¬(5:Int)<a.length:=by omega
  have h5' : ¬5<a.length:=by omega
  have i4:i<a.length:=by omega
  have i5:i≤a.length:=by omega
  have e3:IntKind.i64.wrap ((i:Int)-1)=(i:Int)-1:=wrap64 (by omega) (by omega)
  have hsg:=hsig i
  obtain⟨W,hW⟩ : ∃W,W=sgnI nz (lvl b4 (a.drop i)):=⟨_,rfl⟩
  obtain⟨W1,hW1⟩ : ∃W1,W1=sgnI nz (lvl b4 (a.drop (i+1))):=⟨_,rfl⟩
  rw [←hW] at hsg
  have hWb:W.natAbs≤1000000000000000000:=by rw [hW,sgnI_abs]; omega
  have ho:=hof W hWb
  have hc:=hcm W hWb
  rw [←hW1]
  have hdn':lvl b4 (a.drop i)=u+10000*lvl b4 (a.drop (i+1)):=hdn
  have htk:(lE .i64 a).take a.length=lE .i64 a:=List.take_of_length_le (by simp)
  cases nz
  ·have f1:W=W1*10000+u:=by rw [hW,hW1,hdn']; unfold sgnI; simp; omega
   have f0:0≤W1:=by rw [hW1]; unfold sgnI; simp
   have w1:IntKind.i64.wrap (W1*10000)=W1*10000:=wrap64 (by omega) (by omega)
   have w2:IntKind.i64.wrap (W1*10000+(u:Int))=W:=by rw [wrap64 (by omega) (by omega)]; omega
   ((try simp at ho); (try simp at hsg); (try simp at hc); (try simp -implicitDefEqProofs [g1,g2,h5,i4,i5,e3,w1,w2,htk,h5']); repeat' first | ((with_reducible first | apply gdK_em | apply cdK_em | apply pickK_em)<;>(intro hc; have hc':=hc; (try simp at hc'); simp -implicitDefEqProofs [hc,hc',g1,g2,h5,i4,i5,e3,w1,w2,htk,h5'])) | (with_reducible apply callK_pure<;>first | (simp only [eras,era,eras_map]; first | with_reducible exact ho | with_reducible exact hsg | with_reducible exact hc | simpa using ho | simpa using hsg | simpa using hc) | (simp -implicitDefEqProofs [g1,g2,h5,i4,i5,e3,w1,w2,htk,h5'])))
   refine⟨lE_w _ _,?_⟩
   ((try simp at hsg); (try simp at hc); (try simp -implicitDefEqProofs [e3,htk]); repeat' first | ((with_reducible first | apply gdK_em | apply cdK_em | apply pickK_em)<;>(intro hc; have hc':=hc; (try simp at hc'); simp -implicitDefEqProofs [hc,hc',e3,htk])) | (with_reducible apply callK_pure<;>first | (simp only [eras,era,eras_map]; first | with_reducible exact hsg | with_reducible exact hc | simpa using hsg | simpa using hc) | (simp -implicitDefEqProofs [e3,htk])))
   exact⟨i,by omega,by omega,by rw [hW],rfl⟩
  ·have f1:W=W1*10000-u:=by rw [hW,hW1,hdn']; unfold sgnI; simp; omega
   have f0:W1≤0:=by rw [hW1]; unfold sgnI; simp
   have w0:IntKind.i64.wrap (-(u:Int)) = -(u:Int):=wrap64 (by omega) (by omega)
   have w1:IntKind.i64.wrap (W1*10000)=W1*10000:=wrap64 (by omega) (by omega)
   have w2:IntKind.i64.wrap (W1*10000 + -(u:Int))=W:=by rw [wrap64 (by omega) (by omega)]; omega
   ((try simp at ho); (try simp at hsg); (try simp at hc); (try simp -implicitDefEqProofs [g1,g2,h5,i4,i5,e3,w0,w1,w2,htk,h5']); repeat' first | ((with_reducible first | apply gdK_em | apply cdK_em | apply pickK_em)<;>(intro hc; have hc':=hc; (try simp at hc'); simp -implicitDefEqProofs [hc,hc',g1,g2,h5,i4,i5,e3,w0,w1,w2,htk,h5'])) | (with_reducible apply callK_pure<;>first | (simp only [eras,era,eras_map]; first | with_reducible exact ho | with_reducible exact hsg | with_reducible exact hc | simpa using ho | simpa using hsg | simpa using hc) | (simp -implicitDefEqProofs [g1,g2,h5,i4,i5,e3,w0,w1,w2,htk,h5'])))
   refine⟨lE_w _ _,?_⟩
   ((try simp at hsg); (try simp at hc); (try simp -implicitDefEqProofs [e3,htk]); repeat' first | ((with_reducible first | apply gdK_em | apply cdK_em | apply pickK_em)<;>(intro hc; have hc':=hc; (try simp at hc'); simp -implicitDefEqProofs [hc,hc',e3,htk])) | (with_reducible apply callK_pure<;>first | (simp only [eras,era,eras_map]; first | with_reducible exact hsg | with_reducible exact hc | simpa using hsg | simpa using hc) | (simp -implicitDefEqProofs [e3,htk])))
   exact⟨i,by omega,by omega,by rw [hW],rfl⟩
end Go.Proofs.YtmlpmdccfmmpoaaGreat
