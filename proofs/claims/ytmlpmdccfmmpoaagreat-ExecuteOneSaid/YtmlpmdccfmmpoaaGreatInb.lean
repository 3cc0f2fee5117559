/- Quotients of integers: the reference's. -/
import Derived.Test.YtmlpmdccfmmpoaaGreatIn5
import Derived.Test.YtmlpmdccfmmpoaaGreatIn7
import Derived.Test.YtmlpmdccfmmpoaaGreatIn9
import Derived.Test.YtmlpmdccfmmpoaaGreatIn6
section
set_option linter.unusedSimpArgs false
set_option linter.unusedVariables false
set_option maxHeartbeats 2000000
set_option maxRecDepth 8000
namespace Go.Proofs.YtmlpmdccfmmpoaaGreat
open E

theorem w_rMul (x y:Int) (hxl:(lims b4 x.natAbs).length≤900) (hyl:(lims b4 y.natAbs).length≤900):Pure Tryz.prog 116 [iV b4 .i64 x,iV b4 .i64 y] (iV b4 .i64 (x*y)):=by
 have ht:=w_rmul x.natAbs y.natAbs (by omega) (by omega)
 have hs:=fun neg=>w_rsigned (l:=lims b4 (x.natAbs*y.natAbs)) neg (lims_lim b4_2 _)
 have hm:=sgnI_mul x y
 rw [lvl_lims b4_2] at hs
 unfold iV iC lT at *
 generalize decide (x<0)=nx at *
 generalize decide (y<0)=ny at *
 have hs:=hs (nx != ny)
 rw [hm] at hs
 have e:(nx != ny)=(!nx==ny):=by cases nx<;>cases ny<;>rfl
 rw [e] at hs
 (refine Pure.of_code mix Tryz.call116 k_116 (by simp) (fun hB=>?_); (try simp at hB); (try simp -implicitDefEqProofs [qc_116]))
 ((try simp at ht); (try simp at hs); (try simp -implicitDefEqProofs); repeat' first | ((with_reducible first | apply gdK_em | apply cdK_em | apply pickK_em)<;>(intro hc; have hc':=hc; (try simp at hc'); simp -implicitDefEqProofs [hc,hc'])) | (with_reducible apply callK_pure<;>first | (simp only [eras,era,eras_map]; first | with_reducible exact ht | with_reducible exact hs | simpa using ht | simpa using hs) | (simp -implicitDefEqProofs)))
theorem w_rAddS (x y:Int) (hxl:(lims b4 x.natAbs).length≤900) (hyl:(lims b4 y.natAbs).length≤900) (hsg:decide (x<0)=decide (y<0)):Pure Tryz.prog 115 [iV b4 .i64 x,iV b4 .i64 y] (iV b4 .i64 (x+y)):=by
 have ht:=w_radd x.natAbs y.natAbs (by omega) (by omega)
 have hs:=w_rsigned (l:=addL b4 x.natAbs y.natAbs) (decide (x<0)) (addL_lim b4_0 _ _)
 have hm:sgnI (decide (x<0)) (x.natAbs+y.natAbs)=x+y:=by
  unfold sgnI
  by_cases h1:x<0
  ·have h2:y<0:=by simpa [h1] using hsg
   simp [h1]; omega
  ·have h2 : ¬y<0:=by simpa [h1] using hsg
   simp [h1]; omega
 rw [addL_lvl b4_2,hm] at hs
 unfold iV iC lT at *
 rw [←hsg]
 generalize decide (x<0)=nx at *
 (refine Pure.of_code mix Tryz.call115 k_115 (by simp) (fun hB=>?_); (try simp at hB); (try simp -implicitDefEqProofs [qc_115]))
 ((try simp at ht); (try simp at hs); (try simp -implicitDefEqProofs); repeat' first | ((with_reducible first | apply gdK_em | apply cdK_em | apply pickK_em)<;>(intro hc; have hc':=hc; (try simp at hc'); simp -implicitDefEqProofs [hc,hc'])) | (with_reducible apply callK_pure<;>first | (simp only [eras,era,eras_map]; first | with_reducible exact ht | with_reducible exact hs | simpa using ht | simpa using hs) | (simp -implicitDefEqProofs)))
theorem w_rQuoRem (x y:Int) (hxl:(lims b4 x.natAbs).length≤900) (hyl:(lims b4 y.natAbs).length≤900) (hy0:y≠0):Pure Tryz.prog 86 [iV b4 .i64 x,iV b4 .i64 y] (.tup [iV b4 .i64 (x.tdiv y),iV b4 .i64 (x.tmod y),.t (.int .i64 0)]):=by
 have hy0':0<y.natAbs:=by omega
 have hd:=w_quo x.natAbs y.natAbs hxl hyl hy0'
 have s1:=w_rSign y
 have s0:(sgn y==0)=false:=by unfold sgn; split<;>(try split)<;>simp<;>omega
 have hs1:=w_rsigned (l:=lims b4 (x.natAbs / y.natAbs)) (decide (x<0) != decide (y<0)) (lims_lim b4_2 _)
 have hs2:=w_rsigned (l:=lims b4 (x.natAbs % y.natAbs)) (decide (x<0)) (lims_lim b4_2 _)
 rw [lvl_lims b4_2,sgnI_div] at hs1
 rw [lvl_lims b4_2,sgnI_mod] at hs2
 unfold iV iC lT at *
 generalize decide (x<0)=nx at *
 generalize decide (y<0)=ny at *
 have e:(nx != ny)=(!nx==ny):=by cases nx<;>cases ny<;>rfl
 rw [e] at hs1
 (refine Pure.of_code mix Tryz.call86 k_86 (by simp) (fun hB=>?_); (try simp at hB); (try simp -implicitDefEqProofs [qc_86]))
 ((try simp at hd); (try simp at s1); (try simp at hs1); (try simp at hs2); (try simp -implicitDefEqProofs [s0]); repeat' first | ((with_reducible first | apply gdK_em | apply cdK_em | apply pickK_em)<;>(intro hc; have hc':=hc; (try simp at hc'); simp -implicitDefEqProofs [hc,hc',s0])) | (with_reducible apply callK_pure<;>first | (simp only [eras,era,eras_map]; first | with_reducible exact hd | with_reducible exact s1 | with_reducible exact hs1 | with_reducible exact hs2 | simpa using hd | simpa using s1 | simpa using hs1 | simpa using hs2) | (simp -implicitDefEqProofs [s0])))
theorem w_rGCD (x y:Int) (hxl:(lims b4 x.natAbs).length≤900) (hyl:(lims b4 y.natAbs).length≤900):Pure Tryz.prog 85 [iV b4 .i64 x,iV b4 .i64 y] (iV b4 .i64 (Nat.gcd x.natAbs y.natAbs:Nat)):=by
 have hsg : ∀n:Nat,Pure Tryz.prog 64 [vB false,.t (.sl (lE .i64 (lims b4 n)))] (.agg [.t (.bool false),.t (.sl (lE .i64 (lims b4 n)))]):=fun n=>by
  have:=w_rsigned false (lims_lim b4_2 n)
  rw [lvl_lims b4_2] at this
  have e:sgnI false n=(n:Int):=rfl
  rw [e] at this
  unfold iV iC lT at this
  have e2:decide ((n:Int)<0)=false:=by simp
  simp only [e2,Int.natAbs_natCast,List.map_cons,List.map_nil] at this
  exact this
 have e0:decide (((Nat.gcd x.natAbs y.natAbs:Nat):Int)<0)=false:=by simp
 unfold iV iC lT
 rw [e0,Int.natAbs_natCast]
 (refine Pure.of_code mix Tryz.call85 k_85 (by simp) (fun hB=>?_); (try simp at hB); (try simp -implicitDefEqProofs [qc_85]))
 refine loop_rule (X:=Nat×Nat) (fun X=>Nat.gcd X.1 X.2=Nat.gcd x.natAbs y.natAbs∧(lims b4 X.2).length≤900∧(lims b4 X.1).length≤900) (fun X=>[(4,.ptr 2 0),(5,.t (.sl (lE .i64 (lims b4 X.1)))),(6,.t (.sl (lE .i64 (lims b4 X.2))))]) (fun X=>⟨[.cells [.t (.bool (decide (x<0))),.t (.sl (lE .i64 (lims b4 x.natAbs)))],.cells [.t (.bool (decide (y<0))),.t (.sl (lE .i64 (lims b4 y.natAbs)))],.cells [.t (.bool false),.snil]],[]⟩) (fun X=>X.2) (x.natAbs,y.natAbs) ⟨rfl,hyl,hxl⟩ ?hs ?_
 case hs=>simp
 rintro ⟨a,b⟩ ⟨hg,hb,hal⟩ hbd
 simp only [] at hg hb hal
 clear hbd
 rcases Nat.eq_zero_or_pos b with b0 | b0
 ·subst b0
  rw [Nat.gcd_zero_right] at hg
  have hs:=hsg a
  rw [←hg]
  ((try simp at hs); (try simp -implicitDefEqProofs [lims_zero,lE_nil]); repeat' first | ((with_reducible first | apply gdK_em | apply cdK_em | apply pickK_em)<;>(intro hc; have hc':=hc; (try simp at hc'); simp -implicitDefEqProofs [hc,hc',lims_zero,lE_nil])) | (with_reducible apply callK_pure<;>first | (simp only [eras,era,eras_map]; first | with_reducible exact hs | simpa using hs) | (simp -implicitDefEqProofs [lims_zero,lE_nil])))
 ·have hdv:=w_quo a b hal hb b0
  unfold lT at hdv
  have hlt:=Nat.mod_lt a b0
  have hlp:0<(lims b4 b).length:=lims_len_pos b4_2 (by omega)
  have hle:=lims_len_le (B:=b4) b4_2 (Nat.le_of_lt hlt)
  ((try simp at hdv); (try simp -implicitDefEqProofs [hlp]); repeat' first | ((with_reducible first | apply gdK_em | apply cdK_em | apply pickK_em)<;>(intro hc; have hc':=hc; (try simp at hc'); simp -implicitDefEqProofs [hc,hc',hlp])) | (with_reducible apply callK_pure<;>first | (simp only [eras,era,eras_map]; first | with_reducible exact hdv | simpa using hdv) | (simp -implicitDefEqProofs [hlp])))
  refine⟨b,a % b,⟨?_,by omega,by omega⟩,hlt,rfl,rfl⟩
  rw [←hg,Nat.gcd_comm b,←Nat.gcd_rec,Nat.gcd_comm]
theorem w_rCmp0 (z:Int) (hzl:(lims b4 z.natAbs).length≤900):Pure Tryz.prog 113 [iV b4 .i64 z,iV b4 .i64 z] (vI 0):=by
 have hn:=w_rNeg z
 have hsg:=w_rSign 0
 have s0:sgn 0=0:=rfl
 rw [s0] at hsg
 have hadd:Pure Tryz.prog 115 [iV b4 .i64 z,iV b4 .i64 (-z)] (iV b4 .i64 0):=by
  by_cases h0:z=0
  ·subst h0
   rw [Int.neg_zero]
   exact w_rAddS 0 0 hzl hzl rfl
  ·have hc:=w_rcmpL z.natAbs z.natAbs
   have c0:cmpN z.natAbs z.natAbs=0:=by simp [cmpN]
   rw [c0] at hc
   have hs:=w_rsub z.natAbs z.natAbs (by omega) (Nat.le_refl _)
   rw [Nat.sub_self] at hs
   have hsn:=w_rsigned (decide (z<0)) (lims_lim b4_2 0)
   rw [lvl_lims b4_2] at hsn
   have e0:sgnI (decide (z<0)) 0=0:=by unfold sgnI; split<;>rfl
   rw [e0] at hsn
   unfold iV iC lT at *
   rw [Int.natAbs_neg]
   generalize lE .i64 (lims b4 z.natAbs)=L at *
   by_cases h:z<0
   ·have d1:decide (z<0)=true:=by simp [h]
    have d2:decide (-z<0)=false:=by simp; omega
    rw [d1] at hsn
    rw [d1,d2]
    (refine Pure.of_code mix Tryz.call115 k_115 (by simp) (fun hB=>?_); (try simp at hB); (try simp -implicitDefEqProofs [qc_115]))
    ((try simp at hc); (try simp at hs); (try simp at hsn); (try simp -implicitDefEqProofs); repeat' first | ((with_reducible first | apply gdK_em | apply cdK_em | apply pickK_em)<;>(intro hc; have hc':=hc; (try simp at hc'); simp -implicitDefEqProofs [hc,hc'])) | (with_reducible apply callK_pure<;>first | (simp only [eras,era,eras_map]; first | with_reducible exact hc | with_reducible exact hs | with_reducible exact hsn | simpa using hc | simpa using hs | simpa using hsn) | (simp -implicitDefEqProofs)))
   ·have d1:decide (z<0)=false:=by simp [h]
    have d2:decide (-z<0)=true:=by simp; omega
    rw [d1] at hsn
    rw [d1,d2]
    (refine Pure.of_code mix Tryz.call115 k_115 (by simp) (fun hB=>?_); (try simp at hB); (try simp -implicitDefEqProofs [qc_115]))
    ((try simp at hc); (try simp at hs); (try simp at hsn); (try simp -implicitDefEqProofs); repeat' first | ((with_reducible first | apply gdK_em | apply cdK_em | apply pickK_em)<;>(intro hc; have hc':=hc; (try simp at hc'); simp -implicitDefEqProofs [hc,hc'])) | (with_reducible apply callK_pure<;>first | (simp only [eras,era,eras_map]; first | with_reducible exact hc | with_reducible exact hs | with_reducible exact hsn | simpa using hc | simpa using hs | simpa using hsn) | (simp -implicitDefEqProofs)))
 have hsub:Pure Tryz.prog 138 [iV b4 .i64 z,iV b4 .i64 z] (iV b4 .i64 0):=by
  generalize hw : -z=w at *
  clear hw hsg hzl
  unfold iV iC lT at *
  generalize decide (z<0)=a1 at *
  generalize lE .i64 (lims b4 z.natAbs)=a2 at *
  generalize decide (w<0)=a3 at *
  generalize lE .i64 (lims b4 w.natAbs)=a4 at *
  (refine Pure.of_code mix Tryz.call138 k_138 (by simp) (fun hB=>?_); (try simp at hB); (try simp -implicitDefEqProofs [qc_138]))
  ((try simp at hn); (try simp at hadd); (try simp -implicitDefEqProofs); repeat' first | ((with_reducible first | apply gdK_em | apply cdK_em | apply pickK_em)<;>(intro hc; have hc':=hc; (try simp at hc'); simp -implicitDefEqProofs [hc,hc'])) | (with_reducible apply callK_pure<;>first | (simp only [eras,era,eras_map]; first | with_reducible exact hn | with_reducible exact hadd | simpa using hn | simpa using hadd) | (simp -implicitDefEqProofs)))
 clear hadd hn hzl
 unfold iV iC lT at *
 generalize decide (z<0)=a1 at *
 generalize lE .i64 (lims b4 z.natAbs)=a2 at *
 (refine Pure.of_code mix Tryz.call113 k_113 (by simp) (fun hB=>?_); (try simp at hB); (try simp -implicitDefEqProofs [qc_113]))
 ((try simp at hsub); (try simp at hsg); (try simp -implicitDefEqProofs); repeat' first | ((with_reducible first | apply gdK_em | apply cdK_em | apply pickK_em)<;>(intro hc; have hc':=hc; (try simp at hc'); simp -implicitDefEqProofs [hc,hc'])) | (with_reducible apply callK_pure<;>first | (simp only [eras,era,eras_map]; first | with_reducible exact hsub | with_reducible exact hsg | simpa using hsub | simpa using hsg) | (simp -implicitDefEqProofs)))
end Go.Proofs.YtmlpmdccfmmpoaaGreat
end
section
set_option linter.unusedSimpArgs false
set_option linter.unusedVariables false
set_option maxHeartbeats 2000000
set_option maxRecDepth 8000
namespace Go.Proofs.YtmlpmdccfmmpoaaGreat
open E

def qE (z:Int):List (List T):=lE .i64 (lims b4 z.natAbs)
theorem iV4 (z:Int):iV b4 .i64 z=.agg [.t (.bool (nB z)),.t (.sl (qE z))]:=rfl
def sC (n d:Int):List T:=[.bool (nB n),.sl (qE n),.bool (nB d),.sl (qE d)]
def sV (n d:Int):V:=.agg [.t (.bool (nB n)),.t (.sl (qE n)),.t (.bool (nB d)),.t (.sl (qE d))]
theorem w_rSmall (z:Int) (hz:z.natAbs≤1000000000000000000):Pure Tryz.prog 97 [iV b4 .i64 z] (.tup [vI z,vB true]):=by
 have hlx:=lvl_lims b4_2 z.natAbs
 have hx:=lims_lim b4_2 z.natAbs
 have hxl:=lims_len (B:=b4) (n:=z.natAbs) (k:=5) b4_2 (by unfold b4; omega)
 have hsig : ∀i,Pure Tryz.prog 64 [vB (decide (z<0)),.t (.sl ((lE .i64 (lims b4 z.natAbs)).drop i))] (iV b4 .i64 (sgnI (decide (z<0)) (lvl b4 ((lims b4 z.natAbs).drop i)))):=fun i=>by
  rw [lE_drop]
  exact w_rsigned _ (hx.drop i)
 have hcm : ∀n:Int,n.natAbs≤1000000000000000000→Pure Tryz.prog 113 [iV b4 .i64 n,iV b4 .i64 n] (vI 0):=fun n hn=>w_rCmp0 n (by
  have:=lims_len (B:=b4) (n:=n.natAbs) (k:=5) b4_2 (by unfold b4; omega)
  omega)
 have hof : ∀n:Int,n.natAbs≤1000000000000000000→Pure Tryz.prog 42 [vI n] (iV b4 .i64 n):=fun n hn=>w_rOf (by omega) (by omega)
 have hfz:z=sgnI (decide (z<0)) z.natAbs:=by unfold sgnI; by_cases h:z<0<;>simp [h]<;>omega
 have hle : ∀i,i≤(lims b4 z.natAbs).length→lvl b4 ((lims b4 z.natAbs).drop i)≤z.natAbs:=fun i hi=>by
  have hsp:=lvl_split b4 (lims b4 z.natAbs) hi
  rw [hlx] at hsp
  have:=Nat.le_mul_of_pos_left (lvl b4 ((lims b4 z.natAbs).drop i)) (Nat.pow_pos (n:=i) b4_0)
  omega
 have hnz:decide (z<0)=true→0<z.natAbs:=fun h=>by simp at h; omega
 rw [hfz]
 generalize z.natAbs=Z at *
 generalize decide (z<0)=nz at *
 have e0:iV b4 .i64 (sgnI nz Z)=.agg [.t (.bool nz),.t (.sl (lE .i64 (lims b4 Z)))]:=by
  have e1:(nz&&decide (0<Z))=nz:=by
   cases nz
   ·rfl
   ·simp [hnz rfl]
  unfold iV iC lT; rw [sgnI_abs,sgnI_neg,e1]; rfl
 rw [e0]
 generalize lims b4 Z=a at *
 simp only [iV4] at *
 (refine Pure.of_code mix Tryz.call97 k_97 (by simp) (fun hB=>?_); (try simp at hB); (try simp -implicitDefEqProofs [qc_97]))
 refine loop_rule (X:=Nat) (fun k=>k≤a.length) (fun k=>[(1,.ptr 0 0),(4,vI (sgnI nz (lvl b4 (a.drop k)))),(5,vI ((k:Int)-1))]) (fun _=>⟨[.cells [.t (.bool nz),.t (.sl (lE .i64 a))]],[]⟩) (fun k=>k) a.length (Nat.le_refl _) ?hs ?_
 case hs=>
  have e3:IntKind.i64.wrap ((a.length:Int)-1)=(a.length:Int)-1:=wrap64 (by omega) (by omega)
  have e4:sgnI nz 0=0:=by unfold sgnI; split<;>rfl
  simp [e3,lvl,e4]
 rintro k hk hbd
 clear hbd
 rcases Nat.eq_zero_or_pos k with k0 | k0
 ·subst k0
  rw [List.drop_zero,hlx]
  ((try simp -implicitDefEqProofs); repeat' first | ((with_reducible first | apply gdK_em | apply cdK_em | apply pickK_em)<;>(intro hc; have hc':=hc; (try simp at hc'); simp -implicitDefEqProofs [hc,hc'])))
 ·obtain⟨i,rfl⟩ : ∃i,k=i+1:=⟨k-1,by omega⟩
  obtain⟨u,hu⟩:=get_of_lt (show i<a.length by omega)
  have hub:=hx.at hu
  unfold b4 at hub
  have hdn:=lvl_drop_next (B:=b4) hu
  have hl1:=hle i (by omega)
  have g1:=lE_get (k:=.i64) hu
  have g2:=lE_get' (k:=.i64) hu
  have h5 : ¬(5:Int)<a.length:=by omega
  have h5' : ¬5<a.length:=by omega
  have i4:i<a.length:=by omega
  have i5:i≤a.length:=by omega
  have e3:IntKind.i64.wrap ((i:Int)-1)=(i:Int)-1:=wrap64 (by omega) (by omega)
  have hsg:=hsig i
  obtain⟨W,hW⟩ : ∃W,W=sgnI nz (lvl b4 (a.drop i)):=⟨_,rfl⟩
  obtain⟨W1,hW1⟩ : ∃W1,W1=sgnI nz (lvl b4 (a.drop (i+1))):=⟨_,rfl⟩
  rw [←hW] at hsg
  have hWb:W.natAbs≤1000000000000000000:=by rw [hW,sgnI_abs]; omega
  have ho:=hof W hWb
  have hc:=hcm W hWb
  rw [←hW1]
  have hdn':lvl b4 (a.drop i)=u+10000*lvl b4 (a.drop (i+1)):=hdn
  have htk:(lE .i64 a).take a.length=lE .i64 a:=List.take_of_length_le (by simp)
  cases nz
  ·have f1:W=W1*10000+u:=by rw [hW,hW1,hdn']; unfold sgnI; simp; omega
   have f0:0≤W1:=by rw [hW1]; unfold sgnI; simp
   have w1:IntKind.i64.wrap (W1*10000)=W1*10000:=wrap64 (by omega) (by omega)
   have w2:IntKind.i64.wrap (W1*10000+(u:Int))=W:=by rw [wrap64 (by omega) (by omega)]; omega
   ((try simp at ho); (try simp at hsg); (try simp at hc); (try simp -implicitDefEqProofs [g1,g2,h5,i4,i5,e3,w1,w2,htk,h5']); repeat' first | ((with_reducible first | apply gdK_em | apply cdK_em | apply pickK_em)<;>(intro hc; have hc':=hc; (try simp at hc'); simp -implicitDefEqProofs [hc,hc',g1,g2,h5,i4,i5,e3,w1,w2,htk,h5'])) | (with_reducible apply callK_pure<;>first | (simp only [eras,era,eras_map]; first | with_reducible exact ho | with_reducible exact hsg | with_reducible exact hc | simpa using ho | simpa using hsg | simpa using hc) | (simp -implicitDefEqProofs [g1,g2,h5,i4,i5,e3,w1,w2,htk,h5'])))
   refine⟨lE_w _ _,?_⟩
   ((try simp at hsg); (try simp at hc); (try simp -implicitDefEqProofs [e3,htk]); repeat' first | ((with_reducible first | apply gdK_em | apply cdK_em | apply pickK_em)<;>(intro hc; have hc':=hc; (try simp at hc'); simp -implicitDefEqProofs [hc,hc',e3,htk])) | (with_reducible apply callK_pure<;>first | (simp only [eras,era,eras_map]; first | with_reducible exact hsg | with_reducible exact hc | simpa using hsg | simpa using hc) | (simp -implicitDefEqProofs [e3,htk])))
   exact⟨i,by omega,by omega,by rw [hW],rfl⟩
  ·have f1:W=W1*10000-u:=by rw [hW,hW1,hdn']; unfold sgnI; simp; omega
   have f0:W1≤0:=by rw [hW1]; unfold sgnI; simp
   have w0:IntKind.i64.wrap (-(u:Int)) = -(u:Int):=wrap64 (by omega) (by omega)
   have w1:IntKind.i64.wrap (W1*10000)=W1*10000:=wrap64 (by omega) (by omega)
   have w2:IntKind.i64.wrap (W1*10000 + -(u:Int))=W:=by rw [wrap64 (by omega) (by omega)]; omega
   ((try simp at ho); (try simp at hsg); (try simp at hc); (try simp -implicitDefEqProofs [g1,g2,h5,i4,i5,e3,w0,w1,w2,htk,h5']); repeat' first | ((with_reducible first | apply gdK_em | apply cdK_em | apply pickK_em)<;>(intro hc; have hc':=hc; (try simp at hc'); simp -implicitDefEqProofs [hc,hc',g1,g2,h5,i4,i5,e3,w0,w1,w2,htk,h5'])) | (with_reducible apply callK_pure<;>first | (simp only [eras,era,eras_map]; first | with_reducible exact ho | with_reducible exact hsg | with_reducible exact hc | simpa using ho | simpa using hsg | simpa using hc) | (simp -implicitDefEqProofs [g1,g2,h5,i4,i5,e3,w0,w1,w2,htk,h5'])))
   refine⟨lE_w _ _,?_⟩
   ((try simp at hsg); (try simp at hc); (try simp -implicitDefEqProofs [e3,htk]); repeat' first | ((with_reducible first | apply gdK_em | apply cdK_em | apply pickK_em)<;>(intro hc; have hc':=hc; (try simp at hc'); simp -implicitDefEqProofs [hc,hc',e3,htk])) | (with_reducible apply callK_pure<;>first | (simp only [eras,era,eras_map]; first | with_reducible exact hsg | with_reducible exact hc | simpa using hsg | simpa using hc) | (simp -implicitDefEqProofs [e3,htk])))
   exact⟨i,by omega,by omega,by rw [hW],rfl⟩
end Go.Proofs.YtmlpmdccfmmpoaaGreat
end
