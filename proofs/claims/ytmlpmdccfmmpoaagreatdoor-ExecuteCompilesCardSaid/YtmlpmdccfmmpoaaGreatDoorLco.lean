/- Chapter 35: the law ExecuteCompiles. -/
import Derived.Test.YtmlpmdccfmmpoaaGreatDoorFoX
import Derived.Test.YtmlpmdccfmmpoaaGreatDoorFoW
import Derived.Test.YtmlpmdccfmmpoaaGreatDoorCad
set_option linter.unusedSimpArgs false
set_option linter.unusedVariables false
set_option maxHeartbeats 4000000
set_option maxRecDepth 8000
namespace Go.Proofs.YtmlpmdccfmmpoaaGreatDoor
open E

theorem Xy {known:Int→Bool} {q:List UInt8→Bool} {pair:Bool} {s:Stm} (h:D9 known q pair s=0):D9 (fun _=>true) q pair s=0:=by
 unfold D9 at *
 split at h
 ·rename_i q1;exact absurd h q1
 ·rename_i q1
  rw [if_neg q1]
  split at h
  ·cases h
  ·rename_i q2
   rw [if_neg q2]
   split at h
   ·cases h
   ·rename_i q3
    rw [if_neg q3,if_neg (fun q=>by cases q.2)]
theorem Mm {known:Int→Bool} {pair:Bool} : ∀{ss:List Stm} {M:List (List UInt8)},Bh known pair M ss=0→Bh (fun _=>true) pair M ss=0
 | [],M,_=>rfl
 | s::ss,M,h=>by
  rw [Bh] at h ⊢
  split at h
  ·rename_i q;exact absurd h q
  ·rename_i q
   rw [if_neg (fun q2=>q2 (Xy (by simpa using q)))]
   exact Mm h
theorem Mn {known:Int→Bool} : ∀{p:List Rul} {M:List (List UInt8)} {i:Nat},M.Nodup→(Ew known M i p).2=0→(∀r∈p,Fy known r=0)∧(M++p.map (·.name)).Nodup
 | [],M,i,hM,_=>⟨fun r hr=>(by cases hr),by simpa using hM⟩
 | r::p,M,i,hM,h=>by
  rw [Ew] at h
  split at h
  ·cases h
  ·rename_i h1
   split at h
   ·rename_i h2;exact absurd h h2
   ·rename_i h2
    have hn:(M++[r.name]).Nodup:=by
     rw [List.nodup_append]
     exact⟨hM,by simp,fun a ha b hb=>by rw [List.mem_singleton.1 hb];exact fun e=>h1 (e▸ha)⟩
    obtain⟨g1,g2⟩:=Mn hn h
    refine⟨fun x hx=>?_,by simpa using g2⟩
    rcases List.mem_cons.1 hx with rfl|hx
    ·simpa using h2
    ·exact g1 x hx
theorem A36 {p:List Rul} {ch:List Account} (h:(G8 p ch).2=0):Jt p=true:=by
 unfold G8 at h
 split at h
 ·rename_i g
  obtain⟨g1,g2⟩:=Mn List.nodup_nil h
  unfold Jt
  rw [g.1,Bool.true_and,Bool.and_eq_true,List.all_eq_true]
  refine⟨fun r hr=>?_,decide_eq_true (by simpa using g2)⟩
  have h0:=g1 r hr
  unfold Fy at h0
  split at h0
  ·rename_i q;exact absurd h0 q
  ·rename_i q
   exact decide_eq_true (Mm (by simpa using q))
 ·cases h
theorem Ub (p:List Rul) (l:List Sou) (hw : ∀y∈l,y.wf) (ch:List Account):A7 Tryz.prog 6 [Rul.l p,Sou.l l,Account.l ch] (vB true):=by
 have ha:=X9
 have hf:=A7b p
 have hf2:=A2h l []
 cases h1:Mx p
 ·rw [h1] at hf
  (refine A7.of_code mix Tryz.call6 k_6 (by simp) (fun hB=>?_);(try simp at hB);(try simp -implicitDefEqProofs))
  ((try simp at ha hf);(try simp -implicitDefEqProofs);repeat' first|(with_reducible apply A0<;>first|(simp only [eras,era,A1];first|with_reducible assumption)|(simp -implicitDefEqProofs)))
 rw [h1] at hf
 cases h2:Tv l []
 ·rw [h2] at hf2
  (refine A7.of_code mix Tryz.call6 k_6 (by simp) (fun hB=>?_);(try simp at hB);(try simp -implicitDefEqProofs))
  ((try simp at ha hf hf2);(try simp -implicitDefEqProofs);repeat' first|(with_reducible apply A0<;>first|(simp only [eras,era,A1];first|with_reducible assumption)|(simp -implicitDefEqProofs)))
 rw [h2] at hf2
 by_cases h3:ch.length≤210
 case neg=>
  have h3':decide (210<(ch.length:Int))=true:=by simp;omega
  have h3'':210<(ch.length:Int):=by omega
  (refine A7.of_code mix Tryz.call6 k_6 (by simp) (fun hB=>?_);(try simp at hB);(try simp -implicitDefEqProofs))
  ((try simp at ha hf hf2);(try simp -implicitDefEqProofs [h3',h3'']);repeat' first|(with_reducible apply A0<;>first|(simp only [eras,era,A1];first|with_reducible assumption)|(simp -implicitDefEqProofs [h3',h3''])))
 have h3':decide (210<(ch.length:Int))=false:=by simp;omega
 have h3'' : ¬210<(ch.length:Int):=by omega
 obtain⟨f1,f2,f3,f4⟩:=Rq h2
 obtain⟨g1,g2,g3⟩:=L3 h1
 have hs:=X8 l (by omega) hw
 have hrm:=A0j h2 hw
 have hown:=A0b p (by omega) (fun r hr=>by have:=g2 r hr;omega) (fun r hr s h=>by have:=g3 r hr s h;omega)
 have hcp:=Xr p ch (fun r hr s h=>by have:=g3 r hr s h;omega) (fun r hr=>by have:=A0i h1 r hr;omega) (by omega) (by omega)
 unfold A07 at hcp
 by_cases h0:(G8 p ch).2=0
 case neg=>
  have hck:=P0 p ch (fun r hr s h=>by have:=g3 r hr s h;omega) (by omega)
  rw [if_neg h0] at hcp
  generalize G8 p ch=q at *
  have e1:(q.2==0)=false:=by simpa using h0
  have e2:(q.2 != 0)=true:=by simpa using h0
  unfold Src.l Src.ql at hs
  (refine A7.of_code mix Tryz.call6 k_6 (by simp) (fun hB=>?_);(try simp at hB);(try simp -implicitDefEqProofs))
  ((try simp at ha hf hf2 hs hown hcp hck);(try simp -implicitDefEqProofs [h3',h3'',h0,e1,e2]);repeat' first|(with_reducible apply A0<;>first|(simp only [eras,era,A1];first|with_reducible assumption)|(simp -implicitDefEqProofs [h3',h3'',h0,e1,e2])))
 have hsn:=A36 h0
 rw [if_pos h0] at hcp
 have hfi : ∀r∈p,G6 r=true:=by
  have h:=hsn
  unfold Jt at h
  simp only [Bool.and_eq_true,List.all_eq_true] at h
  exact h.1.2
 have hln : ∀c∈p.map B5,c.ins.length≤8000:=fun c hc=>by
  obtain⟨r,hr,rfl⟩:=List.mem_map.1 hc
  exact Nw h1 hr (Rr (Gu hsn r hr))
 have hva : ∀c∈p.map B5,(Bo c).2=true:=fun c hc=>by
  obtain⟨r,hr,rfl⟩:=List.mem_map.1 hc
  exact Mg (Gu hsn r hr) (hfi r hr)
 have hpl:=P6 p (l.map Sou.src) h1
 have hz:=A0r p (l.map Sou.src) h1 (by simp;omega) hrm
 rw [if_pos hsn] at hpl hz
 have hcl:(p.map B5).length≤100:=by simp;omega
 obtain⟨cs,hcs⟩ : ∃cs,cs=p.map B5:=⟨_,rfl⟩
 rw [←hcs] at hcp hln hva hpl hz hcl
 have hx:=Tu cs (l.map Sou.src) (by simp;omega) hcl hln hrm
 have hy:=Tu (cs.map Ki) (l.map Sou.src) (by simp;omega) (by simpa using hcl) (fun c hc=>by
  obtain⟨d,hd,rfl⟩:=List.mem_map.1 hc
  have:=hln d hd
  have h9:=J9 d.ins
  show (B6 d.ins).length≤8000
  omega) hrm
 rw [Xw hva] at hy
 have hfo : ∀c∈cs,A7 Tryz.prog 21 [c.v] (.tup [(Ki c).v,vI 0]):=fun c hc=>by
  have h9:=A5x c (hln c hc)
  unfold Vi at h9
  rw [if_pos (hva c hc)] at h9
  exact h9
 generalize Hy cs (l.map Sou.src)=W at *
 obtain⟨w1,w2⟩:=W
 have hsm:=A0k w1 hpl
 obtain⟨L,hL⟩ : ∃L,L=(cs.map Ki).map Code.c:=⟨_,rfl⟩
 have hLl:L.length=cs.length:=by rw [hL];simp
 unfold Src.l Src.ql psV at *
 simp only [Code.l] at hx hy
 rw [←hL] at hy
 generalize (l.map Sou.src).map Src.c=A at *
 generalize (l.map Sou.src).map Src.q=A2 at *
 (refine A7.of_code mix Tryz.call6 k_6 (by simp) (fun hB=>?_);(try simp at hB);(try simp -implicitDefEqProofs))
 ((try simp at ha hf hf2 hs hown hcp);(try simp -implicitDefEqProofs [h3',h3'']);repeat' first|(with_reducible apply A0<;>first|(simp only [eras,era,A1];first|with_reducible assumption)|(simp -implicitDefEqProofs [h3',h3''])))
 refine Bb [(.slot 15,85,3)] (X:=Nat) (fun k=>k≤cs.length) (fun k=>[(7,.t (.sl A)),(9,Rul.l p),(10,Code.l cs),(15,.own 0 85 3 (L.take k)),(16,vI k)])
  (fun k=>⟨[],[k]⟩) (fun k=>cs.length-k) 0 (by omega) (by simp) ?_
 rintro k hk hbd
 clear hbd
 rcases Nat.lt_or_ge k cs.length with h|h
 ·obtain⟨c,hc⟩:=Ad h
  have e3:IntKind.i64.wrap ((k:Int)+1)=(k:Int)+1:=wrap64 (by omega) (by omega)
  have hfc:=hfo c (List.mem_of_getElem? hc)
  have hcc:(cs.map Code.c)[k]?=some c.c:=by simp [hc]
  have hcc' : ∀h,(cs.map Code.c)[k]'h=c.c:=fun h=>by rw [List.getElem?_eq_getElem h] at hcc;exact Option.some.inj hcc
  have hrv:L.take (k+1)=L.take k++[(Ki c).c]:=Ag (by rw [hL];simp [hc])
  have hLk:(L.take k).length=k:=by simp;omega
  generalize L.take k=B at *
  obtain⟨cn,cp,ci⟩:=c
  generalize Ki ⟨cn,cp,ci⟩=d at *
  obtain⟨dn,dp,di⟩:=d
  simp only [Code.v,Code.c,List.map_cons,List.map_nil] at hfc hcc hcc'
  ((try simp at hfc);(try simp -implicitDefEqProofs [h,hcc,hcc',e3,hLk]);repeat' first|(with_reducible apply A0<;>first|(simp only [eras,era,A1];first|with_reducible assumption)|(simp -implicitDefEqProofs [h,hcc,hcc',e3,hLk])))
  exact⟨⟨by unfold maxLen;omega,by omega⟩,k+1,by omega,by omega,rfl,by rw [hrv];exact leA.refl _,by push_cast;rfl⟩
 ·have:k=cs.length:=by omega
  subst this
  have ht:L.take cs.length=L:=List.take_of_length_le (by omega)
  rw [ht]
  ((try simp at hx hy hz hsm);(try simp -implicitDefEqProofs [h]);repeat' first|(with_reducible apply A0<;>first|(simp only [eras,era,A1];first|with_reducible assumption)|(simp -implicitDefEqProofs [h])))
end Go.Proofs.YtmlpmdccfmmpoaaGreatDoor
