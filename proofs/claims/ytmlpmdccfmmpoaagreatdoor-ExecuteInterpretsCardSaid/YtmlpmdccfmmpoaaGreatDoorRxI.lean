/- Chapter 35's reference: instance. -/
import Derived.Test.YtmlpmdccfmmpoaaGreatDoorRxH
set_option linter.unusedSimpArgs false
set_option linter.unusedVariables false
set_option maxHeartbeats 4000000
set_option maxRecDepth 8000
namespace Go.Proofs.YtmlpmdccfmmpoaaGreatDoor
open E

theorem Vm (l:List Part):(l.flatMap Part.c).length=l.length*2:=by
 induction l with
 | nil=>rfl
 | cons a l ih=>rw [List.flatMap_cons,List.length_append,ih,List.length_cons];simp [Part.c];omega
structure QR where
 k:Nat
 st:List Int
 loc:List Int
 ps:List Part
 all:Int
 sv:V
 lv:V
 pv:V
 kb:Nat
 lb:Nat
 pb:Nat
 B:List Bx
structure QR.Ok (c:Code) (s:Src) (oth:Int) (R:Option (List Part)) (C0 C1 C2:List V) (X:QR):Prop where
 k:X.k≤c.ins.length
 mea : ∃sz,Bw c X.k=some (sz,(X.st.length:Int),(X.loc.length:Int))
 ex:X.k<c.ins.length→Ar s oth (c.ins.drop X.k) X.st X.loc X.ps=R∧(∀p∈X.ps,Ah p.amt=true)∧X.all=(X.ps.map Part.amt).sum
 fin:X.k=c.ins.length→Cw X.ps=R
 alo : ∀v∈X.loc,Ah v=true
 ast : ∀v∈X.st,Ah v=true
 aps:SM X.ps
 acc : ∀p∈X.ps,0≤p.acc∧p.acc≤1000000
 lps:X.ps.length≤X.k
 qb:QB C0 C1 C2 s oth X.st X.loc X.ps X.sv X.lv X.pv X.kb X.lb X.pb X.B
theorem QR.next {c:Code} {s:Src} {oth:Int} {R:Option (List Part)} {C0 C1 C2:List V} {n k:Nat} {z:QR} (hz:z.Ok c s oth R C0 C1 C2) (hk:z.k=k+1) (hkn:k<n) (e3:IntKind.i64.wrap ((k:Int)+1)=(k:Int)+1) {A:Int} (ha:z.all=A) :
  ∃z',QR.Ok c s oth R C0 C1 C2 z'∧n-z'.k<n-k∧Ab z'.B.length 0 z.B z'.B∧0<z'.B.length∧1<z'.B.length∧2<z'.B.length∧3<z'.B.length∧z'.all=A∧(z'.k:Int)=IntKind.i64.wrap ((k:Int)+1):=by
 have h3:=A6 hz.qb.b3
 exact⟨z,hz,by omega,hz.qb.U _ _ (Nat.le_refl _),by omega,by omega,by omega,h3,ha,by rw [e3,hk];push_cast;rfl⟩
theorem A3c (c:Code) (s:Src) (hs:s.Ok) (rule oth:Int) (hval:(C4 c).2=true) (hlen:c.ins.length≤8000) (hpair:c.pair=true→0≤oth) (ho:oth≠-2) :
  A4 Tryz.prog 90 [c.v,s.qv,vI rule,vI oth] (peV (Cb (Cx c s oth rule))):=by
 obtain⟨R,hR⟩ : ∃R,R=Ar s oth c.ins [] [] []:=⟨_,rfl⟩
 have hI:Cx c s oth rule=R.map (Dc s oth rule):=by rw [hR];rfl
 rw [hI]
 obtain⟨cn,cp,ins⟩:=c
 simp only [] at hlen hpair
 obtain⟨c0,hc0⟩ : ∃c0:Code,c0=⟨cn,cp,ins⟩:=⟨_,rfl⟩
 have hci:c0.ins=ins:=by rw [hc0]
 rw [←hc0] at hval hR
 obtain⟨C0,hC0⟩ : ∃C0:List V,C0=[vS cn,vB cp,Ins.l ins]:=⟨_,rfl⟩
 obtain⟨C1,hC1⟩ : ∃C1:List V,C1=[vI s.ent,vB s.full,.t (.bool (nB s.num)),.t (.sl (qE s.num)),.t (.bool (nB s.den)),.t (.sl (qE s.den)),.t (.sl (s.items.map Item.c))]:=⟨_,rfl⟩
 obtain⟨C2,hC2⟩ : ∃C2:List V,C2=[vI 0,vI 0,vI 0,vI 0,.snil]:=⟨_,rfl⟩
 have hstart:QB C0 C1 C2 s oth [] [] [] .snil .snil .snil 0 0 0 [.cells C0,.cells C1,.cells C2,.cells (qC s oth .snil .snil .snil)]:=by
  refine⟨fun n m hn=>?_,rfl,rfl,rfl,rfl,.inl ⟨rfl,rfl⟩,.inl ⟨rfl,rfl⟩,.inl ⟨rfl,rfl⟩,fun h=>absurd rfl h⟩
  rw [hC0,hC1,hC2]
  exact⟨⟨A5 _,rfl⟩,⟨A5 _,rfl⟩,⟨A5 _,rfl⟩,Hv rfl rfl rfl,trivial⟩
 rw [hC0,hC1,hC2] at hstart
 unfold Src.qv
 (refine FnS.of_codeV mix Tryz.call90 kv_90 (by simp) (fun hB=>?_);(try simp at hB);(try simp -implicitDefEqProofs))
 ((try simp -implicitDefEqProofs);repeat' first|((with_reducible first|apply A7|apply A8|apply A3)<;>(intro hc;have hc':=hc;(try simp at hc');simp -implicitDefEqProofs [hc,hc'])))
 refine A9 (X:=QR) (fun X=>X.Ok c0 s oth R C0 C1 C2) (fun X=>[(2,vI rule),(3,vI oth),(4,.ptr 0 0),(5,.ptr 1 0),(8,.ptr 2 0),(10,.ptr 3 0),(11,vI X.all),(12,vI X.k)]) (fun X=>⟨X.B,[]⟩) (fun X=>ins.length-X.k) ⟨0,[],[],[],0,.snil,.snil,.snil,0,0,0,[.cells C0,.cells C1,.cells C2,.cells (qC s oth .snil .snil .snil)]⟩ ?h0 ?hs ?_
 case h0=>exact⟨by simp,⟨0,rfl⟩,fun h=>⟨by rw [hR];rfl,by simp,rfl⟩,fun h=>by
   have h0:ins=[]:=List.eq_nil_of_length_eq_zero (by rw [hci] at h;exact h.symm)
   rw [hR,hci,h0];rfl,by simp,by simp,SM.of (by simp) (by simp),by simp,by simp,by rw [hC0,hC1,hC2];exact hstart⟩
 case hs=>
  have hU:=hstart.U 4 0 (Nat.le_refl _)
  unfold qC at hU
  rw [hC0,hC1,hC2]
  unfold qC
  simp [hU]
  trace_state
 rintro ⟨k,st,loc,ps,all,sv,lv,pv,kb,lb,pb,B⟩ hok hbd
 clear hbd
 obtain⟨hk,⟨sz,hmea⟩,hexF,hfin,halo,hast,haps,hacc,hlps,hqb⟩:=id hok
 simp only [] at hk hmea hexF hfin halo hast haps hacc hlps hqb
 rw [hci] at hk hexF hfin
 have e3:IntKind.i64.wrap ((k:Int)+1)=(k:Int)+1:=wrap64 (by omega) (by omega)
 have hb0:=hqb.b0
 have hb1:=hqb.b1
 have hb2:=hqb.b2
 have hb3:=hqb.b3
 have hb3l:=A6 hb3
 rw [hC0] at hb0
 rw [hC1] at hb1
 rw [hC2] at hb2
 rcases Nat.lt_or_ge k ins.length with h|h
 ·obtain⟨x,hx⟩:=Ad h
  have hxc:(ins.map Ins.c)[k]?=some x.c:=by simp [hx]
  have hxc' : ∀h,(ins.map Ins.c)[k]'h=x.c:=fun h=>by rw [List.getElem?_eq_getElem h] at hxc;exact Option.some.inj hxc
  obtain⟨op,xa,xb⟩:=x
  obtain⟨s',hst'⟩ : ∃s',Bu ins.length c0.pair k ⟨op,xa,xb⟩ (sz,(st.length:Int),(loc.length:Int))=some s':=by
   cases he:Bu ins.length c0.pair k ⟨op,xa,xb⟩ (sz,(st.length:Int),(loc.length:Int)) with
   | some s'=>exact⟨s',rfl⟩
   | none=>
    have:=Es hmea (by rw [hci];exact hx) (by rw [hci];exact he)
    rw [this] at hval;cases hval
  obtain⟨o1,o2,hdep,rfl⟩:=Ox hst'
  have hm1:=El hmea (show c0.ins[k]?=some ⟨op,xa,xb⟩ by rw [hci];exact hx)
  rw [hci,hst'] at hm1
  have hbad:Cg ins.length c0.pair k ⟨op,xa,xb⟩ (loc.length:Int)=false∧C8 op (st.length:Int)=false:=by
   unfold Bu at hst'
   split at hst'
   ·cases hst'
   split at hst'
   ·cases hst'
   ·rename_i q1 q2;exact⟨by simpa using q1,by simpa using q2⟩
  simp only [] at o1 o2 hdep hm1 hbad
  have hlast:op=26↔k+1=ins.length:=by
   have:=hbad.1
   simp only [Cg,Bool.or_eq_false_iff,bne_eq_false_iff_eq] at this
   have:=this.1.2
   rw [←decide_eq_decide];exact this
  have hnum:Cv ⟨op,xa,xb⟩ c0.pair (loc.length:Int)=true:=by
   have:=hbad.1
   simp only [Cg,Bool.or_eq_false_iff] at this
   simpa using this.2
  obtain⟨hex,hapb,rfl⟩:=hexF h
  clear hexF
  have hdr:ins.drop k=⟨op,xa,xb⟩::ins.drop (k+1):=by
   obtain⟨h1,h2⟩:=List.getElem?_eq_some_iff.1 hx
   rw [List.drop_eq_getElem_cons h1,h2]
  rw [hdr] at hex
  simp only [Ar] at hex
  have hmbd:=Ja hmea
  simp only [] at hmbd
  have hdl:st.length≤8000:=by omega
  have hlocl:loc.length≤8000:=by omega
  have hxU : ∀n m,E.leB n m (.cells [vI op,vI xa,vI xb]) (.cells [vI op,vI xa,vI xb]):=fun n m=>⟨A5 _,rfl⟩
  have hq1:=hqb.x hxU
  have gz : ∀l:List Bx,(B++l)[B.length]?=l[0]?:=fun l=>by rw [List.getElem?_append_right (by omega)];simp
  have s0 : ∀(l:List Bx) (v:Bx),(B++l).set B.length v=B++l.set 0 v:=fun l v=>by rw [List.set_append_right _ _ (by omega)];simp
  have h0E : ∀l:List Bx,(B++l)[0]?=some (.cells [vS cn,vB cp,Ins.l ins]):=fun l=>Aj hb0 l
  have h3E : ∀l:List Bx,(B++l)[3]?=some (.cells (qC s oth sv lv pv)):=fun l=>Aj hb3 l
  have hone:tk op=1→pt op=0→∃v0,st=[v0]:=fun q1 q2=>by
   have:=hbad.2
   simp [C8,q1,q2] at this
   exact List.length_eq_one_iff.1 (by omega)
  by_cases h23:op=23
  ·subst h23
   obtain⟨v0,rfl⟩:=hone rfl rfl
   have hex1:Ar s oth (ins.drop (k+1)) [] (loc++[v0]) ps=R:=by simpa using hex
   have hm2:Bw c0 (k+1)=some (max sz ((([v0]:List Int).length:Int)+(pt 23-tk 23)),(([]:List Int).length:Int),((loc++[v0]).length:Int)):=by rw [hm1];simp [show pt 23=0 from rfl,show tk 23=1 from rfl]
   have hal2 : ∀u∈loc++[v0],Ah u=true:=fun u hu=>by
    rcases List.mem_append.1 hu with hu|hu
    ·exact halo u hu
    ·simp at hu;rw [hu];exact hast v0 (by simp)
   have hl26 : ¬k+1=ins.length:=fun hl=>by have:=hlast.2 hl;omega
   have hpop:=hq1.w_pop (by simp)
   have hq2:=hq1.pop
   obtain⟨B2,hB2⟩ : ∃B2,B2=(B++[Bx.cells [vI 23,vI xa,vI xb]]).set 3 (.cells (qC s oth (.bw kb ([]:List Int).length) lv pv)):=⟨_,rfl⟩
   rw [←hB2] at hpop hq2
   have g3:=hq2.b3
   have g3l:=A6 g3
   have g3E : ∀l:List Bx,(B2++l)[3]?=_:=fun l=>Aj g3 l
   have g3S : ∀(l:List Bx) (v:Bx),(B2++l).set 3 v=B2.set 3 v++l:=fun l v=>List.set_append_left _ _ g3l
   unfold qC at g3 g3E h3E
   rcases hqb.fl with ⟨rfl,rfl⟩|⟨rfl,hbuf⟩
   ·have hq3:=hq2.store0 v0
    ((try simp -implicitDefEqProofs [h,hxc,hxc',Ins.l,Ins.c,hb0,h0E,gz,s0]);repeat' first|((with_reducible first|apply A7|apply A8|apply A3)<;>(intro hc;have hc':=hc;(try simp at hc');simp -implicitDefEqProofs [hc,hc',h,hxc,hxc',Ins.l,Ins.c,hb0,h0E,gz,s0])))
    iterate 4
     all_goals (repeat' with_reducible apply And.intro)
     all_goals (try simp -implicitDefEqProofs [h3E])
    all_goals refine Ac hpop ?_
    all_goals ((try simp -implicitDefEqProofs [g3,g3E,g3S,maxLen]);repeat' first|((with_reducible first|apply A7|apply A8|apply A3)<;>(intro hc;have hc':=hc;(try simp at hc');simp -implicitDefEqProofs [hc,hc',g3,g3E,g3S,maxLen])))
    all_goals exact QR.next (z:=⟨k+1,[],[v0],ps,(ps.map Part.amt).sum,.bw kb 0,.bw B2.length 1,pv,kb,B2.length,pb,_⟩) ⟨by rw [hci];exact h,⟨_,hm2⟩,fun _=>⟨by rw [hci];exact hex1,hapb,rfl⟩,fun hl=>absurd (by rw [hci] at hl;exact hl) hl26,hal2,by simp,haps,hacc,Nat.le_succ_of_le hlps,hq3⟩ rfl h e3 rfl
   ·have hq3:=hq2.store1 v0
    have hbuf2:B2[lb]?=some (.buf 3 1 (loc.map vI)):=by
     rcases hq2.fl with ⟨h1,_⟩|⟨_,h2⟩
     ·cases h1
     ·exact h2
    have hl4:=hq2.far hbuf2
    have g4E : ∀l:List Bx,(B2.set lb .dead++l)[3]?=_:=fun l=>(by rw [List.getElem?_append_left (by simpa using g3l),List.getElem?_set_ne (by omega)]:(B2.set lb .dead++l)[3]?=B2[3]?).trans g3
    have g4S : ∀(l:List Bx) (v:Bx),(B2.set lb .dead++l).set 3 v=(B2.set lb .dead).set 3 v++l:=fun l v=>List.set_append_left _ _ (by simpa using g3l)
    have d4:(loc.map vI).take loc.length=loc.map vI:=List.take_of_length_le (by simp)
    have j1:loc.length+1≤9223372036854775807:=by omega
    have j2:(loc.length+1)*8≤140737488355328:=by omega
    ((try simp -implicitDefEqProofs [h,hxc,hxc',Ins.l,Ins.c,hb0,h0E,gz,s0]);repeat' first|((with_reducible first|apply A7|apply A8|apply A3)<;>(intro hc;have hc':=hc;(try simp at hc');simp -implicitDefEqProofs [hc,hc',h,hxc,hxc',Ins.l,Ins.c,hb0,h0E,gz,s0])))
    iterate 4
     all_goals (repeat' with_reducible apply And.intro)
     all_goals (try simp -implicitDefEqProofs [h3E])
    all_goals refine Ac hpop ?_
    all_goals ((try simp -implicitDefEqProofs [g3,g4E,g4S,maxLen,hbuf2,d4,j1,j2]);repeat' first|((with_reducible first|apply A7|apply A8|apply A3)<;>(intro hc;have hc':=hc;(try simp at hc');simp -implicitDefEqProofs [hc,hc',g3,g4E,g4S,maxLen,hbuf2,d4,j1,j2])))
    all_goals exact QR.next (z:=⟨k+1,[],loc++[v0],ps,(ps.map Part.amt).sum,.bw kb 0,.bw B2.length (loc.length+1),pv,kb,B2.length,pb,_⟩) ⟨by rw [hci];exact h,⟨_,hm2⟩,fun _=>⟨by rw [hci];exact hex1,hapb,rfl⟩,fun hl=>absurd (by rw [hci] at hl;exact hl) hl26,hal2,by simp,haps,hacc,Nat.le_succ_of_le hlps,hq3⟩ rfl h e3 rfl
  by_cases h24:op=24
  ·subst h24
   obtain⟨v0,rfl⟩:=hone rfl rfl
   have hex1:(if v0=0 then some [] else Ar s oth (ins.drop (k+1)) [] loc ps)=R:=by simpa using hex
   have hl26 : ¬k+1=ins.length:=fun hl=>by have:=hlast.2 hl;omega
   have hpop:=hq1.w_pop (by simp)
   have hq2:=hq1.pop
   obtain⟨B2,hB2⟩ : ∃B2,B2=(B++[Bx.cells [vI 24,vI xa,vI xb]]).set 3 (.cells (qC s oth (.bw kb ([]:List Int).length) lv pv)):=⟨_,rfl⟩
   rw [←hB2] at hpop hq2
   have g2:=hq2.b2
   rw [hC2] at g2
   have g2l:=A6 g2
   have g2s : ∀v,(B2.set 2 v)[2]?=some v:=fun v=>List.getElem?_set_self g2l
   by_cases v00:v0=0
   ·rw [if_pos v00] at hex1
    subst v00
    rw [←hex1]
    ((try simp -implicitDefEqProofs [h,hxc,hxc',Ins.l,Ins.c,hb0,h0E,gz,s0]);repeat' first|((with_reducible first|apply A7|apply A8|apply A3)<;>(intro hc;have hc':=hc;(try simp at hc');simp -implicitDefEqProofs [hc,hc',h,hxc,hxc',Ins.l,Ins.c,hb0,h0E,gz,s0])))
    refine Ac hpop ?_
    ((try simp -implicitDefEqProofs [g2,g2s,Cb,Dc,peV,pV]);repeat' first|((with_reducible first|apply A7|apply A8|apply A3)<;>(intro hc;have hc':=hc;(try simp at hc');simp -implicitDefEqProofs [hc,hc',g2,g2s,Cb,Dc,peV,pV])))
   ·rw [if_neg v00] at hex1
    have v01:(v0==0)=false:=by simpa using v00
    have hm2:Bw c0 (k+1)=some (max sz ((([v0]:List Int).length:Int)+(pt 24-tk 24)),(([]:List Int).length:Int),(loc.length:Int)):=by rw [hm1];simp [show pt 24=0 from rfl,show tk 24=1 from rfl]
    ((try simp -implicitDefEqProofs [h,hxc,hxc',Ins.l,Ins.c,hb0,h0E,gz,s0]);repeat' first|((with_reducible first|apply A7|apply A8|apply A3)<;>(intro hc;have hc':=hc;(try simp at hc');simp -implicitDefEqProofs [hc,hc',h,hxc,hxc',Ins.l,Ins.c,hb0,h0E,gz,s0])))
    refine Ac hpop ?_
    ((try simp -implicitDefEqProofs [v00,v01]);repeat' first|((with_reducible first|apply A7|apply A8|apply A3)<;>(intro hc;have hc':=hc;(try simp at hc');simp -implicitDefEqProofs [hc,hc',v00,v01])))
    exact QR.next (z:=⟨k+1,[],loc,ps,(ps.map Part.amt).sum,.bw kb 0,lv,pv,kb,lb,pb,B2⟩) ⟨by rw [hci];exact h,⟨_,hm2⟩,fun _=>⟨by rw [hci];exact hex1,hapb,rfl⟩,fun hl=>absurd (by rw [hci] at hl;exact hl) hl26,halo,by simp,haps,hacc,Nat.le_succ_of_le hlps,hq2⟩ rfl h e3 rfl
  have hxacc:op=25∨op=26→0≤xa∧xa≤1000000:=fun q=>by
   rcases q with rfl|rfl<;>(simp [Cv,Fp] at hnum;omega)
  have hsb:=Me hapb
  have hpsl:ps.length≤8000:=by omega
  have hpfl:=Vm ps
  have hrowp:((ps.flatMap Part.c).map V.t).take (ps.length*2)=(ps.flatMap Part.c).map V.t:=List.take_of_length_le (by rw [List.length_map,hpfl];exact Nat.le_refl _)
  have hrowl:ps.length*2≤(ps.flatMap Part.c).length:=by rw [hpfl];exact Nat.le_refl _
  have j1:ps.length≤9223372036854775806:=by omega
  have j2:(ps.length+1)*16≤140737488355328:=by omega
  by_cases h25:op=25
  ·subst h25
   obtain⟨v0,rfl⟩:=hone rfl rfl
   have hex1:Ar s oth (ins.drop (k+1)) [] loc (ps++[⟨xa,v0⟩])=R:=by simpa using hex
   have hm2:Bw c0 (k+1)=some (max sz ((([v0]:List Int).length:Int)+(pt 25-tk 25)),(([]:List Int).length:Int),(loc.length:Int)):=by rw [hm1];simp [show pt 25=0 from rfl,show tk 25=1 from rfl]
   have hv0:=hast v0 (by simp)
   have hv0b:=G4 hv0
   have hl26 : ¬k+1=ins.length:=fun hl=>by have:=hlast.2 hl;omega
   have hap2 : ∀p∈ps++[(⟨xa,v0⟩:Part)],Ah p.amt=true:=fun p hp=>by
    rcases List.mem_append.1 hp with hp|hp
    ·exact hapb p hp
    ·simp at hp;subst hp;exact hv0
   have hap3:SM (ps++[(⟨xa,v0⟩:Part)]):=SM.of hap2 (by simp;omega)
   have hac2 : ∀p∈ps++[(⟨xa,v0⟩:Part)],0≤p.acc∧p.acc≤1000000:=fun p hp=>by
    rcases List.mem_append.1 hp with hp|hp
    ·exact hacc p hp
    ·simp at hp;subst hp;exact hxacc (.inl rfl)
   have hsm:((ps++[(⟨xa,v0⟩:Part)]).map Part.amt).sum=(ps.map Part.amt).sum+v0:=by rw [List.map_append,List.sum_append];simp
   have e4:IntKind.i64.wrap ((ps.map Part.amt).sum+v0)=(ps.map Part.amt).sum+v0:=wrap64 (by omega) (by omega)
   have hpop:=hq1.w_pop (by simp)
   have hq2:=hq1.pop
   have hxb1:((B++[Bx.cells [vI 25,vI xa,vI xb]]).set 3 (.cells (qC s oth (.bw kb ([]:List Int).length) lv pv)))[B.length]?=some (Bx.cells [vI 25,vI xa,vI xb]):=by
    rw [List.getElem?_set_ne (by omega),gz];rfl
   obtain⟨B2,hB2⟩ : ∃B2,B2=(B++[Bx.cells [vI 25,vI xa,vI xb]]).set 3 (.cells (qC s oth (.bw kb ([]:List Int).length) lv pv)):=⟨_,rfl⟩
   rw [←hB2] at hpop hq2 hxb1
   have g3:=hq2.b3
   have g3l:=A6 g3
   have g3E : ∀l:List Bx,(B2++l)[3]?=_:=fun l=>Aj g3 l
   have g3S : ∀(l:List Bx) (v:Bx),(B2++l).set 3 v=B2.set 3 v++l:=fun l v=>List.set_append_left _ _ g3l
   unfold qC at g3 g3E h3E
   rcases hqb.fp with ⟨rfl,rfl⟩|⟨rfl,hbuf⟩
   ·have hq3:=hq2.post0 ⟨xa,v0⟩
    ((try simp -implicitDefEqProofs [h,hxc,hxc',Ins.l,Ins.c,hb0,h0E,gz,s0]);repeat' first|((with_reducible first|apply A7|apply A8|apply A3)<;>(intro hc;have hc':=hc;(try simp at hc');simp -implicitDefEqProofs [hc,hc',h,hxc,hxc',Ins.l,Ins.c,hb0,h0E,gz,s0])))
    refine Ac hpop ?_
    have e5:IntKind.i64.wrap v0=v0:=wrap64 (by omega) (by omega)
    ((try simp -implicitDefEqProofs [g3,g3E,g3S,maxLen,e5,hxb1]);repeat' first|((with_reducible first|apply A7|apply A8|apply A3)<;>(intro hc;have hc':=hc;(try simp at hc');simp -implicitDefEqProofs [hc,hc',g3,g3E,g3S,maxLen,e5,hxb1])))
    iterate 4
     all_goals (repeat' with_reducible apply And.intro)
     all_goals (try simp -implicitDefEqProofs [g3,g3E,g3S,maxLen,hxb1])
    all_goals exact QR.next (z:=⟨k+1,[],loc,[⟨xa,v0⟩],v0,.bw kb 0,lv,.bw B2.length 1,kb,lb,B2.length,_⟩) ⟨by rw [hci];exact h,⟨_,hm2⟩,fun _=>⟨by rw [hci];exact hex1,hap2,by simp⟩,fun hl=>absurd (by rw [hci] at hl;exact hl) hl26,halo,by simp,hap3,hac2,by simp,hq3⟩ rfl h e3 rfl
   ·have hq3:=hq2.post1 ⟨xa,v0⟩
    have hbuf2:B2[pb]?=some (.buf 77 2 ((ps.flatMap Part.c).map .t)):=by
     rcases hq2.fp with ⟨h1,_⟩|⟨_,h2⟩
     ·cases h1
     ·exact h2
    have hp4:=hq2.far hbuf2
    have g4E : ∀l:List Bx,(B2.set pb .dead++l)[3]?=_:=fun l=>(by rw [List.getElem?_append_left (by simpa using g3l),List.getElem?_set_ne (by omega)]:(B2.set pb .dead++l)[3]?=B2[3]?).trans g3
    have g4S : ∀(l:List Bx) (v:Bx),(B2.set pb .dead++l).set 3 v=(B2.set pb .dead).set 3 v++l:=fun l v=>List.set_append_left _ _ (by simpa using g3l)
    have hrowl2:ps.length*2≤((ps.flatMap Part.c).map V.t).length:=by rw [List.length_map];exact hrowl
    generalize (ps.flatMap Part.c).map V.t=PC at hrowp hrowl2 hbuf2 hq3
    ((try simp -implicitDefEqProofs [h,hxc,hxc',Ins.l,Ins.c,hb0,h0E,gz,s0]);repeat' first|((with_reducible first|apply A7|apply A8|apply A3)<;>(intro hc;have hc':=hc;(try simp at hc');simp -implicitDefEqProofs [hc,hc',h,hxc,hxc',Ins.l,Ins.c,hb0,h0E,gz,s0])))
    refine Ac hpop ?_
    ((try simp -implicitDefEqProofs [g3,maxLen,e4,hxb1]);repeat' first|((with_reducible first|apply A7|apply A8|apply A3)<;>(intro hc;have hc':=hc;(try simp at hc');simp -implicitDefEqProofs [hc,hc',g3,maxLen,e4,hxb1])))
    iterate 4
     all_goals (repeat' with_reducible apply And.intro)
     all_goals (try simp -implicitDefEqProofs [g3,g4E,g4S,maxLen,hxb1,hbuf2,hrowp,hrowl2,j1,j2])
    all_goals exact QR.next (z:=⟨k+1,[],loc,ps++[⟨xa,v0⟩],(ps.map Part.amt).sum+v0,.bw kb 0,lv,.bw B2.length (ps.length+1),kb,lb,B2.length,_⟩) ⟨by rw [hci];exact h,⟨_,hm2⟩,fun _=>⟨by rw [hci];exact hex1,hap2,hsm.symm⟩,fun hl=>absurd (by rw [hci] at hl;exact hl) hl26,halo,by simp,hap3,hac2,(by simpa using hlps),hq3⟩ rfl h e3 rfl
  by_cases h26:op=26
  ·subst h26
   have hl26:=hlast.1 rfl
   have hst0:st=[]:=by
    have:=hbad.2
    simp [C8,show pt 26=0 from rfl,show tk 26=0 from rfl] at this
    exact this
   subst hst0
   have hex1:Cw (ps++[⟨xa,-(ps.map Part.amt).sum⟩])=R:=by simpa using hex
   have hm2:Bw c0 (k+1)=some (max sz ((([]:List Int).length:Int)+(pt 26-tk 26)),(([]:List Int).length:Int),(loc.length:Int)):=by rw [hm1];simp [show pt 26=0 from rfl,show tk 26=0 from rfl]
   have hap3:SM (ps++[(⟨xa,-(ps.map Part.amt).sum⟩:Part)]):=SM.to hapb (by omega) _ ⟨by omega,by omega⟩
   have hac2 : ∀p∈ps++[(⟨xa,-(ps.map Part.amt).sum⟩:Part)],0≤p.acc∧p.acc≤1000000:=fun p hp=>by
    rcases List.mem_append.1 hp with hp|hp
    ·exact hacc p hp
    ·simp only [List.mem_singleton] at hp;subst hp;exact hxacc (.inr rfl)
   have e4:IntKind.i64.wrap (-(ps.map Part.amt).sum) = -(ps.map Part.amt).sum:=wrap64 (by omega) (by omega)
   have hnl : ¬k+1<c0.ins.length:=by rw [hci];omega
   have s3 : ∀(l:List Bx) (v:Bx),(B++l).set 3 v=B.set 3 v++l:=fun l v=>List.set_append_left _ _ hb3l
   have gl1:(B++[Bx.cells [vI 26,vI xa,vI xb]]).length=B.length+1:=by simp
   rcases hqb.fp with ⟨rfl,rfl⟩|⟨rfl,hbuf⟩
   ·have hq3:=hq1.post0 ⟨xa,-0⟩
    rw [gl1,s3,List.append_assoc] at hq3
    simp only [List.map_nil,List.sum_nil] at e4
    have e5:IntKind.i64.wrap 0=0:=rfl
    unfold qC at h3E
    ((try simp -implicitDefEqProofs [h,hxc,hxc',Ins.l,Ins.c,hb0,h0E,gz,s0,h3E,s3,maxLen,e5]);repeat' first|((with_reducible first|apply A7|apply A8|apply A3)<;>(intro hc;have hc':=hc;(try simp at hc');simp -implicitDefEqProofs [hc,hc',h,hxc,hxc',Ins.l,Ins.c,hb0,h0E,gz,s0,h3E,s3,maxLen,e5])))
    iterate 4
     all_goals (repeat' with_reducible apply And.intro)
     all_goals (try simp -implicitDefEqProofs [h3E,s3,maxLen,gz,e5])
    all_goals exact QR.next (z:=⟨k+1,[],loc,[⟨xa,-0⟩],0,sv,lv,.bw (B.length+1) 1,kb,lb,B.length+1,_⟩) ⟨by rw [hci];exact h,⟨_,hm2⟩,fun q=>absurd q hnl,fun _=>hex1,halo,by simp,hap3,hac2,by simp,hq3⟩ rfl h e3 rfl
   ·have hq3:=hq1.post1 ⟨xa,-(ps.map Part.amt).sum⟩
    have hp4:=hqb.far hbuf
    have hpl:=A6 hbuf
    have sp : ∀(l:List Bx) (v:Bx),(B++l).set pb v=B.set pb v++l:=fun l v=>List.set_append_left _ _ hpl
    have s4 : ∀(l:List Bx) (v w:Bx),(B.set pb w++l).set 3 v=(B.set pb w).set 3 v++l:=fun l v w=>List.set_append_left _ _ (by simpa using hb3l)
    have hbE : ∀l:List Bx,(B++l)[pb]?=_:=fun l=>Aj hbuf l
    have g4E : ∀(l:List Bx) (w:Bx),(B.set pb w++l)[3]?=_:=fun l w=>(by rw [List.getElem?_append_left (by simpa using hb3l),List.getElem?_set_ne (by omega)]:(B.set pb w++l)[3]?=B[3]?).trans hb3
    rw [gl1,sp,s4,List.append_assoc] at hq3
    unfold qC at h3E g4E
    have hrowl2:ps.length*2≤((ps.flatMap Part.c).map V.t).length:=by rw [List.length_map];exact hrowl
    generalize (ps.flatMap Part.c).map V.t=PC at hrowp hrowl2 hbE hq3
    ((try simp -implicitDefEqProofs [h,hxc,hxc',Ins.l,Ins.c,hb0,h0E,gz,s0,maxLen,e4]);repeat' first|((with_reducible first|apply A7|apply A8|apply A3)<;>(intro hc;have hc':=hc;(try simp at hc');simp -implicitDefEqProofs [hc,hc',h,hxc,hxc',Ins.l,Ins.c,hb0,h0E,gz,s0,maxLen,e4])))
    iterate 4
     all_goals (repeat' with_reducible apply And.intro)
     all_goals (try simp -implicitDefEqProofs [h3E,s3,s4,sp,g4E,maxLen,gz,e4,hbE,hrowp,hrowl2,j1,j2])
    all_goals exact QR.next (z:=⟨k+1,[],loc,ps++[⟨xa,-(ps.map Part.amt).sum⟩],(ps.map Part.amt).sum,sv,lv,.bw (B.length+1) (ps.length+1),kb,lb,B.length+1,_⟩) ⟨by rw [hci];exact h,⟨_,hm2⟩,fun q=>absurd q hnl,fun _=>hex1,halo,by simp,hap3,hac2,(by simpa using hlps),hq3⟩ rfl h e3 rfl
  have b23:(op==23)=false:=by simpa using h23
  have b24:(op==24)=false:=by simpa using h24
  have b25:(op==25)=false:=by simpa using h25
  have b26:(op==26)=false:=by simpa using h26
  rw [if_neg h23,if_neg h24,if_neg h25,if_neg h26] at hex
  obtain⟨B',hstep,hQL⟩:=A0z hq1.U hs ho hq1.b3 hq1.fs hdl hq1.fl hlocl hq1.fp.okU ⟨op,xa,xb⟩ o1 (by simp only [];omega) hdep (fun h2=>by
   simp only [] at h2
   simp only [Cv,h2,if_true,show ¬(2:Int)=1 by decide,if_false,Bool.and_eq_true,decide_eq_true_eq] at hnum
   exact hnum.1)
  have hq2:=hq1.step hQL
  obtain⟨v1,v2⟩:=Xw (s:=s) (oth:=oth) (st:=st) hnum halo o1 (by simp only [];omega)
  have hptk:pt op=1:=by
   rcases (by omega:op=1∨op=2∨op=3∨op=4∨op=5∨op=6∨op=7∨op=8∨op=9∨op=10∨op=11∨op=12∨op=13∨op=14∨op=15∨op=16∨op=17∨op=18∨op=19∨op=20∨op=21∨op=22) with h|h|h|h|h|h|h|h|h|h|h|h|h|h|h|h|h|h|h|h|h|h<;>rw [h]<;>rfl
  have htk0:0≤tk op:=by have:=Va (n:=op.toNat) (by omega);rw [Int.toNat_of_nonneg (by omega)] at this;omega
  have g2:=hq2.b2
  rw [hC2] at g2
  have g2l:=A6 hq2.b3
  have g2s : ∀v,(B'.set 2 v)[2]?=some v:=fun v=>List.getElem?_set_self (by omega)
  generalize hV:C7 s oth ⟨op,xa,xb⟩ st loc=V1 at *
  obtain⟨w,wk⟩:=V1
  simp only [] at hstep hq2 v1 v2
  cases hok2:(wk&&Ah w)
  ·rw [hok2] at hstep v1
   rw [if_neg (by rw [v1];decide)] at hex
   rw [←hex]
   ((try simp -implicitDefEqProofs [h,hxc,hxc',Ins.l,Ins.c,hb0,h0E,gz,s0,b23,b24,b25,b26]);repeat' first|((with_reducible first|apply A7|apply A8|apply A3)<;>(intro hc;have hc':=hc;(try simp at hc');simp -implicitDefEqProofs [hc,hc',h,hxc,hxc',Ins.l,Ins.c,hb0,h0E,gz,s0,b23,b24,b25,b26])))
   refine Ac hstep ?_
   ((try simp -implicitDefEqProofs [g2,g2s,Cb,peV,pV,B9]);repeat' first|((with_reducible first|apply A7|apply A8|apply A3)<;>(intro hc;have hc':=hc;(try simp at hc');simp -implicitDefEqProofs [hc,hc',g2,g2s,Cb,peV,pV,B9])))
   trace_state
  ·rw [hok2] at hstep v1
   have v2:=v2 v1
   rw [if_pos v1,v2] at hex
   ((try simp -implicitDefEqProofs [h,hxc,hxc',Ins.l,Ins.c,hb0,h0E,gz,s0,b23,b24,b25,b26]);repeat' first|((with_reducible first|apply A7|apply A8|apply A3)<;>(intro hc;have hc':=hc;(try simp at hc');simp -implicitDefEqProofs [hc,hc',h,hxc,hxc',Ins.l,Ins.c,hb0,h0E,gz,s0,b23,b24,b25,b26])))
   refine Ac hstep ?_
   ((try simp -implicitDefEqProofs [g2]);repeat' first|((with_reducible first|apply A7|apply A8|apply A3)<;>(intro hc;have hc':=hc;(try simp at hc');simp -implicitDefEqProofs [hc,hc',g2])))
   have hst1 : ∀u∈w::st.drop (tk op).toNat,Ah u=true:=fun u hu=>by
    rcases List.mem_cons.1 hu with rfl|hu
    ·simp only [Bool.and_eq_true] at hok2;exact hok2.2
    ·exact hast u (List.mem_of_mem_drop hu)
   refine QR.next (z:=⟨k+1,w::st.drop (tk op).toNat,loc,ps,(ps.map Part.amt).sum,.bw (B'.length-1) (w::st.drop (tk op).toNat).length,lv,pv,B'.length-1,lb,pb,B'⟩) ⟨by rw [hci];exact h,⟨max sz ((st.length:Int)+(pt op-tk op)),?_⟩,fun _=>⟨by rw [hci];exact hex,hapb,rfl⟩,fun hl=>?_,halo,hst1,haps,hacc,Nat.le_succ_of_le hlps,hq2⟩ rfl h e3 rfl
   ·rw [hm1,if_neg h23,hptk]
    simp only [List.length_cons,List.length_drop]
    congr 3
    omega
   ·rw [hci] at hl
    exact absurd (hlast.2 hl) h26
 ·have hkk:k=ins.length:=by omega
  subst hkk
  have hfin:=hfin rfl
  have hpp:=Uc ps hacc haps (by omega)
  rw [hfin] at hpp
  obtain⟨⟨B3,hf,c1,c2⟩⟩:Nonempty { B3:List Bx // (eras (frzVs [pv] ⟨B,[]⟩).1=[Part.l ps]∧(frzVs [pv] ⟨B,[]⟩).2=⟨B3,[]⟩)∧B3[1]?=some (.cells C1)∧B3[2]?=some (.cells C2) }:=by
   rcases hqb.fp with ⟨rfl,rfl⟩|⟨rfl,hbuf⟩
   ·exact⟨⟨B,⟨rfl,rfl⟩,hqb.b1,hqb.b2⟩⟩
   ·have h4:=hqb.far hbuf
    have hr:=A0y (c:=Part.c) (z:=2) (fun _=>rfl) ps
    have hrowp:((ps.flatMap Part.c).map V.t).take (ps.length*2)=(ps.flatMap Part.c).map V.t:=List.take_of_length_le (by rw [List.length_map,Vm];exact Nat.le_refl _)
    refine⟨⟨B.set pb .dead,⟨?_,?_⟩,?_,?_⟩⟩
    ·simp only [frzVs,Br,hbuf,Ef,List.drop_zero,hrowp,Pi,Option.bind_some,hr,eras,era]
    ·simp only [frzVs,Br,hbuf,Ef,List.drop_zero,hrowp,Pi,Option.bind_some,hr]
    ·rw [List.getElem?_set_ne (by omega)];exact hqb.b1
    ·rw [List.getElem?_set_ne (by omega)];exact hqb.b2
  rw [hC1] at c1
  rw [hC2] at c2
  have c2l:=A6 c2
  have c2s : ∀v,(B3.set 2 v)[2]?=some v:=fun v=>List.getElem?_set_self c2l
  have c2o : ∀v,(B3.set 2 v)[1]?=some _:=fun v=>(by rw [List.getElem?_set_ne (by decide)]:(B3.set 2 v)[1]?=B3[1]?).trans c1
  unfold qC at hb3
  ((try simp -implicitDefEqProofs [hb3,hb0,Ins.l]);repeat' first|((with_reducible first|apply A7|apply A8|apply A3)<;>(intro hc;have hc':=hc;(try simp at hc');simp -implicitDefEqProofs [hc,hc',hb3,hb0,Ins.l])))
  refine Hj (r:=Mo R) ?_ ?_
  ·rw [hf.1];exact hpp
  rw [hf.2]
  cases R with
  | none=>((try simp -implicitDefEqProofs [Mo,c1,c2,c2s,c2o,Cb,Dc,peV,pV,B9]);repeat' first|((with_reducible first|apply A7|apply A8|apply A3)<;>(intro hc;have hc':=hc;(try simp at hc');simp -implicitDefEqProofs [hc,hc',Mo,c1,c2,c2s,c2o,Cb,Dc,peV,pV,B9])))
  | some q=>
   cases q with
   | nil=>((try simp -implicitDefEqProofs [Mo,c1,c2,c2s,c2o,Cb,Dc,peV,pV,B9]);repeat' first|((with_reducible first|apply A7|apply A8|apply A3)<;>(intro hc;have hc':=hc;(try simp at hc');simp -implicitDefEqProofs [hc,hc',Mo,c1,c2,c2s,c2o,Cb,Dc,peV,pV,B9])))
   | cons p q=>
    have hq0:(((q.length:Int)+1)==0)=false:=by rw [beq_eq_false_iff_ne];omega
    ((try simp -implicitDefEqProofs [Mo,c1,c2,c2s,c2o,Cb,Dc,peV,pV,B9,hq0]);repeat' first|((with_reducible first|apply A7|apply A8|apply A3)<;>(intro hc;have hc':=hc;(try simp at hc');simp -implicitDefEqProofs [hc,hc',Mo,c1,c2,c2s,c2o,Cb,Dc,peV,pV,B9,hq0])))
end Go.Proofs.YtmlpmdccfmmpoaaGreatDoor
