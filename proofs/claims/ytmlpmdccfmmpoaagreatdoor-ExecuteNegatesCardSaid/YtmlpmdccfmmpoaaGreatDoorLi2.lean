/- Chapter 35: the law ExecuteItems. -/
import Derived.Test.YtmlpmdccfmmpoaaGreatDoorVaO
import Derived.Test.YtmlpmdccfmmpoaaGreatDoorExV
import Derived.Test.YtmlpmdccfmmpoaaGreatDoorNfH
import Derived.Test.YtmlpmdccfmmpoaaGreatDoorLit
set_option linter.unusedSimpArgs false
set_option linter.unusedVariables false
set_option maxHeartbeats 4000000
set_option maxRecDepth 8000
namespace Go.Proofs.YtmlpmdccfmmpoaaGreatDoor
open E
def Sg (x:Item):Item:={ x with amt:=IntKind.i64.wrap (-x.amt) }
def Cn (s:Src):Src:={ s with items:=s.items.map Sg }
def Di (x:Part):Part:={ x with amt:=-x.amt }
def Ie (p:Posting):Posting:={ p with parts:=p.parts.map Di }
def Po (a b:Int×Bool):Prop:=b.2=a.2∧(a.2=true→b.1 = -a.1)
theorem Dz (n:Int):Ah (-n)=Ah n:=by
 unfold Ah
 rw [Bool.eq_iff_iff]
 simp
 omega
theorem Y8 {n:Int} (h : -9223372036854775808≤n∧n<9223372036854775808):Ah (IntKind.i64.wrap (-n))=Ah n:=by
 rcases (by omega:n = -9223372036854775808∨-9223372036854775807≤n) with rfl|h1
 ·decide
 ·rw [wrap64 (by omega) (by omega),Dz]
theorem A3h (a:Int) (q:Nat):rnd (-a) q = -rnd a q:=by
 unfold rnd
 rw [Int.natAbs_neg]
 rcases (by omega:a<0∨a=0∨0<a) with h|h|h
 ·rw [if_neg (by omega),if_pos h];omega
 ·subst h
  have:(2*(0:Int).natAbs+q) / (2*q)=0:=by
   rcases Nat.eq_zero_or_pos q with h|h
   ·subst h;rfl
   ·exact Nat.div_eq_of_lt (by simp;omega)
  rw [if_neg (by omega),if_neg (by omega),this];rfl
 ·rw [if_pos (by omega),if_neg (by omega)]
theorem Pp (l:List Int):(l.map fun x=>-x).sum = -l.sum:=by
 induction l with
 | nil=>rfl
 | cons x l ih=>simp only [List.map_cons,List.sum_cons,ih];omega
theorem Y9 {l:List Item} (h : ∀x∈l,Ah x.amt=true) (f t:Int) (any:Bool) (p:Int):Az (l.map Sg) f t any p = -Az l f t any p:=by
 unfold Az
 rw [←Pp,List.map_map,List.map_map]
 congr 1
 refine List.map_congr_left fun x hx=>?_
 have h1:=h x hx
 unfold Ah at h1
 simp at h1
 have h2:IntKind.i64.wrap (-x.amt) = -x.amt:=wrap64 (by omega) (by omega)
 simp only [Function.comp_apply,Sg,h2]
 split<;>omega
theorem N4 {a b:Int} (h:b = -a):Po (Db a) (Db b):=by
 subst h
 unfold Db Po
 rw [Dz]
 split<;>simp
namespace Xp
mutual
def linE:Xp→Bool
 | .mk k _ _ _ _ xs=>k==21||k==22||((k==7||k==8||k==3||k==5)&&linEs xs)
def linEs:List Xp→Bool
 | []=>true
 | x::xs=>linE x&&linEs xs
end
theorem linEs_mem : ∀{xs:List Xp},linEs xs=true→∀x∈xs,x.linE=true
 | [],_,_,h=>by cases h
 | x::xs,h,y,hy=>by
  rw [linEs,Bool.and_eq_true] at h
  rcases List.mem_cons.1 hy with rfl|hy
  ·exact h.1
  ·exact linEs_mem h.2 y hy
theorem Oe {s:Src} {oth:Int} {q:List UInt8→Int} : ∀{xs:List Xp},(∀x∈xs,Po (x.valE s oth q) (x.valE (Cn s) oth q))→valEs (Cn s) oth q xs=(valEs s oth q xs).map fun vs=>vs.map fun v=>-v
 | [],_=>rfl
 | x::xs,h=>by
  obtain⟨h1,h2⟩:=h x (by simp)
  rw [valEs,valEs,Oe fun y hy=>h y (by simp [hy]),h1]
  by_cases hx:(x.valE s oth q).2=true
  ·rw [if_pos hx,if_pos hx,h2 hx]
   cases valEs s oth q xs<;>simp
  ·rw [if_neg hx,if_neg hx];rfl
theorem A12 (vs:List Int) (i:Nat):(vs.map fun v=>-v).getD i 0 = -(vs.getD i 0):=by
 simp only [List.getD_eq_getElem?_getD,List.getElem?_map]
 cases vs[i]?<;>simp
theorem valE_neg {s:Src} (hs : ∀x∈s.items,Ah x.amt=true) (oth:Int) (q:List UInt8→Int) : ∀x:Xp,x.prop=true→x.linE=true→Po (x.valE s oth q) (x.valE (Cn s) oth q):=by
 refine Xp.ind fun k v f t n xs ih hp hl=>?_
 rw [linE] at hl
 rw [valE,valE]
 simp only [Xp.prop,Bool.and_eq_true] at hp
 obtain⟨k1,k2,k3⟩:=Vq hp.1
 by_cases h21:k=21∨k=22
 ·have hx:xs=[]:=by
   have:Cb k=0:=by rcases h21 with rfl|rfl<;>rfl
   exact List.eq_nil_of_length_eq_zero (by omega)
  subst hx
  simp only [valEs]
  unfold Fi Po
  have hr:=fun f t any p=>Y9 hs f t any p
  rcases h21 with rfl|rfl<;>simp [Cn,hr,Dz]
 ·have h2:(k=7∨k=8∨k=3∨k=5)∧linEs xs=true:=by
   simp at hl h21
   rcases hl with hl|hl
   ·omega
   ·exact⟨by omega,hl.2⟩
  have hm:=linEs_mem h2.2
  rw [Oe fun y hy=>ih y hy (Xp.props_mem hp.2 y hy) (hm y hy)]
  cases valEs s oth q xs with
  | none=>exact⟨rfl,fun h=>by cases h⟩
  | some vs=>
   simp only [Option.map_some]
   unfold Fi
   simp only [A12]
   generalize vs.getD 0 0=a
   generalize vs.getD 1 0=b
   rcases h2.1 with rfl|rfl|rfl|rfl
   ·simp [Eb,opC,opG,Dz]
    by_cases ha:Ah a=true<;>by_cases hb:Ah b=true
    ·simp [ha,hb]
     unfold Ah at ha hb
     simp at ha hb
     rw [wrap64 (by omega) (by omega),wrap64 (by omega) (by omega)]
     exact N4 (by omega)
    all_goals simp [ha,hb,Po]
   ·simp [Eb,opC,opG,Dz]
    by_cases ha:Ah a=true<;>by_cases hb:Ah b=true
    ·simp [ha,hb]
     unfold Ah at ha hb
     simp at ha hb
     rw [wrap64 (by omega) (by omega),wrap64 (by omega) (by omega)]
     exact N4 (by omega)
    all_goals simp [ha,hb,Po]
   ·simp [Eb,opC,opG,Dz]
    by_cases ha:Ah a=true<;>by_cases hb:Ah b=true
    ·simp [ha,hb]
     unfold Ah at ha hb
     simp at ha hb
     rw [wrap64 (by omega) (by omega),wrap64 (by omega) (by omega)]
     exact N4 (by omega)
    all_goals simp [ha,hb,Po]
   ·simp [El,Cn,Dz,Int.neg_mul,A3h]
    unfold Po
    split<;>simp
end Xp
theorem Ya (ps:List Part) (k:Int):As (ps.map Di) k = -As ps k:=by
 unfold As
 rw [←Pp,List.map_map,List.map_map]
 congr 1
 refine List.map_congr_left fun x _=>?_
 simp only [Function.comp_apply,Di]
 split<;>omega
theorem N5 : ∀ps:List Part,Aq (ps.map Di)=Aq ps
 | []=>rfl
 | x::ps=>by
  have:=N5 ps
  unfold Aq at this ⊢
  rw [List.map_cons,List.foldr_cons,List.foldr_cons,this];rfl
theorem Ur (ps:List Part):Cc (ps.map Di)=(Cc ps).map fun q=>q.map Di:=by
 unfold Cc
 rw [N5]
 simp only [Ya,Dz]
 split
 ·simp only [Option.map_some,List.map_map]
  congr 1
  have h0:(fun k=>-As ps k != 0)=fun k=>As ps k != 0:=by
   funext k
   rw [Bool.eq_iff_iff];simp
  rw [h0]
  rfl
 ·rfl
def Sk (r:Rul):Bool:=r.stmts.all fun x=>x.kind==3&&x.ex.linE
theorem A13 (ps:List Part):((ps.map Di).map Part.amt).sum = -(ps.map Part.amt).sum:=by
 rw [←Pp,List.map_map,List.map_map];rfl
theorem Kp {s:Src} (hs : ∀x∈s.items,Ah x.amt=true) (oth to:Int) (L:List (List UInt8×Int)) : ∀(ss:List Stm) (ps:List Part),(∀x∈ss,x.ex.prop=true)→(∀x∈ss,x.kind=3∧x.ex.linE=true)→
  Ap (Cn s) oth to L ss (ps.map Di)=(Ap s oth to L ss ps).map fun q=>q.map Di
 | [],ps,_,_=>by
  rw [Ap,Ap,A13,←Ur,List.map_append];rfl
 | x::ss,ps,hp,hl=>by
  obtain⟨h3,hx⟩:=hl x (by simp)
  obtain⟨e1,e2⟩:=Xp.valE_neg hs oth (fun n=>(B7 L n).getD 0) x.ex (hp x (by simp)) hx
  have ih:=fun ps'=>Kp hs oth to L ss ps' (fun y hy=>hp y (by simp [hy])) (fun y hy=>hl y (by simp [hy]))
  rw [Ap,Ap,e1,h3]
  by_cases hv:(x.ex.valE s oth fun n=>(B7 L n).getD 0).2=true
  ·rw [if_pos hv,if_pos hv,if_neg (by decide),if_neg (by decide),if_neg (by decide),if_neg (by decide),e2 hv,←ih,List.map_append];rfl
  ·rw [if_neg hv,if_neg hv];rfl
theorem Sl {r:Rul} (hp : ∀x∈r.stmts,x.ex.prop=true) (hl:Sk r=true) {s:Src} (hs : ∀x∈s.items,Ah x.amt=true) (oth rule:Int):Bh r (Cn s) oth rule=(Bh r s oth rule).map Ie:=by
 unfold Sk at hl
 simp only [List.all_eq_true,Bool.and_eq_true,beq_iff_eq] at hl
 have:=Kp hs oth r.to [] r.stmts [] hp hl
 rw [List.map_nil] at this
 unfold Bh
 rw [this]
 cases Ap s oth r.to [] r.stmts [] with
 | none=>rfl
 | some ps=>
  simp only [Option.map_some]
  congr 1
  unfold F8 Cn Ie
  by_cases h:ps=[]
  ·subst h;rfl
  ·rw [if_neg h,if_neg (by simpa using h)]
theorem Kq : ∀l:List (Option Posting),Bi (l.map fun x=>x.map Ie)=(Bi l).map fun q=>q.map Ie
 | []=>rfl
 | none::_=>rfl
 | some p::l=>by
  rw [List.map_cons,Option.map_some,Bi,Bi,Kq l]
  cases Bi l with
  | none=>rfl
  | some q=>
   simp only [Option.map_some]
   congr 1
   by_cases h:p.parts=[]
   ·rw [if_pos h,if_pos (by unfold Ie;simp [h])]
   ·rw [if_neg h,if_neg (by unfold Ie;simpa using h)];rfl
theorem Yb (l:List Src) (pair:Bool):Em (l.map Cn) pair=(Em l pair).map fun z=>(Cn z.1,z.2):=by
 have ho : ∀s:Src,G2 (l.map Cn) pair (Cn s)=G2 l pair s:=fun s=>by
  unfold G2
  split
  ·rw [List.filter_map,List.map_map];rfl
  ·rfl
 unfold Em
 rw [List.filter_map,List.flatMap_map,List.map_flatMap]
 simp only [ho,List.map_map]
 rfl
theorem Yc {l:List Src} {pair:Bool} {z:Src×Int} (h:z∈Em l pair):z.1∈l:=by
 unfold Em at h
 obtain⟨s,hs,hz⟩:=List.mem_flatMap.1 h
 obtain⟨o,_,rfl⟩:=List.mem_map.1 hz
 exact (List.mem_filter.1 hs).1
theorem A14 {p:List Rul} {l:List Src} (hp : ∀r∈p,Sk r=true∧(∀x∈r.stmts,x.ex.prop=true)∧∀s oth rule,Bh r s oth rule=Ce (Ak r) s oth rule) (hl : ∀s∈l,∀x∈s.items,Ah x.amt=true) :
  Ff (p.map Ak) (l.map Cn)=(Ff (p.map Ak) l).map fun q=>q.map Ie:=by
 rw [Mi,Mi,←Kq]
 congr 1
 unfold Xb
 rw [List.map_map,List.map_flatMap,List.map_flatMap]
 rw [List.flatMap_def,List.flatMap_def]
 congr 1
 refine List.map_congr_left fun x hx=>?_
 rw [Yb]
 simp only [List.map_map]
 refine List.map_congr_left fun z hz=>?_
 obtain⟨r,hr,hrx⟩ : ∃r∈p,Ak r=x.1:=by
  have h0:=List.mem_zipIdx' hx
  exact List.mem_map.1 (h0.2▸List.getElem_mem h0.1)
 obtain⟨h1,h2,h3⟩:=hp r hr
 simp only [Function.comp_apply,←hrx,←h3]
 exact Sl h2 h1 (hl _ (Yc hz)) _ _
theorem Yd {l:List Src} (h : ∀s∈l,∀x∈s.items,-9223372036854775808≤x.amt∧x.amt<9223372036854775808):Dc (l.map Cn)=Dc l:=by
 unfold Dc
 rw [List.all_map,List.length_map]
 congr 1
 ·rw [Bool.eq_iff_iff,List.all_eq_true,List.all_eq_true]
  refine forall_congr' fun s=>forall_congr' fun hs=>?_
  have he:(Cn s).items.all (fun x=>Ah x.amt)=s.items.all fun x=>Ah x.amt:=by
   unfold Cn
   rw [List.all_map,Bool.eq_iff_iff,List.all_eq_true,List.all_eq_true]
   refine forall_congr' fun x=>forall_congr' fun hx=>?_
   simp only [Function.comp_apply,Sg,Y8 (h s hs x hx)]
  simp only [Function.comp_apply,he]
  rfl
 ·congr 1
  funext i
  have hg : ∀j:Nat,((l.map Cn).getD j ⟨0,false,0,0,[]⟩).ent=(l.getD j ⟨0,false,0,0,[]⟩).ent:=fun j=>by
   simp only [List.getD_eq_getElem?_getD,List.getElem?_map]
   cases l[j]?<;>rfl
  rw [hg,hg]
theorem A15 {p:List Rul} {l:List Src} (hp : ∀r∈p,Sk r=true∧(∀x∈r.stmts,x.ex.prop=true)∧∀s oth rule,Bh r s oth rule=Ce (Ak r) s oth rule) (hl : ∀s∈l,∀x∈s.items,-9223372036854775808≤x.amt∧x.amt<9223372036854775808) :
  Cx (p.map Ak) (l.map Cn)=((Cx (p.map Ak) l).1.map Ie,(Cx (p.map Ak) l).2):=by
 unfold Cx
 rw [Yd hl]
 by_cases h:Dc l=true∧((p.map Ak).all fun x=>(D7 x).2)=true
 ·rw [if_pos h,if_pos h,A14 hp fun s hs x hx=>(E2 h.1 hs).2.2 x hx]
  cases Ff (p.map Ak) l<;>rfl
 ·rw [if_neg h,if_neg h];rfl
attribute [local simp] Cv.reflU

theorem Xp.linEs_app : ∀(a b:List Xp),linEs (a++b)=(linEs a&&linEs b)
 | [],b=>rfl
 | x::a,b=>by rw [List.cons_append,linEs,linEs,linEs_app a b,Bool.and_assoc]
theorem A16 : ∀(x:Xp),x.cnt≤100000→A8 Tryz.prog 18 [x.v] (vB x.linE):=by
 refine Xp.ind fun kd vl fr to nm xs ih hcnt=>?_
 rw [Xp.cnt] at hcnt
 have hal:=Xp.cnts_len xs
 rw [Xp.v,Xp.c_mk,Xp.linE]
 by_cases h4:kd=7∨kd=8∨kd=3∨kd=5
 ·have hR:(kd==21||kd==22||((kd==7||kd==8||kd==3||kd==5)&&Xp.linEs xs))=Xp.linEs xs:=by
   rcases h4 with rfl|rfl|rfl|rfl<;>simp
  rw [hR]
  have d1:(kd==21)=false:=by simp;omega
  have d2:(kd==22)=false:=by simp;omega
  have hc4:((kd==7)=true∧True∧True∧True)∨((kd==7)=false∧(kd==8)=true∧True∧True)∨((kd==7)=false∧(kd==8)=false∧(kd==3)=true∧True)∨((kd==7)=false∧(kd==8)=false∧(kd==3)=false∧(kd==5)=true):=by
   rcases h4 with rfl|rfl|rfl|rfl<;>simp
  clear h4 hR
  rcases hc4 with ⟨d3,d4,d5,d6⟩|⟨d3,d4,d5,d6⟩|⟨d3,d4,d5,d6⟩|⟨d3,d4,d5,d6⟩
  all_goals
   (refine A8.of_code mix Tryz.call18 k_18 (by simp) (fun hB=>?_);(try simp at hB);(try simp -implicitDefEqProofs))
   (try simp -implicitDefEqProofs [d1,d2,d3,d4,d5,d6])
  all_goals
   refine A7 (X:=Nat) (fun k=>k≤xs.length∧Xp.linEs (xs.take k)=true) (fun k=>[(1,.ptr 0 0),(3,vI k)])
    (fun k=>⟨[.cells [vI kd,vI vl,vI fr,vI to,vS nm,Xp.l xs]],[]⟩) (fun k=>xs.length-k) 0 ⟨by omega,rfl⟩ (by simp) ?_
   rintro k ⟨hk,hn⟩ hbd
   clear hbd
   rcases Nat.lt_or_ge k xs.length with h|h
   ·obtain⟨x,hx⟩:=Aa h
    have hrec:=ih x (List.mem_of_getElem? hx) (by have:=Xp.cnts_mem (List.mem_of_getElem? hx);omega)
    have e3:IntKind.i64.wrap ((k:Int)+1)=(k:Int)+1:=wrap64 (by omega) (by omega)
    have hlc:=Du x
    have htc:=Cw x
    have hxc:(xs.map Xp.c)[k]?=some x.c:=by simp [hx]
    have hxc' : ∀h,(xs.map Xp.c)[k]'h=x.c:=fun h=>by rw [List.getElem?_eq_getElem h] at hxc;exact Option.some.inj hxc
    cases hb:x.linE
    ·rw [hb] at hrec
     have hf:Xp.linEs xs=false:=by
      cases hh:Xp.linEs xs
      ·rfl
      ·rw [Xp.linEs_mem hh x (List.mem_of_getElem? hx)] at hb;cases hb
     rw [hf]
     ((try simp at hrec);(try simp -implicitDefEqProofs [h,e3,hlc,htc,hxc,hxc']);repeat' first|(with_reducible apply A0<;>first|(simp only [eras,era,A1];first|with_reducible assumption)|(simp -implicitDefEqProofs [h,e3,hlc,htc,hxc,hxc'])))
    ·rw [hb] at hrec
     ((try simp at hrec);(try simp -implicitDefEqProofs [h,e3,hlc,htc,hxc,hxc']);repeat' first|(with_reducible apply A0<;>first|(simp only [eras,era,A1];first|with_reducible assumption)|(simp -implicitDefEqProofs [h,e3,hlc,htc,hxc,hxc'])))
     exact⟨k+1,⟨by omega,by rw [Ag hx,Xp.linEs_app,hn,Xp.linEs,hb];rfl⟩,by omega,by push_cast;rfl⟩
   ·have:k=xs.length:=by omega
    subst this
    rw [List.take_of_length_le (Nat.le_refl _)] at hn
    rw [hn]
    (try simp -implicitDefEqProofs)
 by_cases h2:kd=21∨kd=22
 ·have hR:(kd==21||kd==22||((kd==7||kd==8||kd==3||kd==5)&&Xp.linEs xs))=true:=by
   rcases h2 with rfl|rfl<;>simp
  rw [hR]
  rcases h2 with rfl|rfl
  all_goals
   (refine A8.of_code mix Tryz.call18 k_18 (by simp) (fun hB=>?_);(try simp at hB);(try simp -implicitDefEqProofs))
   (try simp -implicitDefEqProofs)
 have hR:(kd==21||kd==22||((kd==7||kd==8||kd==3||kd==5)&&Xp.linEs xs))=false:=by
  simp at h4 h2 ⊢;omega
 rw [hR]
 have d1:(kd==21)=false:=by simp;omega
 have d2:(kd==22)=false:=by simp;omega
 have d3:(kd==7)=false:=by simp;omega
 have d4:(kd==8)=false:=by simp;omega
 have d5:(kd==3)=false:=by simp;omega
 have d6:(kd==5)=false:=by simp;omega
 (refine A8.of_code mix Tryz.call18 k_18 (by simp) (fun hB=>?_);(try simp at hB);(try simp -implicitDefEqProofs))
 (try simp -implicitDefEqProofs [d1,d2,d3,d4,d5,d6])
theorem Ig : ∀{o:List Posting} {ks:List Nat} {i:Nat} {p:Posting} {k:Nat},o[i]?=some p→ks[i]?=some k→∀j,j<5→(Ay o ks)[i*5+j]?=[vI p.kind,vI p.ent,vI p.oth,vI p.rule,.bw k p.parts.length][j]?
 | q::o,b::ks,0,p,k,h1,h2,j,hj=>by
  cases h1;cases h2
  rw [Ay,Nat.zero_mul,Nat.zero_add,List.getElem?_append_left (by simpa using hj)]
 | q::o,b::ks,i+1,p,k,h1,h2,j,hj=>by
  have ih:=Ig (o:=o) (ks:=ks) (i:=i) (p:=p) (k:=k) (by simpa using h1) (by simpa using h2) j hj
  rw [Ay,List.getElem?_append_right (by simp;omega),←ih]
  congr 1;simp;omega
theorem Of {ps:List Part} {m:Nat} {x:Part} (hx:ps[m]?=some x):((ps.flatMap Part.c).map V.t)[m*2]?=some (vI x.acc)∧((ps.flatMap Part.c).map V.t)[m*2+1]?=some (vI x.amt):=by
 have h0:=fm_row (c:=Part.c) (z:=2) (fun _=>rfl) ps m x hx 0 (by omega)
 have h1:=fm_row (c:=Part.c) (z:=2) (fun _=>rfl) ps m x hx 1 (by omega)
 rw [Nat.add_zero] at h0
 rw [List.getElem?_map,List.getElem?_map,h0,h1]
 exact⟨rfl,rfl⟩
theorem A3i {w:List Posting} {ks:List Nat} {B:List Bx} {kb:Nat} (hU:OkU B) (hb:B[kb]?=some (.buf 75 5 (Ay w ks))) (hp:PartsN w ks B) (hpl : ∀p∈w,p.parts.length≤1000000) :
  FnS Tryz.prog 17 [Posting.l w,.bw kb w.length] ⟨B,[]⟩ (vB true) ⟨B,[]⟩:=by
 have hkb:=A4 hb
 have hB0:=hU B.length 0 (Nat.le_refl _)
 have hcl:=Ga hp.len
 (refine FnS.of_code mix Tryz.call17 k_17 (by simp) (fun hB=>?_);(try simp at hB);(try simp -implicitDefEqProofs))
 (try simp -implicitDefEqProofs)
 refine A7 (X:=Nat) (fun j=>j≤w.length) (fun j=>[(0,Posting.l w),(1,.bw kb w.length),(5,vI j)]) (fun _=>⟨B,[]⟩) (fun j=>w.length-j) 0 (by omega) ?hs ?_
 case hs=>simp [okN,hB0,hkb]
 rintro j hj hbd
 have hw:w.length≤maxLen:=by simpa using hbd 0 (w.map Posting.c) rfl
 unfold maxLen at hw
 clear hbd
 rcases Nat.lt_or_ge j w.length with h|h
 ·have e3:IntKind.i64.wrap ((j:Int)+1)=(j:Int)+1:=wrap64 (by omega) (by omega)
  obtain⟨p,hx⟩:=Aa h
  obtain⟨k,hk⟩:=Aa (show j<ks.length by rw [hp.len];exact h)
  have hg:=Ig hx hk
  have hpb:=hp.box j p k hx hk
  have hpn:=hpl p (List.mem_of_getElem? hx)
  have hxc:(w.map Posting.c)[j]?=some p.c:=by simp [hx]
  have hxc' : ∀h,(w.map Posting.c)[j]'h=p.c:=fun h=>by rw [List.getElem?_eq_getElem h] at hxc;exact Option.some.inj hxc
  obtain⟨kd,en,ot,ru,ps⟩:=p
  simp only [] at hpn hg hpb
  have c0:=hg 0 (by omega)
  have c1:=hg 1 (by omega)
  have c2:=hg 2 (by omega)
  have c3:=hg 3 (by omega)
  have c4:=hg 4 (by omega)
  simp only [List.getElem?_cons_zero,List.getElem?_cons_succ,Nat.add_zero] at c0 c1 c2 c3 c4
  have l1:j*5+1≤(Ay w ks).length:=by omega
  have l2:j*5+1+1≤(Ay w ks).length:=by omega
  have l3:j*5+2+1≤(Ay w ks).length:=by omega
  have l4:j*5+3+1≤(Ay w ks).length:=by omega
  have l5:j*5+4+1≤(Ay w ks).length:=by omega
  generalize Ay w ks=CS at *
  (try simp -implicitDefEqProofs [h,hxc,hxc',Posting.c,hb,c0,c1,c2,c3,c4,l1,l2,l3,l4,l5])
  refine A7 (X:=Nat) (fun m=>m≤ps.length) (fun m=>[(0,Posting.l w),(1,.bw kb w.length),(5,vI j),(6,vI m)]) (fun _=>⟨B,[]⟩) (fun m=>ps.length-m) 0 (by omega) (by simp [okN,hB0,hkb]) ?_
  rintro m hm hbd
  clear hbd
  have e4:IntKind.i64.wrap ((m:Int)+1)=(m:Int)+1:=wrap64 (by omega) (by omega)
  rcases Nat.lt_or_ge m ps.length with g|g
  ·obtain⟨x,hx2⟩:=Aa g
   have q0:=Of hx2
   have hql:=H2 ps
   have hyc:(ps.map Part.c)[m]?=some x.c:=by simp [hx2]
   have hyc' : ∀h,(ps.map Part.c)[m]'h=x.c:=fun h=>by rw [List.getElem?_eq_getElem h] at hyc;exact Option.some.inj hyc
   obtain⟨ac,am⟩:=x
   unfold Gg at hpb
   have hql2:((ps.flatMap Part.c).map V.t).length=ps.length*2:=by rw [List.length_map,hql]
   generalize (ps.flatMap Part.c).map V.t=PS at *
   have hdr:(PS.drop (m*2)).take 2=[vI ac,vI am]:=by
    have h0:m*2<PS.length:=by omega
    have h1:m*2+1<PS.length:=by omega
    rw [List.drop_eq_getElem_cons h0,List.drop_eq_getElem_cons h1]
    obtain⟨q0,q1⟩:=q0
    rw [List.getElem?_eq_getElem h0] at q0
    rw [List.getElem?_eq_getElem h1] at q1
    simp [Option.some.inj q0,Option.some.inj q1]
   have m1:m*2+2≤PS.length:=by omega
   (try simp -implicitDefEqProofs [h,hxc,hxc',Posting.c,hb,c0,c1,c2,c3,c4,l1,l2,l3,l4,l5,g,hyc,hyc',Part.c,hpb,hdr,m1,e4,hB0,q0])
   exact⟨m+1,by omega,by omega,hkb,by push_cast;rfl⟩
  ·have:m=ps.length:=by omega
   subst this
   (try simp -implicitDefEqProofs [h,hxc,hxc',Posting.c,hb,c0,c1,c2,c3,c4,l1,l2,l3,l4,l5,e3,hB0])
   exact⟨j+1,by omega,by omega,hkb,by push_cast;rfl⟩
 ·have:j=w.length:=by omega
  subst this
  (try simp -implicitDefEqProofs [hB0])
theorem Sn {it:List Item} : ∀{L:List Src} {i:Nat} {s:Src},L[i]?=some s→(L.set i { s with items:=it }).flatMap Src.c=(L.flatMap Src.c).take (i*7+6)++T.sl (it.map Item.c)::(L.flatMap Src.c).drop (i*7+6+1)
 | y::L,0,s,h=>by
  cases h
  simp only [List.set_cons_zero,List.flatMap_cons]
  rw [List.take_append_of_le_length (by simp [Src.c,rC]),Nat.zero_mul,List.drop_left' (show y.c.length=0+6+1 from rfl)]
  rfl
 | y::L,i+1,s,h=>by
  have ih:=Sn (it:=it) (L:=L) (i:=i) (s:=s) (by simpa using h)
  simp only [List.set_cons_succ,List.flatMap_cons]
  rw [ih,show (i+1)*7+6=y.c.length+(i*7+6) by rw [show y.c.length=7 from rfl];omega,List.take_length_add_append,Nat.add_assoc y.c.length,List.drop_length_add_append,List.append_assoc]
end Go.Proofs.YtmlpmdccfmmpoaaGreatDoor
