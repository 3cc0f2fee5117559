/- Readings of the arguments of the laws of chapter 35. -/
import Derived.Test.YtmlpmdccfmmpoaaGreatTree
import Derived.Test.YtmlpmdccfmmpoaaGreatSlices
import Derived.Test.YtmlpmdccfmmpoaaGreatRows
import Derived.ProofKit
import Derived.Carry
import Derived.Test.YtmlpmdccfmmpoaaGreatLea
section
set_option linter.unusedSimpArgs false
set_option linter.unusedVariables false
namespace Go.Proofs.YtmlpmdccfmmpoaaGreat
open Go.ChangeShapes Go.WideShapes Go.ChangeAt Go.RowKit E

theorem pure_ends {P:Program} {f:Nat} {vs:List V} {b:Bool} (h:Pure P f vs (.t (.bool b))) (g:Gh) (w:World) (hI0:Inv g St0 w) (hb:g.base=w.heap.size) (he:g.ent=[])
  (us:Array Value) (hs:us.size=vs.length) (hr : ∀j,j<vs.length→RelV g [] (vs.getD j .und) (us.getD j undef)) :
  Calls P f us w fun e w'=>e=.returned (.bool b)∧Below w.heap.size w w':=by
 refine (h.2 _ w us hI0 hs hr).mono fun e w' he'=>?_
 obtain⟨u,g',rfl,hr,hm⟩:=he'
 refine⟨?_,hm.frm.os,hm.frm.tape,hm.frm.output,hm.frm.size,fun k hk=>hm.frm.block k (by omega) (by simp [he])⟩
 cases hr with
 | t x v h=>cases h; rfl

theorem trodAll_below {H:Type} {enc:TypeId×Value→H} {P:Program} (hl:laidOutB P=true) {W W':World} (hb:Below W.heap.size W W') : ∀{ts:List TypeId} {vs:List Value} {ds:List (DataW H)} {ps:List MemPlace},
  (∀t∈ts,P.readableRec t=true∧t<P.types.size)→(∀x∈ps,x.block<W.heap.size)→DataW.TrodAll enc P W 0 (fun _=>true) true ts vs ds ps→
  DataW.TrodAll enc P W' 0 (fun b=>decide (b<W.heap.size)) true ts vs ds ps
 | [],[],[],_,_,_,h=>h
 | t::ts,v::vs,d::ds,ps,ho,hp,⟨p,q,h1,h2,e⟩=>by
  subst e
  exact⟨p,q,Below.trod hl (ho t (by simp)).1 (ho t (by simp)).2 h1 hb (fun x hx=>hp x (List.mem_append_left _ hx)),
   trodAll_below hl hb (fun t ht=>ho t (by simp [ht])) (fun x hx=>hp x (List.mem_append_right _ hx)) h2,rfl⟩

theorem trodAll_len {H:Type} {enc:TypeId×Value→H} {P:Program} {w:World} {base:Nat} {sp:Nat→Bool} {hd:Bool} : ∀{ts:List TypeId} {vs:List Value} {ds:List (DataW H)} {ps:List MemPlace},DataW.TrodAll enc P w base sp hd ts vs ds ps→ds.length=ts.length
 | [],[],[],_,_=>rfl
 | t::ts,v::vs,d::ds,_,⟨_,_,_,h,_⟩=>by simp [trodAll_len h]
theorem arr_getD (a:Array Value) (j:Nat) (d:Value):a.toList.getD j d=a.getD j d:=by simp [List.getD_eq_getElem?_getD,Array.getD_eq_getD_getElem?]
set_option maxRecDepth 100000 in
theorem Tryz.own:ownKnob Tryz.prog.godebug=none:=by kernel_rfl
set_option maxRecDepth 100000 in
theorem Tryz.laidOut:laidOutB Tryz.prog=true:=by kernel_rfl

set_option maxRecDepth 100000 in
theorem lifted_of {os:Os} (started:os.Started) {H:Type} {enc:TypeId×Value→H} {f:FuncId} {fn:Func} {s:ChangeSpec} (conds:List PathCond) (noInit:Tryz.prog.inits.idxOf? f=none) (hfn:Tryz.prog.funcs[f]?=some fn)
  (witness : ∃(w:World) (tape:Tape) (i:Input),w.os=os∧(w.forCall tape i).Shaped Tryz.prog∧i.vars=[]∧Input.okWide Tryz.prog (w.forCall tape i) .any w.heap.size f i∧
   s.pre6 enc Tryz.prog fn conds false (w.forCall tape i).memory i.args∧({} : Assume).holds Tryz.prog (lone (Frame.enter Tryz.prog f i.args .normal) [] (w.forCall tape i)))
  (hvars:s.vars=[]) (hargs : ∀ds:List (DataW H),ds.length=fn.params.size→(s.fn H ds).args=ds∧(s.fn H ds).vars=[]∧(s.fn H ds).results=[.lit (.bool true)]) (tb:TypeId) (hrt:fn.resultTypes = #[tb]) (htb:Tryz.prog.underlying tb=some .bool)
  (l:List TypeId) (hC:okC Tryz.prog l=true) (hok:(fn.params.toList.all fun t=>l.contains t)=true) (hrd:(fn.params.toList.all fun t=>Tryz.prog.readableRec t&&decide (t<Tryz.prog.types.size))=true)
  (h : ∀xs,ShA Tryz.prog fn.params.toList xs→Pure Tryz.prog f (argVs Tryz.prog fn.params.toList xs) (.t (.bool true))) :
  ReturnsInHanded {} Tryz.checked os f .any (s.pre6 enc Tryz.prog fn conds false) (s.post enc Tryz.prog fn false true false false):=by
 refine returnsInHanded_of_change (C:=Tryz.checked) Tryz.own started noInit hfn witness ?_
 intro W base args ds gs before hval0 hW hcnd _
 have hval : ∀(j:Nat) t v,fn.params[j]?=some t→args[j]?=some v→Value.okWide Tryz.prog W .any base t v:=hval0
 have hW':=hW
 obtain⟨p,q,hA0,hV,rfl,hfz,hnd⟩:=hW
 have hA:DataW.TrodAll enc Tryz.prog W 0 (fun _=>true) true fn.params.toList args.toList ds p:=hA0
 rw [hvars] at hV
 obtain⟨rfl,rfl⟩:=trodVars_none hV
 simp only [List.append_nil] at hW'
 rw [List.all_eq_true] at hok hrd
 let g:Gh:=⟨Ic W,[],[],W.heap.size,[],fun _=>0⟩
 have hI0:Inv g St0 W:=
  ⟨fun b o c h=>h,rfl,fun i j blk hi=>by simp [g] at hi,fun i blk bx hi=>by simp [g] at hi,fun i blk bx hi=>by simp [g] at hi,fun i blk hi=>by simp [g] at hi,rfl,fun k n blk e z cap hk=>by simp [g] at hk,fun k n hk=>by simp [g] at hk,fun k l x y hk=>by simp [g] at hk,
   Nat.le_refl _,fun i blk hi=>by simp [g] at hi,fun b o c h=>by simp [laidC,laidL] at h,fun b c h=>by simp [laidC,laidL] at h⟩
 obtain⟨xs,hsh,hl,hrel⟩:=args_of hC g rfl hok (fun j t v a b=>hval j t v (Array.getElem?_toList.symm.trans a) (Array.getElem?_toList.symm.trans b)) hA
 refine (pure_ends (h xs hsh) g W hI0 rfl rfl args ((Array.length_toList (xs:=args)).symm.trans hl) (fun j hj=>by rw [←arr_getD]; exact hrel j hj)).mono fun e W' ⟨he,hB⟩=>?_
 subst he
 have hdl:=trodAll_len hA
 obtain⟨hf1,hf2,hf3⟩:=hargs (ds++[]) (by simpa using hdl)
 rw [List.append_nil] at hf1 hf2 hf3
 refine⟨_,rfl,ds,[],p,[],p,[],hW',?_,?_,?_,hB.frame _,fun h=>by cases h⟩
 ·rw [List.append_nil,hf3,hrt]
  exact trodAll_mk1 (shut_bool htb true)
 ·rw [List.append_nil,hf1]
  exact trodAll_below Tryz.laidOut hB (fun t ht=>by have:=hrd t ht; simpa using this) (fun x hx=>hW'.lt x hx) hA
 ·rw [List.append_nil,hf2,hvars]
  rfl
end Go.Proofs.YtmlpmdccfmmpoaaGreat
end
section
set_option linter.unusedSimpArgs false
set_option linter.unusedVariables false
set_option maxRecDepth 8000
namespace Go.Proofs.YtmlpmdccfmmpoaaGreat
open Go.ChangeShapes Go.WideShapes Go.ChangeAt Go.RowKit E
def inI (x:Int):Prop:=-9223372036854775808≤x∧x≤9223372036854775807
def inS (s:List UInt8):Prop:=s.length≤9223372036854775807
theorem sh_i {n:Nat} {ts:List T} (h:Sh Tryz.prog n 3 ts) : ∃x,ts=[.int .i64 x]∧inI x:=by
 cases n with
 | zero=>exact h.elim
 | succ n=>
  simp only [Sh,Tryz.underlying3] at h
  obtain⟨x,rfl,hw⟩:=h
  refine⟨x,rfl,?_⟩
  simp [Lit.wf,IntKind.min,IntKind.max,IntKind.signed,IntKind.bits] at hw
  simp [inI]; omega
theorem sh_s {n:Nat} {ts:List T} (h:Sh Tryz.prog n 9 ts) : ∃s,ts=[.str s]∧inS s:=by
 cases n with
 | zero=>exact h.elim
 | succ n=>
  simp only [Sh,Tryz.underlying9] at h
  obtain⟨s,rfl,hw⟩:=h
  exact⟨s,rfl,by simpa [inS,maxLen] using hw⟩
theorem sh_b {n:Nat} {ts:List T} (h:Sh Tryz.prog n 4 ts) : ∃b,ts=[.bool b]:=by
 cases n with
 | zero=>exact h.elim
 | succ n=>
  simp only [Sh,Tryz.underlying4] at h
  exact h
theorem sh_l {α:Type} {n:Nat} {t e:TypeId} {ts:List T} (hu:Tryz.prog.underlying t=some (.slice e)) (c:α→List T) (wf:α→Prop) (he : ∀n ts,Sh Tryz.prog n e ts→∃x,ts=c x∧wf x) (hk:Tryz.prog.cellsOf t=1) (h:Sh Tryz.prog n t (ts.take (Tryz.prog.cellsOf t))) : ∃l:List α,ts.take 1=[.sl (l.map c)]∧∀x∈l,wf x:=by
 rw [hk] at h
 cases n with
 | zero=>exact h.elim
 | succ n=>
  simp only [Sh,hu] at h
  obtain⟨es,hts,hes⟩:=h
  rw [hts]
  clear hts
  suffices hs : ∃l:List α,es=l.map c∧∀x∈l,wf x by obtain⟨l,rfl,hl⟩:=hs; exact⟨l,rfl,hl⟩
  induction es with
  | nil=>exact⟨[],rfl,by simp⟩
  | cons r es ih=>
   obtain⟨x,rfl,hx⟩:=he n r (hes r (by simp))
   obtain⟨l,rfl,hl⟩:=ih (fun r hr=>hes r (by simp [hr]))
   exact⟨x::l,rfl,by simp; exact⟨hx,hl⟩⟩
theorem sh_Ins {n:Nat} {ts:List T} (h:Sh Tryz.prog n 102 ts) : ∃x:Ins,ts=x.c∧True:=by
 cases n with
 | zero=>exact h.elim
 | succ n=>
  have hc:Tryz.prog.cellsOf 102=3:=by kernel_rfl
  simp only [Sh,Tryz.underlying102,hc,List.forall_mem_cons,List.not_mem_nil,false_imp_iff,implies_true,and_true] at h
  obtain⟨hl,h0,h1,h2⟩:=h
  obtain⟨c0,c1,c2,rfl⟩ : ∃c0 c1 c2,ts=[c0,c1,c2]:=by
   match ts,hl with
   | [c0,c1,c2],_=>exact⟨_,_,_,rfl⟩
  rw [show Tryz.prog.cellsOf 3=1 by kernel_rfl] at h0 h1 h2
  obtain⟨x0,e0,w0⟩:=sh_i h0
  obtain⟨x1,e1,w1⟩:=sh_i h1
  obtain⟨x2,e2,w2⟩:=sh_i h2
  refine⟨⟨x0,x1,x2⟩,?_,trivial⟩
  simp at e0 e1 e2
  simp [*]
theorem sh_Code {n:Nat} {ts:List T} (h:Sh Tryz.prog n 48 ts) : ∃x:Code,ts=x.c:=by
 cases n with
 | zero=>exact h.elim
 | succ n=>
  have hc:Tryz.prog.cellsOf 48=3:=by kernel_rfl
  simp only [Sh,Tryz.underlying48,hc,List.forall_mem_cons,List.not_mem_nil,false_imp_iff,implies_true,and_true] at h
  obtain⟨hl,h0,h1,h2⟩:=h
  obtain⟨c0,c1,c2,rfl⟩ : ∃c0 c1 c2,ts=[c0,c1,c2]:=by
   match ts,hl with
   | [c0,c1,c2],_=>exact⟨_,_,_,rfl⟩
  rw [show Tryz.prog.cellsOf 9=1 by kernel_rfl] at h0
  rw [show Tryz.prog.cellsOf 4=1 by kernel_rfl] at h1
  obtain⟨x0,e0,w0⟩:=sh_s h0
  obtain⟨x1,e1⟩:=sh_b h1
  obtain⟨x2,e2,w2⟩:=sh_l (by kernel_rfl) Ins.c (fun _=>True) (fun n ts h=>sh_Ins h) (by kernel_rfl) h2
  refine⟨⟨x0,x1,x2⟩,?_⟩
  simp at e0 e1 e2
  simp [*]
theorem sh_Ref {n:Nat} {ts:List T} (h:Sh Tryz.prog n 60 ts) : ∃x y,ts=[.int .i64 x,.int .i64 y]:=by
 cases n with
 | zero=>exact h.elim
 | succ n=>
  have hc:Tryz.prog.cellsOf 60=2:=by kernel_rfl
  simp only [Sh,Tryz.underlying60,hc,List.forall_mem_cons,List.not_mem_nil,false_imp_iff,implies_true,and_true] at h
  obtain⟨hl,h0,h1⟩:=h
  obtain⟨c0,c1,rfl⟩ : ∃c0 c1,ts=[c0,c1]:=by
   match ts,hl with
   | [c0,c1],_=>exact⟨_,_,rfl⟩
  rw [show Tryz.prog.cellsOf 3=1 by kernel_rfl] at h0 h1
  obtain⟨x0,e0,w0⟩:=sh_i h0
  obtain⟨x1,e1,w1⟩:=sh_i h1
  refine⟨x0,x1,?_⟩
  simp at e0 e1
  simp [*]
theorem sh_Item {n:Nat} {ts:List T} (h:Sh Tryz.prog n 62 ts) : ∃x:Item,ts=x.c∧True:=by
 cases n with
 | zero=>exact h.elim
 | succ n=>
  have hc:Tryz.prog.cellsOf 62=7:=by kernel_rfl
  simp only [Sh,Tryz.underlying62,hc,List.forall_mem_cons,List.not_mem_nil,false_imp_iff,implies_true,and_true] at h
  obtain⟨hl,h0,h1,h2,h3,h4,h5⟩:=h
  obtain⟨c0,c1,c2,c3,c4,c5,c6,rfl⟩ : ∃c0 c1 c2 c3 c4 c5 c6,ts=[c0,c1,c2,c3,c4,c5,c6]:=by
   match ts,hl with
   | [c0,c1,c2,c3,c4,c5,c6],_=>exact⟨_,_,_,_,_,_,_,rfl⟩
  rw [show Tryz.prog.cellsOf 60=2 by kernel_rfl] at h0
  obtain⟨x0,y0,e0⟩:=sh_Ref h0
  rw [show Tryz.prog.cellsOf 3=1 by kernel_rfl] at h1
  obtain⟨x1,e1,w1⟩:=sh_i h1
  rw [show Tryz.prog.cellsOf 3=1 by kernel_rfl] at h2
  obtain⟨x2,e2,w2⟩:=sh_i h2
  rw [show Tryz.prog.cellsOf 3=1 by kernel_rfl] at h3
  obtain⟨x3,e3,w3⟩:=sh_i h3
  rw [show Tryz.prog.cellsOf 3=1 by kernel_rfl] at h4
  obtain⟨x4,e4,w4⟩:=sh_i h4
  rw [show Tryz.prog.cellsOf 3=1 by kernel_rfl] at h5
  obtain⟨x5,e5,w5⟩:=sh_i h5
  refine⟨⟨x0,y0,x1,x2,x3,x4,x5⟩,?_,trivial⟩
  simp at e0 e1 e2 e3 e4 e5
  simp [*]
theorem sh_i16 {n:Nat} {ts:List T} (h:Sh Tryz.prog n 78 ts) : ∃x:Int,ts=[.int .i16 x]∧-32768≤x∧x≤32767:=by
 cases n with
 | zero=>exact h.elim
 | succ n=>
  simp only [Sh,Tryz.underlying78] at h
  obtain⟨x,rfl,hw⟩:=h
  refine⟨x,rfl,?_⟩
  simp [Lit.wf,IntKind.min,IntKind.max,IntKind.signed,IntKind.bits] at hw
  omega
theorem sh_Sou {n:Nat} {ts:List T} (h:Sh Tryz.prog n 80 ts) : ∃x:Sou,ts=x.c∧x.wf:=by
 cases n with
 | zero=>exact h.elim
 | succ n=>
  have hc:Tryz.prog.cellsOf 80=4:=by kernel_rfl
  simp only [Sh,Tryz.underlying80,hc,List.forall_mem_cons,List.not_mem_nil,false_imp_iff,implies_true,and_true] at h
  obtain⟨hl,h0,h1,h2,h3⟩:=h
  obtain⟨c0,c1,c2,c3,rfl⟩ : ∃c0 c1 c2 c3,ts=[c0,c1,c2,c3]:=by
   match ts,hl with
   | [c0,c1,c2,c3],_=>exact⟨_,_,_,_,rfl⟩
  rw [show Tryz.prog.cellsOf 3=1 by kernel_rfl] at h0
  rw [show Tryz.prog.cellsOf 4=1 by kernel_rfl] at h1
  rw [show Tryz.prog.cellsOf 78=1 by kernel_rfl] at h2
  obtain⟨x0,e0,w0⟩:=sh_i h0
  obtain⟨x1,e1⟩:=sh_b h1
  obtain⟨x2,e2,w2⟩:=sh_i16 h2
  obtain⟨x3,e3,w3⟩:=sh_l (by kernel_rfl) Item.c (fun _=>True) (fun n ts h=>sh_Item h) (by kernel_rfl) h3
  refine⟨⟨x0,x1,x2,x3⟩,?_,w2⟩
  simp at e0 e1 e2 e3
  simp [*,Sou.c]
theorem sh_Inst {n:Nat} {ts:List T} (h:Sh Tryz.prog n 65 ts) : ∃x y z,ts=[.int .i64 x,.int .i64 y,.int .i64 z]∧inI x∧inI y∧inI z:=by
 cases n with
 | zero=>exact h.elim
 | succ n=>
  have hc:Tryz.prog.cellsOf 65=3:=by kernel_rfl
  simp only [Sh,Tryz.underlying65,hc,List.forall_mem_cons,List.not_mem_nil,false_imp_iff,implies_true,and_true] at h
  obtain⟨hl,h0,h1,h2⟩:=h
  obtain⟨c0,c1,c2,rfl⟩ : ∃c0 c1 c2,ts=[c0,c1,c2]:=by
   match ts,hl with
   | [c0,c1,c2],_=>exact⟨_,_,_,rfl⟩
  rw [show Tryz.prog.cellsOf 3=1 by kernel_rfl] at h0 h1 h2
  obtain⟨x0,e0,w0⟩:=sh_i h0
  obtain⟨x1,e1,w1⟩:=sh_i h1
  obtain⟨x2,e2,w2⟩:=sh_i h2
  refine⟨x0,x1,x2,?_,w0,w1,w2⟩
  simp at e0 e1 e2
  simp [*]
theorem argV_at {t:TypeId} {ts:List T} {x:T} (h:isAgg Tryz.prog t=false) (hx:ts=[x]):argV Tryz.prog t ts=.t x:=by
 rw [argV,h,hx]; rfl
theorem argV_agg {t:TypeId} {ts:List T} (h:isAgg Tryz.prog t=true):argV Tryz.prog t ts=.agg (ts.map .t):=by
 rw [argV,h]; rfl
theorem sh_all {α:Type} {n:Nat} {t e:TypeId} {ts:List T} (hu:Tryz.prog.underlying t=some (.slice e)) (c:α→List T) (wf:α→Prop) (he : ∀n ts,Sh Tryz.prog n e ts→∃x,ts=c x∧wf x) (h:Sh Tryz.prog n t ts) : ∃l:List α,ts=[.sl (l.map c)]∧∀x∈l,wf x:=by
 cases n with
 | zero=>exact h.elim
 | succ n=>
  simp only [Sh,hu] at h
  obtain⟨es,hts,hes⟩:=h
  rw [hts]
  clear hts
  suffices hs : ∃l:List α,es=l.map c∧∀x∈l,wf x by obtain⟨l,rfl,hl⟩:=hs; exact⟨l,rfl,hl⟩
  induction es with
  | nil=>exact⟨[],rfl,by simp⟩
  | cons r es ih=>
   obtain⟨x,rfl,hx⟩:=he n r (hes r (by simp))
   obtain⟨l,rfl,hl⟩:=ih (fun r hr=>hes r (by simp [hr]))
   exact⟨x::l,rfl,by simp; exact⟨hx,hl⟩⟩
theorem arg_Codes {ts:List T} (h : ∃n,Sh Tryz.prog n 22 ts) : ∃l:List Code,argV Tryz.prog 22 ts=Code.l l:=by
 obtain⟨n,h⟩:=h
 obtain⟨l,e,_⟩:=sh_all (by kernel_rfl) Code.c (fun _=>True) (fun n ts h=>by obtain⟨x,e⟩:=sh_Code h; exact⟨x,e,trivial⟩) h
 exact⟨l,argV_at (by kernel_rfl) e⟩
theorem arg_Sous {ts:List T} (h : ∃n,Sh Tryz.prog n 23 ts) : ∃l:List Sou,argV Tryz.prog 23 ts=Sou.l l∧∀x∈l,x.wf:=by
 obtain⟨n,h⟩:=h
 obtain⟨l,e,w⟩:=sh_all (by kernel_rfl) Sou.c Sou.wf (fun n ts h=>sh_Sou h) h
 exact⟨l,argV_at (by kernel_rfl) e,w⟩
theorem arg_Code {ts:List T} (h : ∃n,Sh Tryz.prog n 48 ts) : ∃c:Code,argV Tryz.prog 48 ts=c.v:=by
 obtain⟨n,h⟩:=h
 obtain⟨c,rfl⟩:=sh_Code h
 exact⟨c,argV_agg (by kernel_rfl)⟩
theorem arg_Inst {ts:List T} (h : ∃n,Sh Tryz.prog n 65 ts) : ∃x y z,argV Tryz.prog 65 ts=.agg [vI x,vI y,vI z]∧inI x∧inI y∧inI z:=by
 obtain⟨n,h⟩:=h
 obtain⟨x,y,z,rfl,w⟩:=sh_Inst h
 exact⟨x,y,z,argV_agg (by kernel_rfl),w⟩
def types35:List TypeId:=[22,48,46,102,23,80,51,62,60,65,50,3,78,5,9,4]
theorem types35_ok:okC Tryz.prog types35=true:=by kernel_rfl
end Go.Proofs.YtmlpmdccfmmpoaaGreat
end
