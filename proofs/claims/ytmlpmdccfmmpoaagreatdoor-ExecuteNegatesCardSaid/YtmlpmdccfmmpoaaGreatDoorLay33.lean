/- The laid variables of chapter 33's rows. -/
import Derived.Test.YtmlpmdccfmmpoaaGreatDoorCodeM
import Derived.Test.YtmlpmdccfmmpoaaGreatDoorRows
import Derived.Test.YtmlpmdccfmmpoaaGreatDoorTie
import Derived.ProofKit
import Derived.Carry
import Derived.LaidMore
import Derived.OpenShut
import Derived.Stop.Joined
import Derived.Test.YtmlpmdccfmmpoaaGreatDoorApi
set_option linter.unusedSimpArgs false
set_option linter.unusedVariables false
section
set_option linter.unusedSimpArgs false
set_option linter.unusedVariables false
namespace Go.Proofs.YtmlpmdccfmmpoaaGreatDoor
open Go.ChangeShapes Go.WideShapes Go.ChangeAt Go.RowKit E

theorem Yf {P:Program} {f:Nat} {vs:List V} {b:Bool} (h:A8 P f vs (.t (.bool b))) (g:Gh) (w:World) (hI0:Inv g St0 w) (hb:g.base=w.heap.size) (he:g.ent=[])
  (us:Array Value) (hs:us.size=vs.length) (hr : ∀j,j<vs.length→RelV g [] (vs.getD j .und) (us.getD j undef)) :
  Calls P f us w fun e w'=>e=.returned (.bool b)∧Below w.heap.size w w':=by
 refine (h.2 _ w us hI0 hs hr).mono fun e w' he'=>?_
 obtain⟨u,g',rfl,hr,hm⟩:=he'
 refine⟨?_,hm.frm.os,hm.frm.tape,hm.frm.output,hm.frm.size,fun k hk=>hm.frm.block k (by omega) (by simp [he])⟩
 cases hr with
 | t x v h=>cases h;rfl

theorem Hs {H:Type} {enc:TypeId×Value→H} {P:Program} (hl:laidOutB P=true) {W W':World} (hb:Below W.heap.size W W') : ∀{ts:List TypeId} {vs:List Value} {ds:List (DataW H)} {ps:List MemPlace},
  (∀t∈ts,P.readableRec t=true∧t<P.types.size)→(∀x∈ps,x.block<W.heap.size)→DataW.TrodAll enc P W 0 (fun _=>true) true ts vs ds ps→
  DataW.TrodAll enc P W' 0 (fun b=>decide (b<W.heap.size)) true ts vs ds ps
 | [],[],[],_,_,_,h=>h
 | t::ts,v::vs,d::ds,ps,ho,hp,⟨p,q,h1,h2,e⟩=>by
  subst e
  exact⟨p,q,Below.trod hl (ho t (by simp)).1 (ho t (by simp)).2 h1 hb (fun x hx=>hp x (List.mem_append_left _ hx)),
   Hs hl hb (fun t ht=>ho t (by simp [ht])) (fun x hx=>hp x (List.mem_append_right _ hx)) h2,rfl⟩

theorem Kr {H:Type} {enc:TypeId×Value→H} {P:Program} {w:World} {base:Nat} {sp:Nat→Bool} {hd:Bool} : ∀{ts:List TypeId} {vs:List Value} {ds:List (DataW H)} {ps:List MemPlace},DataW.TrodAll enc P w base sp hd ts vs ds ps→ds.length=ts.length
 | [],[],[],_,_=>rfl
 | t::ts,v::vs,d::ds,_,⟨_,_,_,h,_⟩=>by simp [Kr h]
theorem A1b (a:Array Value) (j:Nat) (d:Value):a.toList.getD j d=a.getD j d:=by simp [List.getD_eq_getElem?_getD,Array.getD_eq_getD_getElem?]
set_option maxRecDepth 100000 in
theorem Tryz.own:ownKnob Tryz.prog.godebug=none:=by kernel_rfl
set_option maxRecDepth 100000 in
theorem Tryz.laidOut:laidOutB Tryz.prog=true:=by kernel_rfl

end Go.Proofs.YtmlpmdccfmmpoaaGreatDoor
end
section
set_option linter.unusedSimpArgs false
set_option linter.unusedVariables false
namespace Go.Proofs.YtmlpmdccfmmpoaaGreatDoor
open Go.ChangeShapes Go.WideShapes Go.ChangeAt Go.RowKit E

set_option maxRecDepth 100000 in
theorem So {os:Os} (started:os.Started) {H:Type} {enc:TypeId×Value→H} {f:FuncId} {fn:Func} {s:ChangeSpec} (lay:List (String×DataW Unit)) (lay_of : ∀{W:World},laidMetH Tryz.prog lay W→(∀(b o:Nat) (c:Value),Gj b o=some c→W.cell? ⟨b,o,none⟩=some c)∧
  ∀(b:Nat) (c:Value),Gj b 0=some c→∃cs ty fz,W.heap[b]?=some (.cells cs ty fz)∧cs.size=Uu b) (conds:List PathCond) (noInit:Tryz.prog.inits.idxOf? f=none) (hfn:Tryz.prog.funcs[f]?=some fn)
  (witness : ∃(w:World) (tape:Tape) (i:Input),w.os=os∧(w.forCall tape i).Shaped Tryz.prog∧i.vars=[]∧Input.okWide Tryz.prog (w.forCall tape i) .any w.heap.size f i∧
   ((s.pre enc Tryz.prog fn conds false (w.forCall tape i).memory i.args∧laidMetH Tryz.prog lay (w.forCall tape i).memory)∧sizedMet enc Tryz.prog fn (OpenSpec.ofChange s) false (w.forCall tape i).memory i.args)∧({} : Assume).holds Tryz.prog (lone (Frame.enter Tryz.prog f i.args .normal) [] (w.forCall tape i)))
  (hvars:s.vars=[]) (hargs : ∀ds:List (DataW H),ds.length=fn.params.size→(s.fn H ds).args=ds∧(s.fn H ds).vars=[]∧(s.fn H ds).results=[.lit (.bool true)]) (tb:TypeId) (hrt:fn.resultTypes = #[tb]) (htb:Tryz.prog.underlying tb=some .bool)
  (l:List TypeId) (hC:okC Tryz.prog l=true) (hok:(fn.params.toList.all fun t=>l.contains t)=true) (hrd:(fn.params.toList.all fun t=>Tryz.prog.readableRec t&&decide (t<Tryz.prog.types.size))=true)
  (h : ∀xs,ShA Tryz.prog fn.params.toList xs→A8 Tryz.prog f (Gu Tryz.prog fn.params.toList xs) (.t (.bool true))) :
  ReturnsInHanded {} Tryz.checked os f .any (fun w args=>(s.pre enc Tryz.prog fn conds false w args∧laidMetH Tryz.prog lay w)∧sizedMet enc Tryz.prog fn (OpenSpec.ofChange s) false w args) (s.post enc Tryz.prog fn false true false false):=by
 refine returnsInHanded_of_change_and (C:=Tryz.checked) (X:=fun w _=>laidMetH Tryz.prog lay w) (fun _ _ _ hh h=>h.of_heap hh) Tryz.own started noInit hfn witness ?_
 intro W base args ds gs before hval0 hW hcnd _ hL _
 have hval : ∀(j:Nat) t v,fn.params[j]?=some t→args[j]?=some v→Value.okWide Tryz.prog W .any base t v:=hval0
 have hW':=hW
 obtain⟨p,q,hA0,hV,rfl,hfz,hnd⟩:=hW
 have hA:DataW.TrodAll enc Tryz.prog W 0 (fun _=>true) true fn.params.toList args.toList ds p:=hA0
 rw [hvars] at hV
 obtain⟨rfl,rfl⟩:=trodVars_none hV
 simp only [List.append_nil] at hW'
 rw [List.all_eq_true] at hok hrd
 obtain⟨hlay,hlsz⟩:=lay_of hL
 let g:Gh:=⟨Ic W,[],[],W.heap.size,[],fun _=>0⟩
 have hI0:Inv g St0 W:=
  ⟨fun b o c h=>h,rfl,fun i j blk hi=>by simp [g] at hi,fun i blk bx hi=>by simp [g] at hi,fun i blk bx hi=>by simp [g] at hi,fun i blk hi=>by simp [g] at hi,rfl,fun k n blk e z cap hk=>by simp [g] at hk,fun k n hk=>by simp [g] at hk,fun k l x y hk=>by simp [g] at hk,
   Nat.le_refl _,fun i blk hi=>by simp [g] at hi,hlay,hlsz⟩
 obtain⟨xs,hsh,hl,hrel⟩:=V4 hC g rfl hok (fun j t v a b=>hval j t v (Array.getElem?_toList.symm.trans a) (Array.getElem?_toList.symm.trans b)) hA
 refine (Yf (h xs hsh) g W hI0 rfl rfl args ((Array.length_toList (xs:=args)).symm.trans hl) (fun j hj=>by rw [←A1b];exact hrel j hj)).mono fun e W' ⟨he,hB⟩=>?_
 subst he
 have hdl:=Kr hA
 obtain⟨hf1,hf2,hf3⟩:=hargs (ds++[]) (by simpa using hdl)
 rw [List.append_nil] at hf1 hf2 hf3
 refine⟨_,rfl,ds,[],p,[],p,[],hW',?_,?_,?_,hB.frame _,fun h=>by cases h⟩
 ·rw [List.append_nil,hf3,hrt]
  exact trodAll_mk1 (shut_bool htb true)
 ·rw [List.append_nil,hf1]
  exact Hs Tryz.laidOut hB (fun t ht=>by have:=hrd t ht;simpa using this) (fun x hx=>hW'.lt x hx) hA
 ·rw [List.append_nil,hf2,hvars]
  rfl
end Go.Proofs.YtmlpmdccfmmpoaaGreatDoor
end
section
set_option linter.unusedSimpArgs false
set_option linter.unusedVariables false
namespace Go.Proofs.YtmlpmdccfmmpoaaGreatDoor
open Go.ChangeShapes Go.WideShapes Go.ChangeAt Go.RowKit E

def Og : List (String × DataW Unit) := [("unicode.White_Space", Rows.laid_unicode_White_Space), ("strings.asciiSpace", Rows.laid_strings_asciiSpace)]
def A1c:List Value:=(List.range 256).map fun i=>Value.int .u8 (if i=9∨i=10∨i=11∨i=12∨i=13∨i=32 then 1 else 0)
theorem A6b : Tryz.prog.globalNamed "strings.asciiSpace" = some 0 := by kernel_rfl

theorem A8g:(Tryz.prog.globals[0]?).map (·.type)=some 312:=by kernel_rfl

set_option maxRecDepth 100000 in
theorem A3k {W : World} (h : laidMetH Tryz.prog Og W) : ∃ cs, W.var? Tryz.prog "strings.asciiSpace" = some cs ∧ cs.toList = A1c := by
 rw [MakeChecks.laidMetH_plain _ _ _ (by kernel_rfl)] at h
 obtain⟨ps,⟨g0,t0,cs0,f0,p0,q0,hg0,ht0,hv0,hd0,⟨g2,t2,cs2,f2,p2,q2,hg2,ht2,hv2,hd2,_,_⟩,_⟩,_,_⟩:=h
 obtain rfl:=Option.some.inj (A6b.symm.trans hg2)
 refine⟨cs2,hv2,?_⟩
 obtain rfl:=Option.some.inj (A8g.symm.trans ht2)
 obtain⟨xs,m1,rfl,hx1,hlen,hn,hel⟩:=DataW.trod_array Tryz.underlying312 hd2
 have c1:Tryz.prog.cellsOf 5=1:=by kernel_rfl
 have c20:Tryz.prog.cellsOf 312=256:=by kernel_rfl
 rw [c20] at hlen
 have hd:(Rows.laid_strings_asciiSpace:DataW Unit)=.agg ((List.range 256).map fun i=>.lit (.int .u8 (if i=9∨i=10∨i=11∨i=12∨i=13∨i=32 then 1 else 0))):=by kernel_rfl
 rw [hd] at hx1
 simp only [Prod.mk.injEq,DataW.agg.injEq] at hx1
 apply List.ext_getElem?
 intro i
 rcases Nat.lt_or_ge i 256 with hi|hi
 ·have h1:=hel i hi
  rw [c1,Nat.mul_one] at h1
  obtain⟨x,hx⟩ : ∃x,xs[i]?=some x:=⟨xs[i]'(by omega),by simp [hn,hi]⟩
  rw [hx] at h1
  obtain⟨n,e1,e2,_⟩:=DataW.trod_int Tryz.underlying5 h1
  have h2:(xs.map (·.1))[i]?=some (.lit (.int .u8 (if i=9∨i=10∨i=11∨i=12∨i=13∨i=32 then 1 else 0))):=by rw [←hx1.1];simp only [List.getElem?_map,List.getElem?_range hi,Option.map_some]
  rw [List.getElem?_map,hx,e2] at h2
  simp only [Option.map_some,Option.some.injEq,DataW.lit.injEq,Lit.int.injEq,true_and] at h2
  have h3:cs2.toList[i]?=some (.int .u8 n):=by
   have:=congrArg (·[0]?) e1
   simpa [List.getElem?_take,List.getElem?_drop] using this
  rw [h3,h2]
  simp only [A1c,List.getElem?_map,List.getElem?_range hi,Option.map_some]
 ·rw [List.getElem?_eq_none (by omega),List.getElem?_eq_none (by simp [A1c];omega)]

set_option maxRecDepth 100000 in
theorem lay_of {W:World} (h:laidMetH Tryz.prog Og W):(∀(b o:Nat) (c:Value),Gj b o=some c→W.cell? ⟨b,o,none⟩=some c)∧
  ∀(b:Nat) (c:Value),Gj b 0=some c→∃cs ty fz,W.heap[b]?=some (.cells cs ty fz)∧cs.size=Uu b:=by
 obtain⟨cs,hv,hl⟩:=A3k h
 have hb : ∀(b o:Nat) (c:Value),Gj b o=some c→b=0:=by
  intro b o c hc
  unfold Gj Ut at hc
  by_cases hb:b=0
  ·exact hb
  ·have:(0==b)=false:=by simpa using fun h=>hb h.symm
   simp [this] at hc
 have hs:cs.size=256:=by rw [←Array.length_toList,hl];simp [A1c]
 refine⟨fun b o c hc=>?_,fun b c hc=>?_⟩
 ·obtain rfl:=hb b o c hc
  have h1:Gj 0 o=A1c[o]?:=rfl
  rw [World.var?_cell A6b hv,←Array.getElem?_toList,hl,←h1,hc]
 ·obtain rfl:=hb b 0 c hc
  unfold World.var? at hv
  rw [A6b] at hv
  simp only [Option.bind_some] at hv
  split at hv
  ·rename_i cs' ty fz hh
   have he:cs'=cs:=Option.some.inj hv
   exact⟨cs',ty,fz,hh,by rw [he,hs];kernel_rfl⟩
  ·cases hv

set_option maxRecDepth 100000 in
theorem A1d (os:Os) (args:Array Value):laidMetH Tryz.prog Og ((World.doorLaid Tryz.prog 400 os).forCall (fun _ _=>0) ⟨#[],args,[]⟩).memory:=
 laidMetH_of_parts3 (fuel:=8) (laidMet_of_run' 8 (by kernel_rfl) (by kernel_rfl)) (by kernel_rfl) (by kernel_rfl)
end Go.Proofs.YtmlpmdccfmmpoaaGreatDoor
end
