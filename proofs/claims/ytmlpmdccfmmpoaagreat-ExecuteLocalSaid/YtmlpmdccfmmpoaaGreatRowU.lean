/- A law whose arguments are plain trees holds in the statement's sense, if it returns true for all trees of their types. -/
import Derived.Test.YtmlpmdccfmmpoaaGreatTree
import Derived.Test.YtmlpmdccfmmpoaaGreatCodeM
import Derived.Test.YtmlpmdccfmmpoaaGreatRows
import Derived.ProofKit
import Derived.Carry
set_option linter.unusedSimpArgs false
set_option linter.unusedVariables false
namespace Go.Proofs.YtmlpmdccfmmpoaaGreat
open Go.ChangeShapes Go.WideShapes Go.ChangeAt Go.RowKit E

theorem R5 {P:Program} {f:Nat} {vs:List V} {b:Bool} (h:A7 P f vs (.t (.bool b))) (g:Gh) (w:World) (hI0:Inv g St0 w) (hb:g.base=w.heap.size) (he:g.ent=[])
  (us:Array Value) (hs:us.size=vs.length) (hr : ∀j,j<vs.length→RelV g [] (vs.getD j .und) (us.getD j undef)) :
  Calls P f us w fun e w'=>e=.returned (.bool b)∧Below w.heap.size w w':=by
 refine (h.2 _ w us hI0 hs hr).mono fun e w' he'=>?_
 obtain⟨u,g',rfl,hr,hm⟩:=he'
 refine⟨?_,hm.frm.os,hm.frm.tape,hm.frm.output,hm.frm.size,fun k hk=>hm.frm.block k (by omega) (by simp [he])⟩
 cases hr with
 | t x v h=>cases h;rfl

theorem Ff {H:Type} {enc:TypeId×Value→H} {P:Program} (hl:laidOutB P=true) {W W':World} (hb:Below W.heap.size W W') : ∀{ts:List TypeId} {vs:List Value} {ds:List (DataW H)} {ps:List MemPlace},
  (∀t∈ts,P.readableRec t=true∧t<P.types.size)→(∀x∈ps,x.block<W.heap.size)→DataW.TrodAll enc P W 0 (fun _=>true) true ts vs ds ps→
  DataW.TrodAll enc P W' 0 (fun b=>decide (b<W.heap.size)) true ts vs ds ps
 | [],[],[],_,_,_,h=>h
 | t::ts,v::vs,d::ds,ps,ho,hp,⟨p,q,h1,h2,e⟩=>by
  subst e
  exact⟨p,q,Below.trod hl (ho t (by simp)).1 (ho t (by simp)).2 h1 hb (fun x hx=>hp x (List.mem_append_left _ hx)),
   Ff hl hb (fun t ht=>ho t (by simp [ht])) (fun x hx=>hp x (List.mem_append_right _ hx)) h2,rfl⟩

theorem Hf {H:Type} {enc:TypeId×Value→H} {P:Program} {w:World} {base:Nat} {sp:Nat→Bool} {hd:Bool} : ∀{ts:List TypeId} {vs:List Value} {ds:List (DataW H)} {ps:List MemPlace},DataW.TrodAll enc P w base sp hd ts vs ds ps→ds.length=ts.length
 | [],[],[],_,_=>rfl
 | t::ts,v::vs,d::ds,_,⟨_,_,_,h,_⟩=>by simp [Hf h]
theorem Tq (a:Array Value) (j:Nat) (d:Value):a.toList.getD j d=a.getD j d:=by simp [List.getD_eq_getElem?_getD,Array.getD_eq_getD_getElem?]
set_option maxRecDepth 100000 in
theorem Tryz.own:ownKnob Tryz.prog.godebug=none:=by kernel_rfl
set_option maxRecDepth 100000 in
theorem Tryz.laidOut:laidOutB Tryz.prog=true:=by kernel_rfl

set_option maxRecDepth 100000 in
theorem R6 {os:Os} (started:os.Started) {H:Type} {enc:TypeId×Value→H} {f:FuncId} {fn:Func} {s:ChangeSpec} (conds:List PathCond) (noInit:Tryz.prog.inits.idxOf? f=none) (hfn:Tryz.prog.funcs[f]?=some fn)
  (witness : ∃(w:World) (tape:Tape) (i:Input),w.os=os∧(w.forCall tape i).Shaped Tryz.prog∧i.vars=[]∧Input.okWide Tryz.prog (w.forCall tape i) .any w.heap.size f i∧
   s.pre6 enc Tryz.prog fn conds false (w.forCall tape i).memory i.args∧({} : Assume).holds Tryz.prog (lone (Frame.enter Tryz.prog f i.args .normal) [] (w.forCall tape i)))
  (hvars:s.vars=[]) (hargs : ∀ds:List (DataW H),ds.length=fn.params.size→(s.fn H ds).args=ds∧(s.fn H ds).vars=[]∧(s.fn H ds).results=[.lit (.bool true)]) (tb:TypeId) (hrt:fn.resultTypes = #[tb]) (htb:Tryz.prog.underlying tb=some .bool)
  (l:List TypeId) (hC:okC Tryz.prog l=true) (hok:(fn.params.toList.all fun t=>l.contains t)=true) (hrd:(fn.params.toList.all fun t=>Tryz.prog.readableRec t&&decide (t<Tryz.prog.types.size))=true)
  (h : ∀xs,ShA Tryz.prog fn.params.toList xs→A7 Tryz.prog f (Et Tryz.prog fn.params.toList xs) (.t (.bool true))) :
  ReturnsInHanded {} Tryz.checked os f .any (s.pre6 enc Tryz.prog fn conds false) (s.post enc Tryz.prog fn false true false false):=by
 refine returnsInHanded_of_change (C:=Tryz.checked) Tryz.own started noInit hfn witness ?_
 intro W base args ds gs before hval0 hW hcnd _
 have hval : ∀(j:Nat) t v,fn.params[j]?=some t→args[j]?=some v→Value.okWide Tryz.prog W .any base t v:=hval0
 have hW':=hW
 obtain⟨p,q,hA0,hV,rfl,hfz,hnd⟩:=hW
 have hA:DataW.TrodAll enc Tryz.prog W 0 (fun _=>true) true fn.params.toList args.toList ds p:=hA0
 rw [hvars] at hV
 obtain⟨rfl,rfl⟩:=trodVars_none hV
 simp only [List.append_nil] at hW'
 rw [List.all_eq_true] at hok hrd
 let g:Gh:=⟨Ic W,[],[],W.heap.size,[],fun _=>0⟩
 have hI0:Inv g St0 W:=
  ⟨fun b o c h=>h,rfl,fun i j blk hi=>by simp [g] at hi,fun i blk bx hi=>by simp [g] at hi,fun i blk bx hi=>by simp [g] at hi,fun i blk hi=>by simp [g] at hi,rfl,fun k n blk e z cap hk=>by simp [g] at hk,fun k n hk=>by simp [g] at hk,fun k l x y hk=>by simp [g] at hk,
   Nat.le_refl _,fun i blk hi=>by simp [g] at hi,fun b o c h=>by simp [Jg,Kv] at h,fun b c h=>by simp [Jg,Kv] at h⟩
 obtain⟨xs,hsh,hl,hrel⟩:=Pb hC g rfl hok (fun j t v a b=>hval j t v (Array.getElem?_toList.symm.trans a) (Array.getElem?_toList.symm.trans b)) hA
 refine (R5 (h xs hsh) g W hI0 rfl rfl args ((Array.length_toList (xs:=args)).symm.trans hl) (fun j hj=>by rw [←Tq];exact hrel j hj)).mono fun e W' ⟨he,hB⟩=>?_
 subst he
 have hdl:=Hf hA
 obtain⟨hf1,hf2,hf3⟩:=hargs (ds++[]) (by simpa using hdl)
 rw [List.append_nil] at hf1 hf2 hf3
 refine⟨_,rfl,ds,[],p,[],p,[],hW',?_,?_,?_,hB.frame _,fun h=>by cases h⟩
 ·rw [List.append_nil,hf3,hrt]
  exact trodAll_mk1 (shut_bool htb true)
 ·rw [List.append_nil,hf1]
  exact Ff Tryz.laidOut hB (fun t ht=>by have:=hrd t ht;simpa using this) (fun x hx=>hW'.lt x hx) hA
 ·rw [List.append_nil,hf2,hvars]
  rfl
end Go.Proofs.YtmlpmdccfmmpoaaGreat
