/- The engine: functions that defer a closure; closures that recover. -/
import Derived.Test.YtmlpmdccfmmpoaaGreatDoorEe
import Derived.Recover
section
set_option linter.unusedSimpArgs false
set_option linter.unusedVariables false
namespace Go.Proofs.YtmlpmdccfmmpoaaGreatDoor
namespace E

def Yy (P:Program) (f:Nat) (vs:List V) (S S':St):Prop:=
 B4 P f∧∀(g:Gh) (w:World) (us:Array Value),Inv g S w→us.size=vs.length→(∀j,j<vs.length→RelV g S.toks (vs.getD j .und) (us.getD j undef))→
  CallsD P f us .returning w fun e u' w'=>u'=.returning∧∃x g',e=.returned x∧Mv g S w g' S' w'
def Yz (P:Program) (f:Nat) (vs:List V) (S:St) (v:V) (S':St):Prop:=
 B4 P f∧∀(g:Gh) (w:World) (us:Array Value) (u:Value),Inv g S w→us.size=vs.length→(∀j,j<vs.length→RelV g S.toks (vs.getD j .und) (us.getD j undef))→RelV g S.toks v u→
  CallsD P f us (.panicking [{ v:=u,recovered:=false }]) w fun e u' w'=>u'=.panicking [{ v:=u,recovered:=true }]∧∃x g',e=.returned x∧Mv g S w g' S' w'

def V6:Code→Option (Nat×List Opd×Nat×List Operand)
 | .region _ ops false=>match ops.toList with
  | [o1,o2]=>match o1.op,o1.dst,o1.guard,o2.op,o2.dst,o2.guard with
   | .makeFunc (.func f) first caps,some d,none,.defer c,none,none=>match c.callee with
    | .value (.tmp d')=>if d'=d∧first = #[]∧c.args = #[] then (opds caps.toList).map fun ys=>(f,ys,d,caps.toList) else none
    | _=>none
   | _,_,_,_,_,_=>none
  | _=>none
 | _=>none
def Z0:Code→Option (List Code×Code×Code)
 | .seq x y=>match V6 x with
  | some _=>some ([],x,y)
  | none=>match Z0 y with
   | some (a,d,b)=>some (x::a,d,b)
   | none=>none
 | _=>none

def wpL (P:Program) (next:Act→World→Prop) (Q:Exit→Act→World→Prop):List Code→Act→World→Prop
 | [],act,w=>next act w
 | c::cs,act,w=>c.wp P (Exit.then (wpL P next Q cs) Q) act w
theorem A1r {P:Program} : ∀{c:Code} {a:List Code} {d b:Code},Z0 c=some (a,d,b)→∀{Q:Exit→Act→World→Prop} {act:Act} {w:World},wpL P ((Code.seq d b).wp P Q) Q a act w→c.wp P Q act w:=by
 intro c
 induction c with
 | seq x y ihx ihy=>
  intro a d b hc Q act w h
  simp only [Z0] at hc
  split at hc
  ·simp only [Option.some.injEq,Prod.mk.injEq] at hc
   obtain⟨rfl,rfl,rfl⟩:=hc
   exact h
  ·split at hc
   ·rename_i a0 d0 b0 h0
    simp only [Option.some.injEq,Prod.mk.injEq] at hc
    obtain⟨rfl,rfl,rfl⟩:=hc
    refine wp_seq (wp_mono h fun e a' w' hq=>?_)
    cases e with
    | normal=>exact ihy h0 hq
    | _=>exact hq
   ·cases hc
 | _=>intro a d b hc;simp [Z0] at hc

def Qs (P:Program) (N:Nat):List Code→Option (List EC)
 | []=>some []
 | c::cs=>match D9 P false false N c,Qs P N cs with
  | some x,some xs=>some (x::xs)
  | _,_=>none
def X0 (P:Program) (nb nt:Nat) (next:Fr→St→Prop) (Q:Ex→Fr→St→Prop):List EC→Fr→St→Prop
 | [],a,S=>next a S
 | c::cs,a,S=>ewp P nb nt c (Eg (X0 P nb nt next Q cs) Q) a S
@[simp] theorem A76 {P:Program} {nb nt:Nat} {next:Fr→St→Prop} {Q:Ex→Fr→St→Prop} {a:Fr} {S:St} : X0 P nb nt next Q [] a S=next a S:=rfl
@[simp] theorem A6n {P:Program} {nb nt:Nat} {next:Fr→St→Prop} {Q:Ex→Fr→St→Prop} {c:EC} {cs:List EC} {a:Fr} {S:St} : X0 P nb nt next Q (c::cs) a S=ewp P nb nt c (Eg (X0 P nb nt next Q cs) Q) a S:=rfl

theorem M2 {P:Program} (hmix:P.follows .mixedOrders=true) {N nb nt:Nat} {next:Fr→St→Prop} {Q:Ex→Fr→St→Prop} {g0:Gh} {S0:St} {w0:World} {next':Act→World→Prop} {Q':Exit→Act→World→Prop}
  (hnext : ∀act w a S g,next a S→Conc N [] g a S act w→Mv0 nb nt g0 S0 w0 g S w→next' act w)
  (hQ : ∀e act w,(∀u,e≠u∨u≠Exit.normal)→Gb N [] nb nt g0 S0 w0 Q e act w→Q' e act w) :
  ∀(cs:List Code) (xs:List EC),Qs P N cs=some xs→∀{g:Gh} {a:Fr} {S:St} {act:Act} {w:World},Conc N [] g a S act w→Mv0 nb nt g0 S0 w0 g S w→X0 P nb nt next Q xs a S→wpL P next' Q' cs act w
 | [],xs,hx,g,a,S,act,w,hC,hm,h=>by
  simp only [Qs,Option.some.injEq] at hx
  subst hx
  exact hnext _ _ _ _ _ h hC hm
 | c::cs,xs,hx,g,a,S,act,w,hC,hm,h=>by
  simp only [Qs] at hx
  split at hx
  ·rename_i y ys hy hys
   simp only [Option.some.injEq] at hx
   subst hx
   refine wp_mono (Ec hmix c y hy hC hm.nb hm.nt h) ?_
   rintro e act' w' ⟨q,a',S',g',hex,h2,h3,h4⟩
   have hm':=hm.trans h4
   cases q with
   | nx=>
    subst hex
    exact M2 hmix hnext hQ cs ys hys h3 hm' h2
   | ex id=>subst hex;exact hQ _ _ _ (fun u=>by cases u<;>simp) ⟨.ex id,a',S',g',rfl,h2,h3,hm'⟩
   | rt=>subst hex;exact hQ _ _ _ (fun u=>by cases u<;>simp) ⟨.rt,a',S',g',rfl,h2,h3,hm'⟩
   | pn v=>obtain⟨u,rfl,hu⟩:=hex;exact hQ _ _ _ (fun u=>by cases u<;>simp) ⟨.pn v,a',S',g',⟨u,rfl,hu⟩,h2,h3,hm'⟩
  ·cases hx

def ecD (P:Program) (f:Nat):Option (Nat×List EC×(Nat×List Opd×Nat)×EC×List RV):=
 match P.funcs[f]? with
 | some fn=>match fn.body with
  | some code=>match Z0 code with
   | some (ca,d,cb)=>match Qs P fn.ntmps ca,V6 d,D9 P false false fn.ntmps cb,Gc P fn.results.toList with
    | some xa,some p,some xb,some rs=>if p.2.2.1<fn.ntmps then some (fn.ntmps,xa,(p.1,p.2.1,p.2.2.1),xb,rs) else none
    | _,_,_,_=>none
   | none=>none
  | none=>none
 | none=>none

def A77 (P:Program) (fd:Nat) (cvs:List V) (rs:List RV) (nb nt:Nat) (r:V) (S':St) (e:Ex) (a:Fr) (S1:St):Prop:=
 match e with
 | .nx | .rt=>∃S2,Yy P fd cvs S1 S2∧I2 rs nb nt r S' .rt a S2
 | .pn v=>∃S2,Yz P fd cvs S1 v S2∧I2 rs nb nt r S' .rt a S2
 | .ex _=>False
def Z1 (n:Nat) (cvs:List V):Bool:=cvs.all fun v=>match v with | .ptr b _=>decide (b<n)|_=>false

theorem Mv0.le {nb nt nb' nt':Nat} {g:Gh} {S:St} {w:World} {g':Gh} {S':St} {w':World} (h:Mv0 nb' nt' g S w g' S' w') (h1:nb≤nb') (h2:nt≤nt'):Mv0 nb nt g S w g' S' w':=
 ⟨h.I,fun i x hi hx=>h.β i x (by omega) hx,fun k n hk hn=>h.τ k n (by omega) hn,h.base,h.ent,h.icl,fun i x hi hx=>h.κ i x (by omega) hx,h.frm,Nat.le_trans h1 h.nb,Nat.le_trans h2 h.nt⟩

theorem Tv {d:Code} {p:Nat×List Opd×Nat×List Operand} (h:V6 d=some p) : ∃id ops o1 o2 fs c,d=.region id ops false∧ops = #[o1,o2]∧o1.op=.makeFunc (.func p.1) #[] fs∧o1.dst=some p.2.2.1∧o1.guard=none∧
  o2.op=.defer c∧o2.dst=none∧o2.guard=none∧c.callee=.value (.tmp p.2.2.1)∧c.args = #[]∧opds fs.toList=some p.2.1:=by
 unfold V6 at h
 split at h
 case h_2=>cases h
 rename_i id ops
 split at h
 case h_2=>cases h
 rename_i o1 o2 hops
 split at h
 case h_2=>cases h
 rename_i f first caps dd c h1 h2 h3 h4 h5 h6
 split at h
 case h_2=>cases h
 rename_i d' hcal
 split at h
 case isFalse=>cases h
 rename_i hc
 obtain⟨rfl,rfl,ha⟩:=hc
 cases hy:opds caps.toList with
 | none=>simp [hy] at h
 | some ys=>
  simp only [hy,Option.map_some,Option.some.injEq] at h
  subst h
  exact⟨id,ops,o1,o2,caps,c,rfl,Array.toList_inj.1 (by simpa using hops),h1,h2,h3,h4,h5,h6,hcal,ha,hy⟩

theorem Conc.mono {N:Nat} {D:List Deferred} {g:Gh} {a:Fr} {S:St} {act:Act} {w:World} (h:Conc N D g a S act w) {g':Gh} {S':St} {w':World} (hm:Mv g S w g' S' w'):Conc N D g' a S' act w':=
 ⟨hm.inv,h.defers,h.size,fun j=>(h.rel j).mono hm.ext⟩

theorem FnS.of_codeD {P:Program} (hmix:P.follows .mixedOrders=true) {f N:Nat} {xa:List EC} {fd d:Nat} {caps:List Opd} {xb:EC} {rs:List RV} {vs:List V} {S S':St} {r:V} (hE:B4 P f) (hc:ecD P f=some (N,xa,(fd,caps,d),xb,rs)) (hlen:vs.length≤N)
  (h:bdVs vs→X0 P S.boxes.length S.toks.length (fun a S1=>Z1 S1.boxes.length (caps.map (opv a))=true∧ewp P S1.boxes.length S1.toks.length xb (A77 P fd (caps.map (opv a)) rs S.boxes.length S.toks.length r S') (upd a d .junk) S1)
   (I2 rs S.boxes.length S.toks.length r S') xa (fr0 vs) S):FnS P f vs S r S':=FnS.of_bd hE fun hbd=>by
 have h:=h hbd
 unfold ecD at hc
 split at hc
 case h_2=>cases hc
 rename_i fn hf
 split at hc
 case h_2=>cases hc
 rename_i code hb
 split at hc
 case h_2=>cases hc
 rename_i ca dc cb hcut
 split at hc
 case h_2=>cases hc
 rename_i xa' p xb' rs' hxa hp hxb hr
 split at hc
 case isFalse=>cases hc
 rename_i hdN
 simp only [Option.some.injEq,Prod.mk.injEq] at hc
 obtain⟨rfl,rfl,⟨rfl,rfl,rfl⟩,rfl,rfl⟩:=hc
 refine⟨hE,fun g w us hI hus hrel=>?_⟩
 refine calls_of_wp_defers hf hb ?_
 refine A1r hcut ?_
 refine M2 hmix (g0:=g) (S0:=S) (w0:=w) ?_ ?_ ca xa' hxa (Conc.start hI hus hrel hlen) (Mv0.refl (Nat.le_refl _) (Nat.le_refl _)) h
 ·-- behind the code ahead: the deferred call is laid, and the rest runs
  rintro act w1 a S1 g1 ⟨hptr,hb1⟩ hC hm
  obtain⟨id,ops,o1,o2,fs,c,rfl,rfl,p1,p2,p3,p4,p5,p6,p7,p8,p9⟩:=Tv hp
  obtain⟨fd,caps,d,cl⟩:=p
  simp only [] at p1 p2 p7 p9 hptr hb1 hdN
  have hrel0:=Ls hC p9
  refine wp_seq (wp_region ?_)
  have hz:d<act.tmps.size:=by rw [hC.size];exact hdN
  have hget:(act.put (some d) (.func (.func fd) #[] (fs.map act.eval))).eval (.tmp d)=.func (.func fd) #[] (fs.map act.eval):=by
   simp [Act.eval,Act.put,hz]
  have hw1 : ∀y,Region.wanted o1 y=true:=fun y=>by simp [Region.wanted,p3]
  have hw2 : ∀y,Region.wanted o2 y=true:=fun y=>by simp [Region.wanted,p6]
  have r1:(execOp act.eval o1).run P w1=.ok (.value (.func (.func fd) #[] (fs.map act.eval))) w1:=by simp [execOp,p1,Instr.makeFunc]
  have r2:(execOp (act.put (some d) (.func (.func fd) #[] (fs.map act.eval))).eval o2).run P w1=.ok (.defer { target:=.fn (.func fd) (fs.map act.eval),args:=#[] }) w1:=by
   simp [execOp,p4,resolve,p7,p8,hget,Deferred.ofValue]
  have hrange:List.range (#[o1,o2]:Array Oper).size=[0,1]:=rfl
  rw [hrange]
  simp only [wpOps]
  rw [show (#[o1,o2]:Array Oper)[0]?=some o1 from rfl]
  simp only [hw1,if_true]
  refine .inl ?_
  unfold Oper.wp
  rw [r1,Oper.upon_value,p2]
  rw [show (#[o1,o2]:Array Oper)[1]?=some o2 from rfl]
  simp only [hw2,if_true]
  refine .inl ?_
  rw [r2,Oper.upon_defer,p5]
  show cb.wp P _ _ w1
  generalize hdd:({ target:=.fn (.func fd) (fs.map act.eval),args:=#[] } : Deferred)=dd
  have hC2:Conc fn.ntmps [dd] g1 (upd a d .junk) S1 ({ (act.put (some d) (.func (.func fd) #[] (fs.map act.eval))) with defers:=dd::(act.put (some d) (.func (.func fd) #[] (fs.map act.eval))).defers }.put none undef) w1:=by
   refine⟨hC.inv,?_,?_,fun i=>?_⟩
   ·show dd::act.defers=[dd]
    rw [hC.defers]
   ·show (act.tmps.setIfInBounds d _).size=_
    simp [hC.size]
   ·show RelV g1 S1.toks _ ((act.tmps.setIfInBounds d _).getD i undef)
    by_cases hi:i=d
    ·subst hi;simp [upd];exact .junk _
    ·simp only [upd,if_neg hi]
     have:=hC.rel i
     rw [Array.getD_eq_getD_getElem?] at this ⊢
     rw [Array.getElem?_setIfInBounds_ne (Ne.symm hi)]
     exact this
  refine wp_mono (Ec hmix cb xb' hxb hC2 (Nat.le_refl _) (Nat.le_refl _) hb1) ?_
  rintro e act' w' ⟨x,a',S3,g3,hex,hfin,hC3,hm3⟩
  have hm13:Mv0 S.boxes.length S.toks.length g S w g3 S3 w':=hm.trans (hm3.le hm.nb hm.nt)
  have hinv : ∀w,(invoke dd.target dd.args).run P w=.ok (.enter fd (fs.map act.eval)) w:=fun w=>by
   subst hdd
   have hEd:B4 P fd:=by
    cases x with
    | nx=>obtain⟨S2,h1,_⟩:=hfin;exact h1.1
    | rt=>obtain⟨S2,h1,_⟩:=hfin;exact h1.1
    | pn v=>obtain⟨S2,h1,_⟩:=hfin;exact h1.1
    | ex id=>exact hfin.elim
   simp [invoke,hEd _ _]
  have hsz:(fs.map act.eval).size=(caps.map (opv a)).length:=by rw [hrel0.1];simp
  have hcap : ∀j,j<(caps.map (opv a)).length→RelV g3 S3.toks ((caps.map (opv a)).getD j .und) ((fs.map act.eval).getD j undef):=fun j hj=>by
   have hlt:j<fs.size:=by have:=hrel0.1;simp at this hj;omega
   have h1:=hrel0.2 j fs[j] (by simp [hlt])
   have h2:(fs.map act.eval).getD j undef=act.eval fs[j]:=by simp [hlt]
   rw [h2]
   have h3:=List.all_eq_true.1 hptr ((caps.map (opv a)).getD j .und) (by
    rw [List.getD_eq_getElem?_getD,List.getElem?_eq_getElem hj];exact List.getElem_mem hj)
   generalize (caps.map (opv a)).getD j .und=q at h1 h3 ⊢
   generalize act.eval fs[j]=z at h1 ⊢
   cases h1 with
   | ptr b o blk hβ=>simp only [decide_eq_true_eq] at h3;exact .ptr b o blk (hm3.β b blk h3 hβ)
   | _=>cases h3
  have fin : ∀S2 g4 w4,Mv g3 S3 w' g4 S2 w4→I2 rs' S.boxes.length S.toks.length r S' .rt a' S2→∃v,(results fn act'.tmps).run P w4=.ok v w4∧∃u g',Ending.returned v=.returned u∧RelV g' S'.toks r u∧Mv g S w g' S' w4:=by
   intro S2 g4 w4 hmv hk
   exact L2 hI hr hk (hC3.mono hmv) (hm13.trans (hmv.toMv0 hC3.inv hm13.nb hm13.nt))
  have hdef:=hC3.defers
  have ret : ∀S2,Yy P fd (caps.map (opv a)) S3 S2→I2 rs' S.boxes.length S.toks.length r S' .rt a' S2→Leaves P fn act'.tmps (fun e w'=>∃u g',e=.returned u∧RelV g' S'.toks r u∧Mv g S w g' S' w') act'.defers .returning w':=by
   intro S2 hd hk
   rw [hdef]
   refine⟨by simp,.func fd,fs.map act.eval,fd,fs.map act.eval,by subst hdd;rfl,hinv w',?_⟩
   refine (hd.2 g3 w' (fs.map act.eval) hC3.inv hsz hcap).mono ?_
   rintro e u' w4 ⟨rfl,x,g4,rfl,hmv⟩
   exact fin S2 g4 w4 hmv hk
  cases x with
  | nx=>
   subst hex
   obtain⟨S2,hd,hk⟩:=hfin
   exact ret S2 hd hk
  | rt=>
   subst hex
   obtain⟨S2,hd,hk⟩:=hfin
   exact ret S2 hd hk
  | ex id=>exact hfin.elim
  | pn v=>
   obtain⟨u,rfl,hu⟩:=hex
   obtain⟨S2,hd,hk⟩:=hfin
   show Leaves P fn act'.tmps _ act'.defers _ w'
   rw [hdef]
   refine⟨by simp,.func fd,fs.map act.eval,fd,fs.map act.eval,by subst hdd;rfl,hinv w',?_⟩
   refine (hd.2 g3 w' (fs.map act.eval) u hC3.inv hsz hcap hu).mono ?_
   rintro e u' w4 ⟨rfl,x,g4,rfl,hmv⟩
   exact fin S2 g4 w4 hmv hk
 ·rintro e act' w' hne ⟨x,a',S1,g0,hex,hfin,hC',hm0⟩
  have hres:=L2 (P:=P) (fn:=fn) hI hr hfin hC' hm0
  cases x with
  | nx=>subst hex;exact absurd rfl ((hne .normal).resolve_left (by simp))
  | rt=>
   subst hex
   show Leaves P fn act'.tmps _ act'.defers .returning w'
   rw [hC'.defers]
   exact hres
  | ex id=>exact hfin.1.elim
  | pn v=>exact hfin.1.elim

def Z2:Code→Option Nat
 | .region _ ops false=>match ops.toList with
  | [o1,o2]=>match o1.op,o1.dst,o1.guard,o2.op,o2.guard with
   | .call c1,some 1,none,.call c2,none=>match c1.callee,c2.callee with
    | .builtin .recover,.value (.func f)=>if c2.args.toList.length=2∧c1.args = #[] then (match c2.args.toList with | [.tmp 0,.tmp 1]=>some f|_=>none) else none
    | _,_=>none
   | _,_,_,_,_=>none
  | _=>none
 | _=>none
def A1s (P:Program) (f:Nat):Option Nat:=
 match P.funcs[f]? with
 | some fn=>match fn.body with
  | some code=>if fn.ntmps=3∧fn.results = #[] then Z2 code else none
  | none=>none
 | none=>none
theorem Tw {d:Code} {f:Nat} (h:Z2 d=some f) : ∃id ops o1 o2 c1 c2,d=.region id ops false∧ops = #[o1,o2]∧o1.op=.call c1∧o1.dst=some 1∧o1.guard=none∧
  o2.op=.call c2∧o2.guard=none∧c1.callee=.builtin .recover∧c1.args = #[]∧c2.callee=.value (.func f)∧c2.args = #[.tmp 0,.tmp 1]:=by
 unfold Z2 at h
 split at h
 case h_2=>cases h
 rename_i id ops
 split at h
 case h_2=>cases h
 rename_i o1 o2 hops
 split at h
 case h_2=>cases h
 rename_i c1 c2 h1 h2 h3 h4 h5
 split at h
 case h_2=>cases h
 rename_i f' h6 h7
 split at h
 case isFalse=>cases h
 rename_i hl
 split at h
 case h_2=>cases h
 rename_i h8
 simp only [Option.some.injEq] at h
 subst h
 exact⟨id,ops,o1,o2,c1,c2,rfl,Array.toList_inj.1 (by simpa using hops),h1,h2,h3,h4,h5,h6,hl.2,h7,Array.toList_inj.1 (by simpa using h8)⟩

theorem V7 {P:Program} {f fs:Nat} {v:V} {S S':St} (hE:B4 P f) (hc:A1s P f=some fs) {x:V} {g:Gh} {w:World} {us:Array Value} (hset:FnS P fs [v,x] S (.tup []) S') (hI:Inv g S w) (hus:us.size=1) (hv:RelV g S.toks v (us.getD 0 undef))
  {mode mode':FrameMode} {rv:Value} (hrec : ∀(c₀:Frame) (cs:List Frame),c₀.mode=mode→(recoverD (c₀::cs)=some (rv,{ c₀ with mode:=mode' } :: cs))∨(recoverD (c₀::cs)=none∧rv=.nilIface∧mode'=mode)) (hx:RelV g S.toks x rv) :
  CallsD P f us mode w fun e u' w'=>u'=mode'∧∃y g',e=.returned y∧Mv g S w g' S' w':=by
 unfold A1s at hc
 split at hc
 case h_2=>cases hc
 rename_i fn hf
 split at hc
 case h_2=>cases hc
 rename_i code hb
 split at hc
 case isFalse=>cases hc
 rename_i hN
 obtain⟨hN,hres⟩:=hN
 obtain⟨id,ops,o1,o2,c1,c2,rfl,rfl,p1,p2,p3,p4,p5,p6,p7,p8,p9⟩:=Tw hc
 refine callsD_of_wpS hf hb fun c₀ cs hu=>?_
 refine wpS_region ?_
 have hrange:List.range (#[o1,o2]:Array Oper).size=[0,1]:=rfl
 rw [hrange]
 obtain⟨u0,rfl⟩ : ∃u0,us = #[u0]:=⟨us.getD 0 undef,by
  apply Array.ext
  ·simp [hus]
  ·intro i h1 h2
   simp at h2
   subst h2
   simp [Array.getD_eq_getD_getElem?,h1]⟩
 simp at hv
 generalize hact:({ tmps:=#[u0]++Array.replicate (fn.ntmps-(#[u0]:Array Value).size) undef,defers:=[] } : Act)=act
 have ht:act.tmps = #[u0,undef,undef]:=by subst hact;simp [hN]
 have hd:act.defers=[]:=by subst hact;rfl
 have hw1 : ∀y,Region.wanted o1 y=true:=fun y=>by simp [Region.wanted,p3]
 have hw2 : ∀y,Region.wanted o2 y=true:=fun y=>by simp [Region.wanted,p5]
 have r1:(execOp act.eval o1).run P w=.ok .recover w:=by simp [execOp,p1,resolve,p6,p7,invoke,builtin]
 rw [wpOpsS]
 rw [show (#[o1,o2]:Array Oper)[0]?=some o1 from rfl]
 simp only [hw1,if_true,r1]
 have go : ∀cs',cs' = { c₀ with mode:=mode' } :: cs→wpOpsS P #[o1,o2] (bodyPostS P fn c₀ cs fun e u' w'=>u'=mode'∧∃y g',e=.returned y∧Mv g S w g' S' w') [1] (act.put o1.dst rv) cs' w:=by
  rintro cs' rfl
  simp only [wpOpsS]
  rw [show (#[o1,o2]:Array Oper)[1]?=some o2 from rfl]
  simp only [hw2,if_true]
  have ht2:(act.put o1.dst rv).tmps = #[u0,rv,undef]:=by rw [p2];simp [Act.put,ht]
  have r2:(execOp (act.put o1.dst rv).eval o2).run P w=.ok (.enter fs #[u0,rv]) w:=by
   have e0:(act.put o1.dst rv).eval (.tmp 0)=u0:=by simp [Act.eval,ht2]
   have e1:(act.put o1.dst rv).eval (.tmp 1)=rv:=by simp [Act.eval,ht2]
   have e2:(act.put o1.dst rv).eval (.func fs)=.func (.func fs) #[] #[]:=by simp [Act.eval]
   simp [execOp,p4,resolve,p8,p9,e0,e1,e2,Deferred.ofValue,invoke,hset.1 _ _]
  rw [r2]
  simp only [Oper.upon_enter]
  refine (hset.2 g w #[u0,rv] hI rfl (fun j hj=>?_)).mono fun e w' he=>?_
  ·simp at hj
   rcases (by omega:j=0∨j=1) with rfl|rfl
   ·simpa using hv
   ·simpa using hx
  ·obtain⟨u,g',rfl,hr,hm⟩:=he
   simp only []
   show bodyPostS P fn c₀ cs _ .normal _ _ w'
   refine⟨?_,mode',rfl,.tuple #[],?_,rfl,_,g',rfl,hm⟩
   ·cases o2.dst<;>simp [Act.put,hd,p2]
   ·simp [results,hres]
 split
 ·rename_i v' cs' hr
  rcases hrec c₀ cs hu with h1|⟨h1,_,_⟩
  ·rw [hr] at h1
   simp only [Option.some.injEq,Prod.mk.injEq] at h1
   obtain⟨rfl,rfl⟩:=h1
   exact go _ rfl
  ·rw [hr] at h1;cases h1
 ·rename_i hr
  rcases hrec c₀ cs hu with h1|⟨_,rfl,rfl⟩
  ·rw [hr] at h1;cases h1
  ·exact go _ (by rw [←hu])

theorem Yy.of_rec {P:Program} {f fs:Nat} {v:V} {S S':St} (hE:B4 P f) (hc:A1s P f=some fs) (h:FnS P fs [v,.t .nili] S (.tup []) S'):Yy P f [v] S S':=by
 refine⟨hE,fun g w us hI hus hrel=>?_⟩
 refine V7 hE hc h hI (by simpa using hus) (by simpa using hrel 0 (by simp)) (rv:=.nilIface) (fun c₀ cs hu=>.inr ⟨by simp [recoverD,hu],rfl,rfl⟩) (.t _ _ .nili)
theorem Yz.of_rec {P:Program} {f fs:Nat} {v x:V} {S S':St} (hE:B4 P f) (hc:A1s P f=some fs) (h:FnS P fs [v,x] S (.tup []) S'):Yz P f [v] S x S':=by
 refine⟨hE,fun g w us u hI hus hrel hu=>?_⟩
 exact V7 hE hc h hI (by simpa using hus) (by simpa using hrel 0 (by simp)) (fun c₀ cs hm=>.inl (by simp [recoverD,hm])) hu
attribute [simp] A77 Z1
end E
end Go.Proofs.YtmlpmdccfmmpoaaGreatDoor
end
