/- Contracts of functions of which only some of what they return and leave is told. -/
import Derived.Test.YtmlpmdccfmmpoaaGreatLit
set_option linter.unusedSimpArgs false
set_option linter.unusedVariables false
namespace Go.Proofs.YtmlpmdccfmmpoaaGreat
namespace E
def V6 (Φ:V→St→Prop) (rvs:List RV) (nb nt:Nat) (e:Ex) (a:Fr) (S1:St):Prop:=∃r S',Φ r S'∧(X6 rvs nb nt r S' e a S1∨Jd rvs nb nt r S' e a S1)
theorem FnE.of_bd {P:Program} {f:Nat} {vs:List V} {S:St} {Φ:V→St→Prop} (hE:Bd P f) (h:bdVs vs→FnE P f vs S Φ):FnE P f vs S Φ:=by
 refine⟨hE,fun g w us hI hus hrel=>?_⟩
 exact (h (Ez fun j hj=>by
  have:=(hrel j hj).bd
  simpa [List.getD_eq_getElem?_getD,hj] using this)).2 g w us hI hus hrel
theorem FnE.of_ewp {P:Program} {fl wl:Bool} (hmix:P.follows .mixedOrders=true) {f:Nat} {fn:Func} {code:Go.Code} {c:EC} {rs:List RV} {vs:List V} {S:St} {Φ:V→St→Prop} (hE:Bd P f) (hf:P.funcs[f]?=some fn) (hb:fn.body=some code)
  {N:Nat} (hN:fn.ntmps=N) (hc:Cx P fl wl N code=some c) (hr:Fe P fn.results.toList=some rs) (hlen:vs.length≤N)
  (h:ewp P S.boxes.length S.toks.length c (V6 Φ rs S.boxes.length S.toks.length) (fr0 vs) S):FnE P f vs S Φ:=by
 refine⟨hE,fun g w us hI hus hrel=>?_⟩
 subst hN
 refine calls_of_wp hf hb ?_
 refine wp_mono (Gn hmix code c hc (Conc.start hI hus hrel hlen) (Nat.le_refl _) (Nat.le_refl _) h) ?_
 rintro e act' w' ⟨x,a',S1,g0,hex,⟨r,S',hΦ,hfin⟩,hC',hm0⟩
 have hres : ∃v,(results fn act'.tmps).run P w'=.ok v w'∧∃r S' u g',Φ r S'∧Ending.returned v=.returned u∧RelV g' S'.toks r u∧Mv g S w g' S' w':=by
  rcases hfin with hfin|hfin
  ·obtain⟨v,h1,u,g',h2,h3,h4⟩:=Tj (P:=P) (fn:=fn) hI hr hfin hC' hm0
   exact⟨v,h1,r,S',u,g',hΦ,h2,h3,h4⟩
  ·obtain⟨v,h1,u,g',h2,h3,h4⟩:=Ot (P:=P) (fn:=fn) hI hr hfin hC' hm0
   exact⟨v,h1,r,S',u,g',hΦ,h2,h3,h4⟩
 cases x with
 | nx=>subst hex;exact⟨hC'.defers,hres⟩
 | rt=>subst hex;exact⟨hC'.defers,hres⟩
 | ex id=>rcases hfin with hfin|hfin<;>exact hfin.1.elim
 | pn v=>rcases hfin with hfin|hfin<;>exact hfin.1.elim
theorem FnE.of_codeG {P:Program} (hmix:P.follows .mixedOrders=true) {f N:Nat} {c:EC} {rs:List RV} {vs:List V} {S:St} {Φ:V→St→Prop} {fl wl:Bool} (hE:Bd P f) (hc:ecG fl wl P f=some (N,c,rs)) (hlen:vs.length≤N)
  (h:bdVs vs→ewp P S.boxes.length S.toks.length c (V6 Φ rs S.boxes.length S.toks.length) (fr0 vs) S):FnE P f vs S Φ:=FnE.of_bd hE fun hb'=>by
 have h:=h hb'
 unfold ecG at hc
 split at hc
 ·rename_i fn hf
  split at hc
  ·rename_i code hb
   split at hc
   ·rename_i c' rs' h1 h2
    simp only [Option.some.injEq,Prod.mk.injEq] at hc
    obtain⟨rfl,rfl,rfl⟩:=hc
    exact FnE.of_ewp hmix hE hf hb rfl h1 h2 hlen h
   ·cases hc
  ·cases hc
 ·cases hc
theorem FnE.of_code {P:Program} (hmix:P.follows .mixedOrders=true) {f N:Nat} {c:EC} {rs:List RV} {vs:List V} {S:St} {Φ:V→St→Prop} (hE:Bd P f) (hc:ecF P f=some (N,c,rs)) (hlen:vs.length≤N)
  (h:bdVs vs→ewp P S.boxes.length S.toks.length c (V6 Φ rs S.boxes.length S.toks.length) (fr0 vs) S):FnE P f vs S Φ:=FnE.of_codeG hmix hE hc hlen h
theorem FnE.of_codeB {P:Program} (hmix:P.follows .mixedOrders=true) {f N:Nat} {c:EC} {rs:List RV} {vs:List V} {S:St} {Φ:V→St→Prop} (hE:Bd P f) (hc:ecB P f=some (N,c,rs)) (hlen:vs.length≤N)
  (h:bdVs vs→ewp P S.boxes.length S.toks.length c (V6 Φ rs S.boxes.length S.toks.length) (fr0 vs) S):FnE P f vs S Φ:=FnE.of_codeG hmix hE hc hlen h
theorem FnE.of {P:Program} {f:Nat} {vs:List V} {S S':St} {r:V} {Φ:V→St→Prop} (h:FnS P f vs S r S') (hΦ:Φ r S'):FnE P f vs S Φ:=
 ⟨h.1,fun g w us hI hus hrel=>(h.2 g w us hI hus hrel).mono fun e w' ⟨u,g',h1,h2,h3⟩=>⟨r,S',u,g',hΦ,h1,h2,h3⟩⟩
end E
end Go.Proofs.YtmlpmdccfmmpoaaGreat
