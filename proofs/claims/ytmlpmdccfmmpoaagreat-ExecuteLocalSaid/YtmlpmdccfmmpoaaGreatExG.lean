/- Chapter 35: what slices.IndexFunc and ContainsFunc of items, codes and sources return, whatever function they are handed. -/
import Derived.Test.YtmlpmdccfmmpoaaGreatExM
import Derived.Test.YtmlpmdccfmmpoaaGreatSlices
set_option linter.unusedSimpArgs false
set_option linter.unusedVariables false
set_option maxHeartbeats 400000
set_option maxRecDepth 8000
namespace Go.Proofs.YtmlpmdccfmmpoaaGreat
open E
attribute [local simp] Src.l Src.v Src.c rC

theorem Ta (S:St) (hS:OkS S) (l:List Item) (f:Nat) (caps:List V) (hcp:okNs S.boxes.length S.toks.length caps=true) (q:Item→Bool) (h : ∀x∈l,FnS Tryz.prog f ((Item.v x)::caps) S (.t (.bool (q x))) S) :
    FnS Tryz.prog 57 [(Item.l l),.fn (.func f) caps] S (.t (.int .i64 (G8 q l))) S:=by
  (refine FnS.of_code mix Tryz.call57 k_57 (by simp) (fun hB=>?_);(try simp at hB);(try simp -implicitDefEqProofs))
  refine Ac (X:=Nat) (fun k=>k≤l.length∧∀y∈l.take k,q y=false) (fun k=>[(0,(Item.l l)),(1,.fn (.func f) caps),(7,vI l.length),(8,vI k)]) (fun _=>S) (fun k=>l.length-k) 0 ⟨by simp,by simp⟩ ?_ ?_
  · have:=hS;simp [OkS] at this;simp [this,hcp]
  rintro k ⟨hk,hn⟩ hbd
  rcases Nat.lt_or_ge k l.length with hlt|hge
  · have hx:l[k]?=some l[k]:=by simp [hlt]
    have hc:=h l[k] (List.getElem_mem hlt)
    have e3:IntKind.i64.wrap ((k:Int)+1)=(k:Int)+1:=wrap64 (by omega) (by simp [maxLen] at hB;omega)
    cases hq:q l[k]
    · rw [hq] at hc
      (try simp at hc)
      ((try simp -implicitDefEqProofs [hlt,e3]);repeat' first|((with_reducible first|apply Af|apply Ag|apply A8)<;>(intro hc;have hc':=hc;(try simp at hc');simp -implicitDefEqProofs [hc,hc',hlt,e3])))
      refine Ab hc ?_
      ((try simp -implicitDefEqProofs [hlt,e3]);repeat' first|((with_reducible first|apply Af|apply Ag|apply A8)<;>(intro hc;have hc':=hc;(try simp at hc');simp -implicitDefEqProofs [hc,hc',hlt,e3])))
      have hS':=hS
      simp [OkS] at hS'
      refine⟨k+1,⟨by omega,fun y hy=>?_⟩,by omega,?_⟩
      · first|rw [Aq hx] at hy|(have hy':=hy;rw [←List.map_take] at hy';rw [Aq hx] at hy)
        rcases List.mem_append.1 hy with h1|h1
        · exact hn y h1
        · simp at h1;subst h1;exact hq
      · simp [hS',hcp];try omega
    · rw [hq] at hc
      (try simp at hc)
      rw [Hp hx hn hq]
      ((try simp -implicitDefEqProofs [hlt,e3]);repeat' first|((with_reducible first|apply Af|apply Ag|apply A8)<;>(intro hc;have hc':=hc;(try simp at hc');simp -implicitDefEqProofs [hc,hc',hlt,e3])))
      refine Ab hc ?_
      have hS':=hS
      simp [OkS] at hS'
      ((try simp -implicitDefEqProofs [hlt,e3,hS']);repeat' first|((with_reducible first|apply Af|apply Ag|apply A8)<;>(intro hc;have hc':=hc;(try simp at hc');simp -implicitDefEqProofs [hc,hc',hlt,e3,hS'])))
  · have:k=l.length:=by omega
    subst this
    rw [List.take_length] at hn
    rw [Im hn]
    have hS':=hS
    simp [OkS] at hS'
    ((try simp -implicitDefEqProofs [hS']);repeat' first|((with_reducible first|apply Af|apply Ag|apply A8)<;>(intro hc;have hc':=hc;(try simp at hc');simp -implicitDefEqProofs [hc,hc',hS'])))

theorem Mk (S:St) (hS:OkS S) (l:List Item) (f:Nat) (caps:List V) (hcp:okNs S.boxes.length S.toks.length caps=true) (q:Item→Bool) (h : ∀x∈l,FnS Tryz.prog f ((Item.v x)::caps) S (.t (.bool (q x))) S) :
    FnS Tryz.prog 33 [(Item.l l),.fn (.func f) caps] S (.t (.bool (l.any q))) S:=by
  have hi:=Ta S hS l f caps hcp q h
  rw [←Lx]
  (try simp at hi)
  (refine FnS.of_code mix Tryz.call33 k_33 (by simp) (fun hB=>?_);(try simp at hB);(try simp -implicitDefEqProofs))
  refine Ab hi ?_
  have hS':=hS
  simp [OkS] at hS'
  ((try simp -implicitDefEqProofs [hS']);repeat' first|((with_reducible first|apply Af|apply Ag|apply A8)<;>(intro hc;have hc':=hc;(try simp at hc');simp -implicitDefEqProofs [hc,hc',hS'])))


theorem Tb (S:St) (hS:OkS S) (l:List Code) (f:Nat) (caps:List V) (hcp:okNs S.boxes.length S.toks.length caps=true) (q:Code→Bool) (h : ∀x∈l,FnS Tryz.prog f ((Code.v x)::caps) S (.t (.bool (q x))) S) :
    FnS Tryz.prog 43 [(Code.l l),.fn (.func f) caps] S (.t (.int .i64 (G8 q l))) S:=by
  (refine FnS.of_code mix Tryz.call43 k_43 (by simp) (fun hB=>?_);(try simp at hB);(try simp -implicitDefEqProofs))
  refine Ac (X:=Nat) (fun k=>k≤l.length∧∀y∈l.take k,q y=false) (fun k=>[(0,(Code.l l)),(1,.fn (.func f) caps),(7,vI l.length),(8,vI k)]) (fun _=>S) (fun k=>l.length-k) 0 ⟨by simp,by simp⟩ ?_ ?_
  · have:=hS;simp [OkS] at this;simp [this,hcp]
  rintro k ⟨hk,hn⟩ hbd
  rcases Nat.lt_or_ge k l.length with hlt|hge
  · have hx:l[k]?=some l[k]:=by simp [hlt]
    have hc:=h l[k] (List.getElem_mem hlt)
    have e3:IntKind.i64.wrap ((k:Int)+1)=(k:Int)+1:=wrap64 (by omega) (by simp [maxLen] at hB;omega)
    cases hq:q l[k]
    · rw [hq] at hc
      (try simp at hc)
      ((try simp -implicitDefEqProofs [hlt,e3]);repeat' first|((with_reducible first|apply Af|apply Ag|apply A8)<;>(intro hc;have hc':=hc;(try simp at hc');simp -implicitDefEqProofs [hc,hc',hlt,e3])))
      refine Ab hc ?_
      ((try simp -implicitDefEqProofs [hlt,e3]);repeat' first|((with_reducible first|apply Af|apply Ag|apply A8)<;>(intro hc;have hc':=hc;(try simp at hc');simp -implicitDefEqProofs [hc,hc',hlt,e3])))
      have hS':=hS
      simp [OkS] at hS'
      refine⟨k+1,⟨by omega,fun y hy=>?_⟩,by omega,?_⟩
      · first|rw [Aq hx] at hy|(have hy':=hy;rw [←List.map_take] at hy';rw [Aq hx] at hy)
        rcases List.mem_append.1 hy with h1|h1
        · exact hn y h1
        · simp at h1;subst h1;exact hq
      · simp [hS',hcp];try omega
    · rw [hq] at hc
      (try simp at hc)
      rw [Hp hx hn hq]
      ((try simp -implicitDefEqProofs [hlt,e3]);repeat' first|((with_reducible first|apply Af|apply Ag|apply A8)<;>(intro hc;have hc':=hc;(try simp at hc');simp -implicitDefEqProofs [hc,hc',hlt,e3])))
      refine Ab hc ?_
      have hS':=hS
      simp [OkS] at hS'
      ((try simp -implicitDefEqProofs [hlt,e3,hS']);repeat' first|((with_reducible first|apply Af|apply Ag|apply A8)<;>(intro hc;have hc':=hc;(try simp at hc');simp -implicitDefEqProofs [hc,hc',hlt,e3,hS'])))
  · have:k=l.length:=by omega
    subst this
    rw [List.take_length] at hn
    rw [Im hn]
    have hS':=hS
    simp [OkS] at hS'
    ((try simp -implicitDefEqProofs [hS']);repeat' first|((with_reducible first|apply Af|apply Ag|apply A8)<;>(intro hc;have hc':=hc;(try simp at hc');simp -implicitDefEqProofs [hc,hc',hS'])))

theorem He (S:St) (hS:OkS S) (l:List Code) (f:Nat) (caps:List V) (hcp:okNs S.boxes.length S.toks.length caps=true) (q:Code→Bool) (h : ∀x∈l,FnS Tryz.prog f ((Code.v x)::caps) S (.t (.bool (q x))) S) :
    FnS Tryz.prog 24 [(Code.l l),.fn (.func f) caps] S (.t (.bool (l.any q))) S:=by
  have hi:=Tb S hS l f caps hcp q h
  rw [←Lx]
  (try simp at hi)
  (refine FnS.of_code mix Tryz.call24 k_24 (by simp) (fun hB=>?_);(try simp at hB);(try simp -implicitDefEqProofs))
  refine Ab hi ?_
  have hS':=hS
  simp [OkS] at hS'
  ((try simp -implicitDefEqProofs [hS']);repeat' first|((with_reducible first|apply Af|apply Ag|apply A8)<;>(intro hc;have hc':=hc;(try simp at hc');simp -implicitDefEqProofs [hc,hc',hS'])))


theorem Tc (S:St) (hS:OkS S) (l:List Src) (f:Nat) (caps:List V) (hcp:okNs S.boxes.length S.toks.length caps=true) (q:Src→Bool) (h : ∀x∈l,FnS Tryz.prog f ((Src.v x)::caps) S (.t (.bool (q x))) S) :
    FnS Tryz.prog 59 [(Src.l l),.fn (.func f) caps] S (.t (.int .i64 (G8 q l))) S:=by
  (refine FnS.of_code mix Tryz.call59 k_59 (by simp) (fun hB=>?_);(try simp at hB);(try simp -implicitDefEqProofs))
  refine Ac (X:=Nat) (fun k=>k≤l.length∧∀y∈l.take k,q y=false) (fun k=>[(0,(Src.l l)),(1,.fn (.func f) caps),(7,vI l.length),(8,vI k)]) (fun _=>S) (fun k=>l.length-k) 0 ⟨by simp,by simp⟩ ?_ ?_
  · have:=hS;simp [OkS] at this;simp [this,hcp]
  rintro k ⟨hk,hn⟩ hbd
  rcases Nat.lt_or_ge k l.length with hlt|hge
  · have hx:l[k]?=some l[k]:=by simp [hlt]
    have hc:=h l[k] (List.getElem_mem hlt)
    have e3:IntKind.i64.wrap ((k:Int)+1)=(k:Int)+1:=wrap64 (by omega) (by simp [maxLen] at hB;omega)
    cases hq:q l[k]
    · rw [hq] at hc
      (try simp at hc)
      ((try simp -implicitDefEqProofs [hlt,e3]);repeat' first|((with_reducible first|apply Af|apply Ag|apply A8)<;>(intro hc;have hc':=hc;(try simp at hc');simp -implicitDefEqProofs [hc,hc',hlt,e3])))
      refine Ab hc ?_
      ((try simp -implicitDefEqProofs [hlt,e3]);repeat' first|((with_reducible first|apply Af|apply Ag|apply A8)<;>(intro hc;have hc':=hc;(try simp at hc');simp -implicitDefEqProofs [hc,hc',hlt,e3])))
      have hS':=hS
      simp [OkS] at hS'
      refine⟨k+1,⟨by omega,fun y hy=>?_⟩,by omega,?_⟩
      · first|rw [Aq hx] at hy|(have hy':=hy;rw [←List.map_take] at hy';rw [Aq hx] at hy)
        rcases List.mem_append.1 hy with h1|h1
        · exact hn y h1
        · simp at h1;subst h1;exact hq
      · simp [hS',hcp];try omega
    · rw [hq] at hc
      (try simp at hc)
      rw [Hp hx hn hq]
      ((try simp -implicitDefEqProofs [hlt,e3]);repeat' first|((with_reducible first|apply Af|apply Ag|apply A8)<;>(intro hc;have hc':=hc;(try simp at hc');simp -implicitDefEqProofs [hc,hc',hlt,e3])))
      refine Ab hc ?_
      have hS':=hS
      simp [OkS] at hS'
      ((try simp -implicitDefEqProofs [hlt,e3,hS']);repeat' first|((with_reducible first|apply Af|apply Ag|apply A8)<;>(intro hc;have hc':=hc;(try simp at hc');simp -implicitDefEqProofs [hc,hc',hlt,e3,hS'])))
  · have:k=l.length:=by omega
    subst this
    rw [List.take_length] at hn
    rw [Im hn]
    have hS':=hS
    simp [OkS] at hS'
    ((try simp -implicitDefEqProofs [hS']);repeat' first|((with_reducible first|apply Af|apply Ag|apply A8)<;>(intro hc;have hc':=hc;(try simp at hc');simp -implicitDefEqProofs [hc,hc',hS'])))


end Go.Proofs.YtmlpmdccfmmpoaaGreat
