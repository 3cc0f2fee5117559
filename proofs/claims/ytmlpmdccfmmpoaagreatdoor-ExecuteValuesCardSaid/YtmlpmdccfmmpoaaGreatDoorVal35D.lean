/- For every input, ExecuteValues returns true. -/
import Derived.Test.YtmlpmdccfmmpoaaGreatDoorMaps
import Derived.Test.YtmlpmdccfmmpoaaGreatDoorInf
import Derived.Test.YtmlpmdccfmmpoaaGreatDoorLva
import Derived.Test.YtmlpmdccfmmpoaaGreatDoorLay33
import Derived.Test.YtmlpmdccfmmpoaaGreatDoorCards
import Derived.Test.YtmlpmdccfmmpoaaGreatDoorTie
import Derived.SevenTiedAt
set_option linter.unusedSimpArgs false
set_option linter.unusedVariables false
namespace Go.Proofs.YtmlpmdccfmmpoaaGreatDoor
open Go.ChangeShapes Go.WideShapes Go.ChangeAt Go.RowKit E
set_option maxRecDepth 100000 in
theorem Fs (os:Os) (started:os.Started) (H:Type) (enc:TypeId×Value→H) :
  ReturnsInHanded {} Tryz.checked os 3 .any (fun w args=>(Rows.executeValuesSpec.pre enc Tryz.prog Tryz.f3 [] false w args∧laidMetH Tryz.prog Lt w)∧sizedMet enc Tryz.prog Tryz.f3 (OpenSpec.ofChange Rows.executeValuesSpec) false w args)
   (Rows.executeValuesSpec.post enc Tryz.prog Tryz.f3 false true false false):=by
 refine Pi started Lt lay_of [] (by kernel_rfl) Tryz.func3
  (ChangeSpec.witness_shaped (enc:=enc) (C:=Tryz.checked) (os:=os) (X:=fun w _=>laidMetH Tryz.prog Lt w) false (World.doorLaid Tryz.prog 400 os) #[.agg #[.int .i64 0,.int .i64 0,.int .i64 0,.int .i64 0,.string ⟨#[]⟩,.slice none 0 0],.slice none 0 0,.agg #[.int .i64 0,.int .i64 0,.int .i64 0]] 8 rfl (World.shaped_of_RefB (by kernel_rfl) (by kernel_rfl)) (by kernel_rfl) (by kernel_rfl) (by kernel_rfl) (Xy os _))
  rfl ?_ _ (by kernel_rfl) Tryz.underlying4 [24,22,25,98,61,72,70,27,3,96,9,4] (by kernel_rfl) (by kernel_rfl) (by kernel_rfl) ?_
 ·rw [Tryz.params3]
  intro ds hds
  match ds,hds with
  | [d0,d1,d2],_=>exact⟨rfl,rfl,rfl⟩
 ·rw [Tryz.params3]
  intro xs hx
  match xs,hx with
  | [x0,x1,x2],⟨h0,h1,h2,_⟩=>
   obtain⟨a0,e0,w0⟩:=A1p h0
   obtain⟨a1,e1,w1⟩:=X1 h1
   obtain⟨a2,a3,a4,e2,_⟩:=X2 h2
   simp only [Fj]
   rw [e0,e1,e2]
   exact Xv a0 (Xp.ok_of w0) a1 w1 a2 a3 a4

theorem executeValues_row:Rows.ExecuteValuesSaid:=
 OpenClaim.holds_of_wide 3 Tryz.f3 rfl rfl rfl rfl rfl rfl rfl ⟨rfl,rfl,rfl,rfl,rfl⟩ rfl rfl rfl rfl rfl (by kernel_rfl) Tryz.func3 (by kernel_rfl)
  (of_decide_eq_true (by kernel_rfl)) (by unfold Func.isWrapper;first|(rw [if_pos (by decide +kernel)];kernel_rfl)|(rw [if_neg (by decide +kernel)];exact⟨rfl,rfl⟩))
  (fun os started H enc _=>Fs os started H enc)

theorem executeValues_holds:Rows.ExecuteValuesCardSaid:=
 Claim7.holds_tied_plain_at .later [] [.listed, .data] true (true, "565e644baa9ac3d1d6acfb24517bcf831a91ab0690057c81ef8a4d7873dc597a") true
  executeValues_row (fun _ h=>by cases h) (by kernel_rfl) (fun _ h=>by cases h) executeValues_row_tie rfl ⟨rfl,rfl⟩ (by kernel_rfl) rfl
  (fun f fn hf hfn=>by
   obtain rfl : f = 3 := Option.some.inj ((show Tryz.prog.funcNamed "tallystone/tallystonelaw35.ExecuteValues" = some 3 by kernel_rfl).symm.trans hf) |>.symm
   obtain rfl:fn=Tryz.f3:=(Option.some.inj (Tryz.func3.symm.trans hfn)).symm
   exact⟨by kernel_rfl,fun j t ht=>by
    rw [Tryz.params3] at ht
    have hall:(([24,25,27]:List TypeId).all fun u=>!Tryz.prog.wantsStandIn u)=true:=by kernel_rfl
    exact (show Tryz.prog.wantsStandIn t=false by simpa using List.all_eq_true.1 hall t (by simpa using Array.mem_of_getElem? ht))⟩)
  (by kernel_rfl)
end Go.Proofs.YtmlpmdccfmmpoaaGreatDoor
