/- For every input, ExecuteInterprets returns true. -/
import Derived.Test.YtmlpmdccfmmpoaaGreatDoorSye
import Derived.Test.YtmlpmdccfmmpoaaGreatDoorInP
import Derived.Test.YtmlpmdccfmmpoaaGreatDoorInf
import Derived.Test.YtmlpmdccfmmpoaaGreatDoorLip
import Derived.Test.YtmlpmdccfmmpoaaGreatDoorLay33
import Derived.Test.YtmlpmdccfmmpoaaGreatDoorCards
import Derived.Test.YtmlpmdccfmmpoaaGreatDoorTie
import Derived.SevenTiedAt
set_option linter.unusedSimpArgs false
set_option linter.unusedVariables false
namespace Go.Proofs.YtmlpmdccfmmpoaaGreatDoor
open Go.ChangeShapes Go.WideShapes Go.ChangeAt Go.RowKit E
set_option maxRecDepth 100000 in
theorem Fh (os:Os) (started:os.Started) (H:Type) (enc:TypeId×Value→H) :
  ReturnsInHanded {} Tryz.checked os 4 .any (fun w args=>(Rows.executeInterpretsSpec.pre enc Tryz.prog Tryz.f4 [] false w args∧laidMetH Tryz.prog O1 w)∧sizedMet enc Tryz.prog Tryz.f4 (OpenSpec.ofChange Rows.executeInterpretsSpec) false w args)
   (Rows.executeInterpretsSpec.post enc Tryz.prog Tryz.f4 false true false false):=by
 refine Sa started O1 lay_of [] (by kernel_rfl) Tryz.func4
  (ChangeSpec.witness_shaped (enc:=enc) (C:=Tryz.checked) (os:=os) (X:=fun w _=>laidMetH Tryz.prog O1 w) false (World.doorLaid Tryz.prog 400 os) #[.slice none 0 0,.slice none 0 0] 8 rfl (World.shaped_of_RefB (by kernel_rfl) (by kernel_rfl)) (by kernel_rfl) (by kernel_rfl) (by kernel_rfl) (A1a os _))
  rfl ?_ _ (by kernel_rfl) Tryz.underlying4 [36,35,34,32,31,24,22,25,98,61,72,70,3,96,9,4] (by kernel_rfl) (by kernel_rfl) (by kernel_rfl) ?_
 ·rw [Tryz.params4]
  intro ds hds
  match ds,hds with
  | [d0,d1],_=>exact⟨rfl,rfl,rfl⟩
 ·rw [Tryz.params4]
  intro xs hx
  match xs,hx with
  | [x0,x1],⟨h0,h1,_⟩=>
   obtain⟨a0,e0,w0⟩:=A21 h0
   obtain⟨a1,e1,w1⟩:=A08 h1
   simp only [Gw]
   rw [e0,e1]
   exact Pf a0 (fun r hr=>Rul.ok_of (w0 r hr)) a1 w1

theorem executeInterprets_row:Rows.ExecuteInterpretsSaid:=
 OpenClaim.holds_of_wide 4 Tryz.f4 rfl rfl rfl rfl rfl rfl rfl ⟨rfl,rfl,rfl,rfl,rfl⟩ rfl rfl rfl rfl rfl (by kernel_rfl) Tryz.func4 (by kernel_rfl)
  (of_decide_eq_true (by kernel_rfl)) (by unfold Func.isWrapper;first|(rw [if_pos (by decide +kernel)];kernel_rfl)|(rw [if_neg (by decide +kernel)];exact⟨rfl,rfl⟩))
  (fun os started H enc _=>Fh os started H enc)

theorem executeInterprets_holds:Rows.ExecuteInterpretsCardSaid:=
 Claim7.holds_tied_plain_at .later [] [.listed, .data] true (true, "565e644baa9ac3d1d6acfb24517bcf831a91ab0690057c81ef8a4d7873dc597a") true
  executeInterprets_row (fun _ h=>by cases h) (by kernel_rfl) (fun _ h=>by cases h) executeInterprets_row_tie rfl ⟨rfl,rfl⟩ (by kernel_rfl) rfl
  (fun f fn hf hfn=>by
   obtain rfl : f = 4 := Option.some.inj ((show Tryz.prog.funcNamed "tallystone/tallystonelaw35.ExecuteInterprets" = some 4 by kernel_rfl).symm.trans hf) |>.symm
   obtain rfl:fn=Tryz.f4:=(Option.some.inj (Tryz.func4.symm.trans hfn)).symm
   exact⟨by kernel_rfl,fun j t ht=>by
    rw [Tryz.params4] at ht
    have hall:(([36,25]:List TypeId).all fun u=>!Tryz.prog.wantsStandIn u)=true:=by kernel_rfl
    exact (show Tryz.prog.wantsStandIn t=false by simpa using List.all_eq_true.1 hall t (by simpa using Array.mem_of_getElem? ht))⟩)
  (by kernel_rfl)
end Go.Proofs.YtmlpmdccfmmpoaaGreatDoor
