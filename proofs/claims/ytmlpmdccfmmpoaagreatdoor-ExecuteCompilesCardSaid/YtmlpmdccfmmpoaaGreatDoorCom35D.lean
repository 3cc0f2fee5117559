/- For every input, ExecuteCompiles returns true. -/
import Derived.Test.YtmlpmdccfmmpoaaGreatDoorMaps
import Derived.Test.YtmlpmdccfmmpoaaGreatDoorInf
import Derived.Test.YtmlpmdccfmmpoaaGreatDoorLco
import Derived.Test.YtmlpmdccfmmpoaaGreatDoorLay33
import Derived.Test.YtmlpmdccfmmpoaaGreatDoorCards
import Derived.Test.YtmlpmdccfmmpoaaGreatDoorTie
import Derived.SevenTiedAt
set_option linter.unusedSimpArgs false
set_option linter.unusedVariables false
namespace Go.Proofs.YtmlpmdccfmmpoaaGreatDoor
open Go.ChangeShapes Go.WideShapes Go.ChangeAt Go.RowKit E
set_option maxRecDepth 100000 in
theorem G2 (os:Os) (started:os.Started) (H:Type) (enc:TypeId×Value→H) :
  ReturnsInHanded {} Tryz.checked os 6 .any (fun w args=>(Rows.executeCompilesSpec.pre enc Tryz.prog Tryz.f6 [] false w args∧laidMetH Tryz.prog O0 w)∧sizedMet enc Tryz.prog Tryz.f6 (OpenSpec.ofChange Rows.executeCompilesSpec) false w args)
   (Rows.executeCompilesSpec.post enc Tryz.prog Tryz.f6 false true false false):=by
 refine Rx started O0 lay_of [] (by kernel_rfl) Tryz.func6
  (ChangeSpec.witness_shaped (enc:=enc) (C:=Tryz.checked) (os:=os) (X:=fun w _=>laidMetH Tryz.prog O0 w) false (World.doorLaid Tryz.prog 400 os) #[.slice none 0 0,.slice none 0 0,.slice none 0 0] 8 rfl (World.shaped_of_RefB (by kernel_rfl) (by kernel_rfl)) (by kernel_rfl) (by kernel_rfl) (by kernel_rfl) (A0w os _))
  rfl ?_ _ (by kernel_rfl) Tryz.underlying4 [36,35,34,32,31,24,22,25,98,61,72,70,3,96,9,4,78,189] (by kernel_rfl) (by kernel_rfl) (by kernel_rfl) ?_
 ·rw [Tryz.params6]
  intro ds hds
  match ds,hds with
  | [d0,d1,d2],_=>exact⟨rfl,rfl,rfl⟩
 ·rw [Tryz.params6]
  intro xs hx
  match xs,hx with
  | [x0,x1,x2],⟨h0,h1,h2,_⟩=>
   obtain⟨a0,e0,w0⟩:=A1q h0
   obtain⟨a1,e1,w1⟩:=Zz h1
   obtain⟨a2,e2,_⟩:=A4x h2
   simp only [Gl]
   rw [e0,e1,e2]
   exact Ub a0 a1 w1 a2

theorem executeCompiles_row:Rows.ExecuteCompilesSaid:=
 OpenClaim.holds_of_wide 6 Tryz.f6 rfl rfl rfl rfl rfl rfl rfl ⟨rfl,rfl,rfl,rfl,rfl⟩ rfl rfl rfl rfl rfl (by kernel_rfl) Tryz.func6 (by kernel_rfl)
  (of_decide_eq_true (by kernel_rfl)) (by unfold Func.isWrapper;first|(rw [if_pos (by decide +kernel)];kernel_rfl)|(rw [if_neg (by decide +kernel)];exact⟨rfl,rfl⟩))
  (fun os started H enc _=>G2 os started H enc)

theorem executeCompiles_holds:Rows.ExecuteCompilesCardSaid:=
 Claim7.holds_tied_plain_at .later [] [.listed, .data] true (true, "565e644baa9ac3d1d6acfb24517bcf831a91ab0690057c81ef8a4d7873dc597a") true
  executeCompiles_row (fun _ h=>by cases h) (by kernel_rfl) (fun _ h=>by cases h) executeCompiles_row_tie rfl ⟨rfl,rfl⟩ (by kernel_rfl) rfl
  (fun f fn hf hfn=>by
   obtain rfl : f = 6 := Option.some.inj ((show Tryz.prog.funcNamed "tallystone/tallystonelaw35.ExecuteCompiles" = some 6 by kernel_rfl).symm.trans hf) |>.symm
   obtain rfl:fn=Tryz.f6:=(Option.some.inj (Tryz.func6.symm.trans hfn)).symm
   exact⟨by kernel_rfl,fun j t ht=>by
    rw [Tryz.params6] at ht
    have hall:(([36,25,78]:List TypeId).all fun u=>!Tryz.prog.wantsStandIn u)=true:=by kernel_rfl
    exact (show Tryz.prog.wantsStandIn t=false by simpa using List.all_eq_true.1 hall t (by simpa using Array.mem_of_getElem? ht))⟩)
  (by kernel_rfl)
end Go.Proofs.YtmlpmdccfmmpoaaGreatDoor
