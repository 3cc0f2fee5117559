/- What rows that say what laid variables of the library read as have in common. -/
import Derived.Test.YtpggidmbnjfmaaaGreatDoorCodeM
import Derived.Test.YtpggidmbnjfmaaaGreatDoorRows
import Derived.Test.YtpggidmbnjfmaaaGreatDoorTie
import Derived.ProofKit
import Derived.Carry
import Derived.LaidMore
import Derived.OpenShut
import Derived.Stop.Joined
set_option linter.unusedSimpArgs false
set_option linter.unusedVariables false
namespace Go.Proofs.YtpggidmbnjfmaaaGreatDoor
open Go.ChangeShapes Go.WideShapes Go.ChangeAt Go.RowKit E

theorem pure_ends {P : Program} {f : Nat} {vs : List V} {b : Bool} (h : Pure P f vs (.t (.bool b))) (g : Gh) (w : World) (hI0 : Inv g St0 w) (hb : g.base = w.heap.size) (he : g.ent = [])
  (us : Array Value) (hs : us.size = vs.length) (hr : ∀ j, j < vs.length → RelV g [] (vs.getD j .und) (us.getD j undef)) :
  Calls P f us w fun e w' => e = .returned (.bool b) ∧ Below w.heap.size w w' := by
 refine (h.2 _ w us hI0 hs hr).mono fun e w' he' => ?_
 obtain ⟨u, g', rfl, hr, hm⟩ := he'
 refine ⟨?_, hm.frm.os, hm.frm.tape, hm.frm.output, hm.frm.size, fun k hk => hm.frm.block k (by omega) (by simp [he])⟩
 cases hr with
 | t x v h => cases h; rfl

theorem trodAll_below {H : Type} {enc : TypeId × Value → H} {P : Program} (hl : laidOutB P = true) {W W' : World} (hb : Below W.heap.size W W') : ∀ {ts : List TypeId} {vs : List Value} {ds : List (DataW H)} {ps : List MemPlace},
  (∀ t ∈ ts, P.readableRec t = true ∧ t < P.types.size) → (∀ x ∈ ps, x.block < W.heap.size) → DataW.TrodAll enc P W 0 (fun _ => true) true ts vs ds ps →
  DataW.TrodAll enc P W' 0 (fun b => decide (b < W.heap.size)) true ts vs ds ps
 | [], [], [], _, _, _, h => h
 | t :: ts, v :: vs, d :: ds, ps, ho, hp, ⟨p, q, h1, h2, e⟩ => by
  subst e
  exact ⟨p, q, Below.trod hl (ho t (by simp)).1 (ho t (by simp)).2 h1 hb (fun x hx => hp x (List.mem_append_left _ hx)),
   trodAll_below hl hb (fun t ht => ho t (by simp [ht])) (fun x hx => hp x (List.mem_append_right _ hx)) h2, rfl⟩

theorem trodAll_len {H : Type} {enc : TypeId × Value → H} {P : Program} {w : World} {base : Nat} {sp : Nat → Bool} {hd : Bool} : ∀ {ts : List TypeId} {vs : List Value} {ds : List (DataW H)} {ps : List MemPlace}, DataW.TrodAll enc P w base sp hd ts vs ds ps → ds.length = ts.length
 | [], [], [], _, _ => rfl
 | t :: ts, v :: vs, d :: ds, _, ⟨_, _, _, h, _⟩ => by simp [trodAll_len h]
theorem arr_getD (a : Array Value) (j : Nat) (d : Value) : a.toList.getD j d = a.getD j d := by simp [List.getD_eq_getElem?_getD, Array.getD_eq_getD_getElem?]
set_option maxRecDepth 100000 in
theorem Tryz.own : ownKnob Tryz.prog.godebug = none := by kernel_rfl
set_option maxRecDepth 100000 in
theorem Tryz.laidOut : laidOutB Tryz.prog = true := by kernel_rfl

end Go.Proofs.YtpggidmbnjfmaaaGreatDoor
