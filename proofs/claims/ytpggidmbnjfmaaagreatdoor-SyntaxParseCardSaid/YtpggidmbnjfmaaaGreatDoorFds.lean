/- strings.Fields of the text of the double marks. -/
import Derived.Test.YtpggidmbnjfmaaaGreatDoorTok
set_option linter.unusedSimpArgs false
set_option linter.unusedVariables false
set_option maxHeartbeats 4000000
set_option maxRecDepth 8000
namespace Go.Proofs.YtpggidmbnjfmaaaGreatDoor
open E

def dblS : List UInt8 := [46, 46, 32, 60, 61, 32, 62, 61, 32, 33, 61]
def dblL : List (List UInt8) := [[46, 46], [60, 61], [62, 61], [33, 61]]
def ascT : List T := (List.range 256).map fun i => T.int .u8 (if i = 9 ∨ i = 10 ∨ i = 11 ∨ i = 12 ∨ i = 13 ∨ i = 32 then 1 else 0)
theorem asc_tp : laidTp 0 = .tp ascT 0 := by
 have : laidE 0 = some ascT := by kernel_rfl
 unfold laidTp
 rw [this]; rfl
def f1 (k : Nat) : Int × Int × Int := [((0 : Int), (1 : Int), (0 : Int)), (1, 0, 46), (1, 0, 46), (1, 1, 46), (2, 0, 62), (2, 0, 63), (2, 1, 63), (3, 0, 63), (3, 0, 63), (3, 1, 63), (4, 0, 63), (4, 0, 63)].getD k (0, 0, 0)

def f3 (k : Nat) : Int × Int × List (List UInt8) := [((0 : Int), (0 : Int), [[], [], [], []]), ((0 : Int), (0 : Int), [[], [], [], []]), ((0 : Int), (0 : Int), [[], [], [], []]), ((1 : Int), (3 : Int), [[46, 46], [], [], []]), ((1 : Int), (3 : Int), [[46, 46], [], [], []]), ((1 : Int), (3 : Int), [[46, 46], [], [], []]), ((2 : Int), (6 : Int), [[46, 46], [60, 61], [], []]), ((2 : Int), (6 : Int), [[46, 46], [60, 61], [], []]), ((2 : Int), (6 : Int), [[46, 46], [60, 61], [], []]), ((3 : Int), (9 : Int), [[46, 46], [60, 61], [62, 61], []]), ((3 : Int), (9 : Int), [[46, 46], [60, 61], [62, 61], []]), ((3 : Int), (9 : Int), [[46, 46], [60, 61], [62, 61], []])].getD k (0, 0, [])
theorem w_fields : Pure Tryz.prog 104 [vS dblS] (.t (.sl (dblL.map fun x => [T.str x]))) := by
 have hA := asc_tp
 have h256 : ascT.length = 256 := by kernel_rfl
 have g46 : ascT[46]? = some (.int .u8 0) := by kernel_rfl
 have g32 : ascT[32]? = some (.int .u8 1) := by kernel_rfl
 have g60 : ascT[60]? = some (.int .u8 0) := by kernel_rfl
 have g61 : ascT[61]? = some (.int .u8 0) := by kernel_rfl
 have g62 : ascT[62]? = some (.int .u8 0) := by kernel_rfl
 have g33 : ascT[33]? = some (.int .u8 0) := by kernel_rfl
 have x0 : bitI .xor .i64 (-1) 0 = -1 := by decide
 have x1 : bitI .xor .i64 (-1) 1 = -2 := by decide
 have a0 : bitI .and .i64 0 (-1) = 0 := by decide
 have a1 : bitI .and .i64 1 (-1) = 1 := by decide
 have a2 : bitI .and .i64 0 (-2) = 0 := by decide
 have o1 : bitI .or .u8 0 46 = 46 := by decide
 have o2 : bitI .or .u8 46 46 = 46 := by decide
 have o3 : bitI .or .u8 46 32 = 46 := by decide
 have o4 : bitI .or .u8 46 60 = 62 := by decide
 have o5 : bitI .or .u8 62 61 = 63 := by decide
 have o6 : bitI .or .u8 63 32 = 63 := by decide
 have o7 : bitI .or .u8 63 62 = 63 := by decide
 have o8 : bitI .or .u8 63 61 = 63 := by decide
 have o9 : bitI .or .u8 63 33 = 63 := by decide
 generalize ascT = AS at *
 have q46 : ∀ h : 46 < AS.length, AS[46]'h = .int .u8 0 := fun h => by rw [List.getElem?_eq_getElem h] at g46; exact Option.some.inj g46
 have q32 : ∀ h : 32 < AS.length, AS[32]'h = .int .u8 1 := fun h => by rw [List.getElem?_eq_getElem h] at g32; exact Option.some.inj g32
 have q60 : ∀ h : 60 < AS.length, AS[60]'h = .int .u8 0 := fun h => by rw [List.getElem?_eq_getElem h] at g60; exact Option.some.inj g60
 have q61 : ∀ h : 61 < AS.length, AS[61]'h = .int .u8 0 := fun h => by rw [List.getElem?_eq_getElem h] at g61; exact Option.some.inj g61
 have q62 : ∀ h : 62 < AS.length, AS[62]'h = .int .u8 0 := fun h => by rw [List.getElem?_eq_getElem h] at g62; exact Option.some.inj g62
 have q33 : ∀ h : 33 < AS.length, AS[33]'h = .int .u8 0 := fun h => by rw [List.getElem?_eq_getElem h] at g33; exact Option.some.inj g33
 have sg : IntKind.i64.signed = true := rfl
 generalize hs : dblS = s at *
 have hl : s.length = 11 := by rw [← hs]; rfl
 (refine Pure.of_code mix Tryz.call104 k_104 (by simp) (fun hB => ?_); (try simp at hB); (try simp -implicitDefEqProofs [qc_104]))
 refine loop_rule (X := Nat) (fun k => k ≤ 11) (fun k => [(0, vS s), (3, vI (f1 k).1), (4, vI (f1 k).2.1), (5, .t (.int .u8 (f1 k).2.2)), (6, vI k)]) (fun _ => St0) (fun k => 11 - k) 0 (by omega) (by simp [f1]) ?_
 rintro k hk hbd
 clear hbd
 rcases (by omega : k = 0 ∨ k = 1 ∨ k = 2 ∨ k = 3 ∨ k = 4 ∨ k = 5 ∨ k = 6 ∨ k = 7 ∨ k = 8 ∨ k = 9 ∨ k = 10 ∨ k = 11) with rfl | rfl | rfl | rfl | rfl | rfl | rfl | rfl | rfl | rfl | rfl | rfl
 ·have hb : byteAt s 0 = 46 := by rw [← hs]; rfl
  (try simp -implicitDefEqProofs [hb, f1, hl, hA, h256, q46, q32, q60, q61, q62, q33, sg, x0, x1, a0, a1, a2, o1, o2, o3, o4, o5, o6, o7, o8, o9])
  exact ⟨1, by omega, by omega, rfl, rfl, rfl, rfl⟩
 ·have hb : byteAt s 1 = 46 := by rw [← hs]; rfl
  (try simp -implicitDefEqProofs [hb, f1, hl, hA, h256, q46, q32, q60, q61, q62, q33, sg, x0, x1, a0, a1, a2, o1, o2, o3, o4, o5, o6, o7, o8, o9])
  exact ⟨2, by omega, by omega, rfl, rfl, rfl, rfl⟩
 ·have hb : byteAt s 2 = 32 := by rw [← hs]; rfl
  (try simp -implicitDefEqProofs [hb, f1, hl, hA, h256, q46, q32, q60, q61, q62, q33, sg, x0, x1, a0, a1, a2, o1, o2, o3, o4, o5, o6, o7, o8, o9])
  exact ⟨3, by omega, by omega, rfl, rfl, rfl, rfl⟩
 ·have hb : byteAt s 3 = 60 := by rw [← hs]; rfl
  (try simp -implicitDefEqProofs [hb, f1, hl, hA, h256, q46, q32, q60, q61, q62, q33, sg, x0, x1, a0, a1, a2, o1, o2, o3, o4, o5, o6, o7, o8, o9])
  exact ⟨4, by omega, by omega, rfl, rfl, rfl, rfl⟩
 ·have hb : byteAt s 4 = 61 := by rw [← hs]; rfl
  (try simp -implicitDefEqProofs [hb, f1, hl, hA, h256, q46, q32, q60, q61, q62, q33, sg, x0, x1, a0, a1, a2, o1, o2, o3, o4, o5, o6, o7, o8, o9])
  exact ⟨5, by omega, by omega, rfl, rfl, rfl, rfl⟩
 ·have hb : byteAt s 5 = 32 := by rw [← hs]; rfl
  (try simp -implicitDefEqProofs [hb, f1, hl, hA, h256, q46, q32, q60, q61, q62, q33, sg, x0, x1, a0, a1, a2, o1, o2, o3, o4, o5, o6, o7, o8, o9])
  exact ⟨6, by omega, by omega, rfl, rfl, rfl, rfl⟩
 ·have hb : byteAt s 6 = 62 := by rw [← hs]; rfl
  (try simp -implicitDefEqProofs [hb, f1, hl, hA, h256, q46, q32, q60, q61, q62, q33, sg, x0, x1, a0, a1, a2, o1, o2, o3, o4, o5, o6, o7, o8, o9])
  exact ⟨7, by omega, by omega, rfl, rfl, rfl, rfl⟩
 ·have hb : byteAt s 7 = 61 := by rw [← hs]; rfl
  (try simp -implicitDefEqProofs [hb, f1, hl, hA, h256, q46, q32, q60, q61, q62, q33, sg, x0, x1, a0, a1, a2, o1, o2, o3, o4, o5, o6, o7, o8, o9])
  exact ⟨8, by omega, by omega, rfl, rfl, rfl, rfl⟩
 ·have hb : byteAt s 8 = 32 := by rw [← hs]; rfl
  (try simp -implicitDefEqProofs [hb, f1, hl, hA, h256, q46, q32, q60, q61, q62, q33, sg, x0, x1, a0, a1, a2, o1, o2, o3, o4, o5, o6, o7, o8, o9])
  exact ⟨9, by omega, by omega, rfl, rfl, rfl, rfl⟩
 ·have hb : byteAt s 9 = 33 := by rw [← hs]; rfl
  (try simp -implicitDefEqProofs [hb, f1, hl, hA, h256, q46, q32, q60, q61, q62, q33, sg, x0, x1, a0, a1, a2, o1, o2, o3, o4, o5, o6, o7, o8, o9])
  exact ⟨10, by omega, by omega, rfl, rfl, rfl, rfl⟩
 ·have hb : byteAt s 10 = 61 := by rw [← hs]; rfl
  (try simp -implicitDefEqProofs [hb, f1, hl, hA, h256, q46, q32, q60, q61, q62, q33, sg, x0, x1, a0, a1, a2, o1, o2, o3, o4, o5, o6, o7, o8, o9])
  exact ⟨11, by omega, by omega, rfl, rfl, rfl, rfl⟩
 ·(try simp -implicitDefEqProofs [f1, hl, hA, h256])
  refine ⟨by simp [maxLen], ?_⟩
  refine loop_rule (X := Unit) (fun _ => True) (fun _ => [(0, vS s), (9, .bw 0 4), (10, vI 0), (11, vI 0), (12, vI 0)]) (fun _ => ⟨[.buf 9 1 [vS [], vS [], vS [], vS []]], []⟩) (fun _ => 0) () trivial (by simp) ?_
  rintro ⟨⟩ _ _
  have hb : byteAt s 0 = 46 := by rw [← hs]; rfl
  (try simp -implicitDefEqProofs [hb, hl, hA, h256, q46, q32, q60, q61, q62, q33])
  clear hb
  refine loop_rule (X := Nat) (fun k => k ≤ 11) (fun k => [(0, vS s), (9, .bw 0 4), (10, vI (f3 k).1), (11, vI (f3 k).2.1), (12, vI k)]) (fun k => ⟨[.buf 9 1 ((f3 k).2.2.map fun x => vS x)], []⟩) (fun k => 11 - k) 0 (by omega) (by simp [f3]) ?_
  rintro k hk hbd
  clear hbd
  rcases (by omega : k = 0 ∨ k = 1 ∨ k = 2 ∨ k = 3 ∨ k = 4 ∨ k = 5 ∨ k = 6 ∨ k = 7 ∨ k = 8 ∨ k = 9 ∨ k = 10 ∨ k = 11) with rfl | rfl | rfl | rfl | rfl | rfl | rfl | rfl | rfl | rfl | rfl | rfl
  ·have hb : byteAt s 0 = 46 := by rw [← hs]; rfl
   (try simp -implicitDefEqProofs [f3, hb, hl, hA, h256, q46, q32, q60, q61, q62, q33])
   refine ⟨1, by omega, by omega, ?_⟩
   simp
  ·have hb : byteAt s 1 = 46 := by rw [← hs]; rfl
   (try simp -implicitDefEqProofs [f3, hb, hl, hA, h256, q46, q32, q60, q61, q62, q33])
   refine ⟨2, by omega, by omega, ?_⟩
   simp
  ·have hb : byteAt s 2 = 32 := by rw [← hs]; rfl
   have hsl : (s.take 2).drop 0 = [46, 46] := by rw [← hs]; rfl
   (try simp -implicitDefEqProofs [f3, hb, hsl, hl, hA, h256, q46, q32, q60, q61, q62, q33])
   refine loop_rule (X := Unit) (fun _ => True) (fun _ => [(0, vS s), (9, .bw 0 4), (10, vI 1), (12, vI 3)]) (fun _ => ⟨[.buf 9 1 ((f3 3).2.2.map fun x => vS x)], []⟩) (fun _ => 0) () trivial (by simp [f3]) ?_
   rintro ⟨⟩ _ _
   have hb2 : byteAt s 3 = 60 := by rw [← hs]; rfl
   (try simp -implicitDefEqProofs [f3, hb2, hl, hA, h256, q46, q32, q60, q61, q62, q33])
   refine ⟨3, by omega, by omega, ?_⟩
   simp
  ·have hb : byteAt s 3 = 60 := by rw [← hs]; rfl
   (try simp -implicitDefEqProofs [f3, hb, hl, hA, h256, q46, q32, q60, q61, q62, q33])
   refine ⟨4, by omega, by omega, ?_⟩
   simp
  ·have hb : byteAt s 4 = 61 := by rw [← hs]; rfl
   (try simp -implicitDefEqProofs [f3, hb, hl, hA, h256, q46, q32, q60, q61, q62, q33])
   refine ⟨5, by omega, by omega, ?_⟩
   simp
  ·have hb : byteAt s 5 = 32 := by rw [← hs]; rfl
   have hsl : (s.take 5).drop 3 = [60, 61] := by rw [← hs]; rfl
   (try simp -implicitDefEqProofs [f3, hb, hsl, hl, hA, h256, q46, q32, q60, q61, q62, q33])
   refine loop_rule (X := Unit) (fun _ => True) (fun _ => [(0, vS s), (9, .bw 0 4), (10, vI 2), (12, vI 6)]) (fun _ => ⟨[.buf 9 1 ((f3 6).2.2.map fun x => vS x)], []⟩) (fun _ => 0) () trivial (by simp [f3]) ?_
   rintro ⟨⟩ _ _
   have hb2 : byteAt s 6 = 62 := by rw [← hs]; rfl
   (try simp -implicitDefEqProofs [f3, hb2, hl, hA, h256, q46, q32, q60, q61, q62, q33])
   refine ⟨6, by omega, by omega, ?_⟩
   simp
  ·have hb : byteAt s 6 = 62 := by rw [← hs]; rfl
   (try simp -implicitDefEqProofs [f3, hb, hl, hA, h256, q46, q32, q60, q61, q62, q33])
   refine ⟨7, by omega, by omega, ?_⟩
   simp
  ·have hb : byteAt s 7 = 61 := by rw [← hs]; rfl
   (try simp -implicitDefEqProofs [f3, hb, hl, hA, h256, q46, q32, q60, q61, q62, q33])
   refine ⟨8, by omega, by omega, ?_⟩
   simp
  ·have hb : byteAt s 8 = 32 := by rw [← hs]; rfl
   have hsl : (s.take 8).drop 6 = [62, 61] := by rw [← hs]; rfl
   (try simp -implicitDefEqProofs [f3, hb, hsl, hl, hA, h256, q46, q32, q60, q61, q62, q33])
   refine loop_rule (X := Unit) (fun _ => True) (fun _ => [(0, vS s), (9, .bw 0 4), (10, vI 3), (12, vI 9)]) (fun _ => ⟨[.buf 9 1 ((f3 9).2.2.map fun x => vS x)], []⟩) (fun _ => 0) () trivial (by simp [f3]) ?_
   rintro ⟨⟩ _ _
   have hb2 : byteAt s 9 = 33 := by rw [← hs]; rfl
   (try simp -implicitDefEqProofs [f3, hb2, hl, hA, h256, q46, q32, q60, q61, q62, q33])
   refine ⟨9, by omega, by omega, ?_⟩
   simp
  ·have hb : byteAt s 9 = 33 := by rw [← hs]; rfl
   (try simp -implicitDefEqProofs [f3, hb, hl, hA, h256, q46, q32, q60, q61, q62, q33])
   refine ⟨10, by omega, by omega, ?_⟩
   simp
  ·have hb : byteAt s 10 = 61 := by rw [← hs]; rfl
   (try simp -implicitDefEqProofs [f3, hb, hl, hA, h256, q46, q32, q60, q61, q62, q33])
   refine ⟨11, by omega, by omega, ?_⟩
   simp
  ·have hsl : (s.take 11).drop 9 = [33, 61] := by rw [← hs]; rfl
   (try simp -implicitDefEqProofs [f3, hsl, hl, hA, h256, q46, q32, q60, q61, q62, q33])
   rfl
end Go.Proofs.YtpggidmbnjfmaaaGreatDoor
